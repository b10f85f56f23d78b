/- The layer 'line': a word without one. -/
import Derived.Test.YtdpefnebghljoaaLineFQ
namespace Go.Proofs.Ytdpefnebghljoaa
open Go.RowKit Go.Shelf
attribute [local go_sem] Oper.semAt_some

/-- A word without its k-th digit. -/
def cutN (n k : Nat) : Nat := n % 16 ^ k + n / 16 ^ (k + 1) * 16 ^ k
theorem cutN_le (n k : Nat) : cutN n k ≤ n := by
  unfold cutN
  have h1 := Nat.div_add_mod n (16 ^ k)
  have h2 : n / 16 ^ (k + 1) ≤ n / 16 ^ k := Nat.div_le_div_left (Nat.pow_le_pow_right (by decide) (by omega)) (Nat.pow_pos (by decide))
  have h3 := Nat.mul_le_mul_right (16 ^ k) h2
  rw [Nat.mul_comm] at h1
  omega
theorem cutN_bits (n k : Nat) : (n &&& (2 ^ (4 * k) - 1)) ||| (n / 16 ^ (k + 1) * 16 ^ k) = cutN n k := by
  have e : (16 : Nat) ^ k = 2 ^ (4 * k) := by rw [Nat.pow_mul]
  unfold cutN
  rw [e, Nat.and_two_pow_sub_one_eq_mod, Nat.mul_comm (n / 16 ^ (k + 1)), Nat.or_comm, ← Nat.two_pow_add_eq_or_of_lt (Nat.mod_lt _ (Nat.pow_pos (by decide))), Nat.add_comm]

theorem cut_or (n k A U z : Nat) (hn : n < 9223372036854775808) (h1 : A ≤ n) (h2 : U ≤ n) (hA : A = n % 2 ^ (4 * k)) (hU : U = n / 2 ^ (4 * k + 4) * 2 ^ (4 * k)) (hz : z = cutN n k) : bits .or .i64 (A : Int) (U : Int) = (z : Int) := by
  have e := cutN_bits n k
  rw [show (16 : Nat) ^ (k + 1) = 2 ^ (4 * k + 4) by rw [Nat.pow_succ, show (16 : Nat) ^ k = 2 ^ (4 * k) by rw [Nat.pow_mul], Nat.pow_add], Nat.and_two_pow_sub_one_eq_mod, show (16 : Nat) ^ k = 2 ^ (4 * k) by rw [Nat.pow_mul], ← hA, ← hU, ← hz] at e
  rw [bitsOr_i64 A U (by clear e hA hU hz; omega) (by clear e hA hU hz; omega), e]

/-- Of a word: without who, and whether who stood there. -/
def DropPost (w : World) (n : Nat) (who : Int) (e : Ending) (w' : World) : Prop :=
  Fr [] w w' ∧ ((who ∉ digW n ∧ e = .returned (.tuple #[.int .i64 (n : Int), .bool false])) ∨
    ∃ k : Nat, (digW n)[k]? = some who ∧ who ∉ (digW n).take k ∧ e = .returned (.tuple #[.int .i64 (cutN n k : Int), .bool true]))

def dropOb (b : Nat) (z : Int) (ok : Bool) : Nat → Nat → Obj := fun _ x => if x = b + 1 + 1 then .cells #[.int .i64 z] 3 else .cells #[.bool ok] 4

set_option maxHeartbeats 1000000 in
theorem drop_any (w : World) (n : Nat) (who : Int) (hn : n < 9223372036854775808) : Calls Try.prog 65 #[.int .i64 (n : Int), .int .i64 who] w (DropPost w n who) := by
  obtain ⟨L, hL⟩ : ∃ L, L = digW n := ⟨_, rfl⟩
  have h16 := length_digW n
  unfold DropPost
  rw [← hL] at h16 ⊢
  have HL := Lib.hid hL; clear hL
  refine (callsIn_wide (n := 3)).1 (callsIn_of_wp_marks Try.func65 rfl trivial (wpIn_wide.2 ?_) rfl)
  simp only [Try.ntmps65, List.size_toArray, List.length_cons, List.length_nil, Nat.reduceAdd, Nat.reduceSub, Array.replicate_succ, Array.replicate_zero, List.push_toArray, List.append_toArray, List.nil_append, List.cons_append]
  go_wp2_with fail
  refine (digits_any _ n hn).mono ?_
  rintro e w2 ⟨v, g, lb, rfl, rfl, hg, hI, f2, hlt2⟩
  have hq0 := (Stp.of_fr f2).at (heap_alloc_keep (heap_alloc_keep (heap_alloc_keep (heap_alloc_new w (.cells #[.int .i64 (n : Int)] 3)) (.cells #[.int .i64 who] 3)) (.cells #[.int .i64 0] 3)) (.cells #[.bool false] 4)) (by simp)
  have hw0 := (Stp.of_fr f2).at (heap_alloc_keep (heap_alloc_keep (heap_alloc_new (w.alloc (.cells #[.int .i64 (n : Int)] 3)) (.cells #[.int .i64 who] 3)) (.cells #[.int .i64 0] 3)) (.cells #[.bool false] 4)) (by simp)
  have hr0 := (Stp.of_fr f2).at (heap_alloc_keep (heap_alloc_new ((w.alloc (.cells #[.int .i64 (n : Int)] 3)).alloc (.cells #[.int .i64 who] 3)) (.cells #[.int .i64 0] 3)) (.cells #[.bool false] 4)) (by simp)
  have hs0 := (Stp.of_fr f2).at (heap_alloc_new (((w.alloc (.cells #[.int .i64 (n : Int)] 3)).alloc (.cells #[.int .i64 who] 3)).alloc (.cells #[.int .i64 0] 3)) (.cells #[.bool false] 4)) (by simp)
  have F2 := (((((Fr.refl [] w).alloc (.cells #[.int .i64 (n : Int)] 3)).alloc (.cells #[.int .i64 who] 3)).alloc (.cells #[.int .i64 0] 3)).alloc (.cells #[.bool false] 4)).trans f2
  simp only [World.size_alloc] at hI hlt2 hw0 hr0 hs0
  have HG := Lib.hid hg; have HI := Lib.hid hI; have HQ := Lib.hid hq0; have HW := Lib.hid hw0; have HR := Lib.hid hr0; have HS := Lib.hid hs0; clear hg hI hq0 hw0 hr0 hs0 f2
  have hb := F2.size
  obtain ⟨b, hbe⟩ : ∃ b, b = w.heap.size := ⟨_, rfl⟩
  rw [← hbe] at HI HQ HW HR HS hlt2 ⊢
  have hbw : w.heap.size ≤ b := by omega
  clear hbe
  have hs2 : ∀ (x : Nat), (x = b + 1 + 1 ∨ x = b + 1 + 1 + 1) → x = b + 1 + 1 ∨ x = b + 1 + 1 + 1 := fun _ h => h
  have qb := cell_of (i := 0) HQ.out rfl
  go_wp2
  refine wp_rangeE (xs := digP n) (enc := encP) rfl HG.out HI.out (fun x => rfl)
    (fun k W O => (∀ (j : Nat) (y : Int), j < k → L[j]? = some y → y ≠ who) ∧ BoxInv w2 (fun x => x = b + 1 + 1 + 1 + 1) (fun x => x = b + 1 + 1 ∨ x = b + 1 + 1 + 1) (dropOb b 0 false) k W O)
    (fun c k W O => (c = .ret ∧ ∃ j : Nat, k = j + 1 ∧ L[j]? = some who ∧ who ∉ L.take j) ∧ BoxInv w2 (fun x => x = b + 1 + 1 + 1 + 1) (fun x => x = b + 1 + 1 ∨ x = b + 1 + 1 + 1) (fun k => dropOb b (cutN n (k - 1)) true k) k W O)
    ((BoxInv.stable _ _ _ _ (Nat.le_refl _)).and (fun k => ∀ (j : Nat) (y : Int), j < k → L[j]? = some y → y ≠ who)) (fun c => (BoxInv.stable _ _ _ _ (Nat.le_refl _)).and (fun k => c = .ret ∧ ∃ j : Nat, k = j + 1 ∧ L[j]? = some who ∧ who ∉ L.take j))
    (fun x => x = b + 1 + 1 ∨ x = b + 1 + 1 + 1) (fun x hx => by show x < w2.heap.size; have := hs2 x hx; omega) (fun x hb h => by rcases hb with hb | hb; exact hb.elim; have := hs2 x h; have : x = b + 1 + 1 + 1 + 1 := hb; omega)
    ⟨fun j y hj => by omega, rfl, fun x hb => by
      rcases hs2 x hb with rfl | rfl
      · simpa [dropOb] using HR.out
      · simpa [dropOb] using HS.out, Stp.refl _ _⟩ ?round ?done ?stop
  case round =>
    have hmix : Try.prog.follows .mixedOrders = true := by kernel_rfl
    intro l' k x W1 O1 hx
    obtain ⟨hx1, hx2⟩ := get_of_digP hx
    rw [← HL.out] at hx2
    obtain ⟨xp, xw⟩ := x
    simp only at hx1 hx2
    subst hx1
    clear hx
    have hkl := (List.getElem?_eq_some_iff.1 hx2).1
    have HX := Lib.hid hx2; clear hx2
    simp only [encP, List.zip_toArray, List.zip_cons_cons, List.zip_nil_right, List.foldl_toArray', List.foldl_cons, List.foldl_nil, List.setIfInBounds_toArray, List.set_cons_zero, List.set_cons_succ]
    gi_wp2
    refine ⟨rfl, ?_⟩
    rintro W2 ⟨hno, hJ⟩ hb2 hsz2
    obtain rfl := hJ.1
    have hc1 : W2.heap[b + 1 + 1]? = some (.cells #[.int .i64 0] 3) := by have := hJ.2.1 (b + 1 + 1) (.inl rfl); simpa [dropOb] using this
    have hc2 : W2.heap[b + 1 + 1 + 1]? = some (.cells #[.bool false] 4) := by have := hJ.2.1 (b + 1 + 1 + 1) (.inr rfl); simpa [dropOb] using this
    have q1 : W2.cell? ⟨b, 0, none⟩ = some (.int .i64 (n : Int)) := cell_of (i := 0) (hJ.2.2.at HQ.out (by show ¬ ((b = b + 1 + 1 ∨ b = b + 1 + 1 + 1) ∨ b = b + 1 + 1 + 1 + 1); omega)) rfl
    have q2 : W2.cell? ⟨b + 1, 0, none⟩ = some (.int .i64 who) := cell_of (i := 0) (hJ.2.2.at HW.out (by show ¬ ((b + 1 = b + 1 + 1 ∨ b + 1 = b + 1 + 1 + 1) ∨ b + 1 = b + 1 + 1 + 1 + 1); omega)) rfl
    have q3 : W2.cell? ⟨b + 1 + 1, 0, none⟩ = some (.int .i64 0) := cell_of (i := 0) hc1 rfl
    have q4 : W2.frozen? ⟨b + 1 + 1, 0, none⟩ = false := frozen_of hc1
    have q5 : W2.cell? ⟨b + 1 + 1 + 1, 0, none⟩ = some (.bool false) := cell_of (i := 0) hc2 rfl
    have q6 : W2.frozen? ⟨b + 1 + 1 + 1, 0, none⟩ = false := frozen_of hc2
    have HJ := Lib.hid hJ; have HC1 := Lib.hid hc1; have HC2 := Lib.hid hc2; have HNO := Lib.hid hno; clear hJ hc1 hc2 hno
    by_cases he : xw = who
    · subst he
      have hk4 : (4 * (k : Int)).toNat = 4 * k := by omega
      have hk5 : (4 * ((k : Int) + 1)).toNat = 4 * k + 4 := by omega
      have hw4 : IntKind.i64.wrap (4 * (k : Int)) = 4 * (k : Int) := by rw [IntKind.wrap_i64]; omega
      have hsh : ∀ x : Int, 0 ≤ x → x ≤ 64 → Op.shift .shl .i64 1 .i64 x = pure (.int .i64 (IntKind.i64.wrap (1 * 2 ^ x.toNat))) := fun x h0 h1 => shift_shl .i64 .i64 1 x h0 h1
      have hsh2 := hsh (4 * (k : Int)) (by omega) (by omega)
      clear hsh
      have hpl : (2 : Nat) ^ (4 * k) ≤ 2 ^ 60 := Nat.pow_le_pow_right (by decide) (by omega)
      have hp1 : 1 ≤ (2 : Nat) ^ (4 * k) := Nat.pow_pos (by decide)
      have hpc : ((2 ^ (4 * k) : Nat) : Int) = (2 : Int) ^ (4 * k) := by simp
      have hwrap : IntKind.i64.wrap ((2 : Int) ^ (4 * k)) = (2 : Int) ^ (4 * k) := by rw [← hpc, IntKind.wrap_i64]; clear hpc; generalize 2 ^ (4 * k) = p at hpl ⊢; omega
      rw [hk4, Int.one_mul, hwrap] at hsh2
      have hand := bitsAnd_i64 n (2 ^ (4 * k) - 1) (by omega) (by omega)
      rw [show ((2 ^ (4 * k) - 1 : Nat) : Int) = (2 : Int) ^ (4 * k) - 1 by rw [← hpc]; clear hpc; generalize 2 ^ (4 * k) = p at hp1 ⊢; omega] at hand
      have hws : IntKind.i64.wrap ((2 : Int) ^ (4 * k) - 1) = (2 : Int) ^ (4 * k) - 1 := by rw [← hpc, IntKind.wrap_i64]; clear hpc; generalize 2 ^ (4 * k) = p at hpl hp1 ⊢; omega
      clear hpc
      gi_wp2
      refine region_round hmix (by simp) ?_
      refine wpAnyIn_take (i := 1) (oi := _) (v := ?_) rfl rfl (by kernel_rfl) (by kernel_rfl) (by kernel_rfl) (fun _ _ _ h => h) ⟨Or.inl ⟨by rfl, ?_⟩, fun _ => rfl⟩ ?_
      rotate_left
      · intro w
        try simp only [List.getElem_toArray, List.getElem_cons_succ, List.getElem_cons_zero]
        go_simp
        try with_reducible rfl
      try simp only [Act.put, List.getElem_toArray, List.getElem_cons_succ, List.getElem_cons_zero, List.setIfInBounds_toArray, List.set_cons_zero, List.set_cons_succ]
      refine wpAnyIn_take (i := 2) (oi := _) (v := ?_) rfl rfl (by kernel_rfl) (by kernel_rfl) (by kernel_rfl) (fun _ _ _ h => h) ⟨Or.inl ⟨by rfl, ?_⟩, fun _ => rfl⟩ ?_
      rotate_left
      · intro w
        try simp only [List.getElem_toArray, List.getElem_cons_succ, List.getElem_cons_zero]
        go_simp
        try with_reducible rfl
      try simp only [Act.put, List.getElem_toArray, List.getElem_cons_succ, List.getElem_cons_zero, List.setIfInBounds_toArray, List.set_cons_zero, List.set_cons_succ]
      refine wpAnyIn_take (i := 3) (oi := _) (v := ?_) rfl rfl (by kernel_rfl) (by kernel_rfl) (by kernel_rfl) (fun _ _ _ h => h) ⟨Or.inl ⟨by rfl, ?_⟩, fun _ => rfl⟩ ?_
      rotate_left
      · intro w
        try simp only [List.getElem_toArray, List.getElem_cons_succ, List.getElem_cons_zero]
        go_simp
        try with_reducible rfl
      try simp only [Act.put, List.getElem_toArray, List.getElem_cons_succ, List.getElem_cons_zero, List.setIfInBounds_toArray, List.set_cons_zero, List.set_cons_succ]
      refine wpAnyIn_take (i := 4) (oi := _) (v := ?_) rfl rfl (by kernel_rfl) (by kernel_rfl) (by kernel_rfl) (fun _ _ _ h => h) ⟨Or.inl ⟨by rfl, ?_⟩, fun _ => rfl⟩ ?_
      rotate_left
      · intro w
        try simp only [List.getElem_toArray, List.getElem_cons_succ, List.getElem_cons_zero]
        go_simp
        try with_reducible rfl
      try simp only [Act.put, List.getElem_toArray, List.getElem_cons_succ, List.getElem_cons_zero, List.setIfInBounds_toArray, List.set_cons_zero, List.set_cons_succ]
      refine wpAnyIn_ready (rs := [0]) (by kernel_rfl) (by simp) ?_
      refine (AllReadyIn.cons (o := _) rfl (fun K hK => ?_) AllReadyIn.nil)
      simp only [List.getElem_toArray, List.getElem_cons_zero]
      try rw [if_pos (by rfl)]
      unfold Oper.wpIn
      refine ⟨fun _ _ => trivial, ?_⟩
      rw [show Fence.wide.round = none from rfl, Oper.semAt_none]
      go_simp
      refine hK _ _ ?_
      clear hK K
      try simp only [Act.put, List.getElem_toArray, List.getElem_cons_zero, List.setIfInBounds_toArray, List.set_cons_zero, List.set_cons_succ]
      refine wpAnyIn_take (i := 5) (oi := _) (v := ?_) rfl rfl (by kernel_rfl) (by kernel_rfl) (by kernel_rfl) (fun _ _ _ h => h) ⟨Or.inl ⟨by rfl, ?_⟩, fun _ => rfl⟩ ?_
      rotate_left
      · intro w
        try simp only [List.getElem_toArray, List.getElem_cons_succ, List.getElem_cons_zero]
        go_simp
        try with_reducible rfl
      try simp only [Act.put, List.getElem_toArray, List.getElem_cons_succ, List.getElem_cons_zero, List.setIfInBounds_toArray, List.set_cons_zero, List.set_cons_succ]
      refine wpAnyIn_take (i := 6) (oi := _) (v := ?_) rfl rfl (by kernel_rfl) (by kernel_rfl) (by kernel_rfl) (fun _ _ _ h => h) ⟨Or.inl ⟨by rfl, ?_⟩, fun _ => rfl⟩ ?_
      rotate_left
      · intro w
        try simp only [List.getElem_toArray, List.getElem_cons_succ, List.getElem_cons_zero]
        go_simp
        try with_reducible rfl
      try simp only [Act.put, List.getElem_toArray, List.getElem_cons_succ, List.getElem_cons_zero, List.setIfInBounds_toArray, List.set_cons_zero, List.set_cons_succ]
      refine wpAnyIn_done (by kernel_rfl) ?_ _
      have hw5 : IntKind.i64.wrap (4 * ((k : Int) + 1)) = 4 * ((k : Int) + 1) := by rw [IntKind.wrap_i64]; omega
      obtain ⟨U, hU⟩ : ∃ U, U = n / 2 ^ (4 * k + 4) * 2 ^ (4 * k) := ⟨_, rfl⟩
      obtain ⟨A, hA⟩ : ∃ A, A = n % 2 ^ (4 * k) := ⟨_, rfl⟩
      have hUn : U ≤ n := by
        have h1 : n / 2 ^ (4 * k + 4) ≤ n / 2 ^ (4 * k) := Nat.div_le_div_left (Nat.pow_le_pow_right (by decide) (by omega)) (Nat.pow_pos (by decide))
        have h2 := Nat.mul_le_mul_right (2 ^ (4 * k)) h1
        have h3 := Nat.div_mul_le_self n (2 ^ (4 * k))
        omega
      have hAn : A ≤ n := by rw [hA]; exact Nat.mod_le _ _
      have hw64 : wrap64 ((n : Int) / 2 ^ (4 * k + 4) * 2 ^ (4 * k)) = (U : Int) := by
        have e : ((n : Int) / 2 ^ (4 * k + 4) * 2 ^ (4 * k)) = (U : Int) := by rw [hU]; simp
        rw [e]; unfold wrap64; omega
      have hA2 : (n : Int) % 2 ^ (4 * k) = (A : Int) := by rw [hA]; simp
      obtain ⟨z, hz⟩ : ∃ z, z = cutN n k := ⟨_, rfl⟩
      have hor : bits .or .i64 (A : Int) (U : Int) = (z : Int) := cut_or n k A U z hn hAn hUn hA hU hz
      have HZ := Lib.hid hz
      clear hU hA hand hz
      have HX2 := Lib.hid (show L[k]? = some xw ∧ xw ∉ L.take k from ⟨HX.out, fun hm => by
        obtain ⟨j, hj⟩ := List.getElem?_of_mem hm
        rw [List.getElem?_take] at hj
        split at hj
        · rename_i hjk; exact HNO.out j xw hjk hj rfl
        · cases hj⟩)
      have fin := HJ.out.next (W3 := ((W2.setCell ⟨b + 1 + 1, 0, none⟩ (.int .i64 (z : Int))).setCell ⟨b + 1 + 1 + 1, 0, none⟩ (.bool true)).drew) (ob' := fun k => dropOb b (cutN n (k - 1)) true k) (k' := k + 1)
        ((((Stp.refl (fun x => x = b + 1 + 1 ∨ x = b + 1 + 1 + 1) W2).setCell (p := ⟨b + 1 + 1, 0, none⟩) (.inl (.inl rfl)) _).setCell (p := ⟨b + 1 + 1 + 1, 0, none⟩) (.inl (.inr rfl)) _).drew) (fun x hb => by
          rcases hs2 x hb with rfl | rfl
          · show ((W2.setCell ⟨b + 1 + 1, 0, none⟩ (.int .i64 (z : Int))).setCell ⟨b + 1 + 1 + 1, 0, none⟩ (.bool true)).heap[b + 1 + 1]? = _
            rw [Below.heap_setCell _ _ _ _ (show b + 1 + 1 ≠ b + 1 + 1 + 1 by omega)]
            have := heap_setCell_same (i := 0) HC1.out (.int .i64 (z : Int))
            simpa [dropOb, HZ.out] using this
          · have h2 : (W2.setCell ⟨b + 1 + 1, 0, none⟩ (.int .i64 (z : Int))).heap[b + 1 + 1 + 1]? = some (.cells #[.bool false] 4) := (Below.heap_setCell _ _ _ _ (show b + 1 + 1 + 1 ≠ b + 1 + 1 by omega)).trans HC2.out
            have := heap_setCell_same (i := 0) h2 (.bool true)
            show ((W2.setCell ⟨b + 1 + 1, 0, none⟩ (.int .i64 (z : Int))).setCell ⟨b + 1 + 1 + 1, 0, none⟩ (.bool true)).heap[b + 1 + 1 + 1]? = _
            simpa [dropOb] using this)
      have FIN := Lib.hid fin; clear fin hs2
      gi_wp2
      obtain ⟨O', s1, s2, s3⟩ := FIN.out
      exact ⟨O', s1, s2, ⟨rfl, k, rfl, HX2.out.1, HX2.out.2⟩, s3⟩
    · have hno' : ∀ (j : Nat) (y : Int), j < k + 1 → L[j]? = some y → y ≠ who := fun j y hj hy => by
        rcases Nat.lt_or_ge j k with h | h
        · exact HNO.out j y h hy
        · obtain rfl : j = k := by omega
          rw [HX.out] at hy
          simp only [Option.some.injEq] at hy
          exact hy ▸ he
      have HN := Lib.hid hno'; clear hno'
      gi_wp2
      obtain ⟨O', s1, s2, s3⟩ := HJ.out.next (W3 := W2) (ob' := dropOb b 0 false) (k' := k + 1) (Stp.refl _ _) (fun x hb => HJ.out.2.1 x hb)
      exact ⟨O', s1, s2, HN.out, s3⟩
  case done =>
    rintro D W' O' hD ⟨hno, hJ⟩ _ hst _ hK hnD
    obtain rfl := hJ.1
    have hm : who ∉ L := not_mem_of_all (by rw [length_digP, HL.out]; exact Nat.le_refl _) hno
    have hc1 : W'.heap[b + 1 + 1]? = some (.cells #[.int .i64 0] 3) := by have := hJ.2.1 (b + 1 + 1) (.inl rfl); simpa [dropOb] using this
    have hc2 : W'.heap[b + 1 + 1 + 1]? = some (.cells #[.bool false] 4) := by have := hJ.2.1 (b + 1 + 1 + 1) (.inr rfl); simpa [dropOb] using this
    have q1 : W'.cell? ⟨b, 0, none⟩ = some (.int .i64 (n : Int)) := cell_of (i := 0) (hJ.2.2.at HQ.out (by show ¬ ((b = b + 1 + 1 ∨ b = b + 1 + 1 + 1) ∨ b = b + 1 + 1 + 1 + 1); omega)) rfl
    have q3 : W'.cell? ⟨b + 1 + 1, 0, none⟩ = some (.int .i64 0) := cell_of (i := 0) hc1 rfl
    have q4 : W'.frozen? ⟨b + 1 + 1, 0, none⟩ = false := frozen_of hc1
    have q5 : W'.cell? ⟨b + 1 + 1 + 1, 0, none⟩ = some (.bool false) := cell_of (i := 0) hc2 rfl
    have q6 : W'.frozen? ⟨b + 1 + 1 + 1, 0, none⟩ = false := frozen_of hc2
    have hD1 : D ≠ b + 1 + 1 := fun e => hnD (.inl e)
    have hD2 : D ≠ b + 1 + 1 + 1 := fun e => hnD (.inr e)
    have h2 : (W'.setCell ⟨b + 1 + 1, 0, none⟩ (.int .i64 (n : Int))).heap[b + 1 + 1 + 1]? = some (.cells #[.bool false] 4) := (Below.heap_setCell _ _ _ _ (show b + 1 + 1 + 1 ≠ b + 1 + 1 by omega)).trans hc2
    have r1 : (((W'.setCell ⟨b + 1 + 1, 0, none⟩ (.int .i64 (n : Int))).setCell ⟨b + 1 + 1 + 1, 0, none⟩ (.bool false)).putObj D (.deferred none)).cell? ⟨b + 1 + 1, 0, none⟩ = some (.int .i64 (n : Int)) := by
      refine cell_of (i := 0) (c := #[.int .i64 (n : Int)]) (t := 3) (z := (0, 0)) ?_ rfl
      rw [World.putObj_heap_other (fun e => hD1 e.symm), Below.heap_setCell _ _ _ _ (show b + 1 + 1 ≠ b + 1 + 1 + 1 by omega)]
      have := heap_setCell_same (i := 0) hc1 (.int .i64 (n : Int))
      simpa using this
    have r2 : (((W'.setCell ⟨b + 1 + 1, 0, none⟩ (.int .i64 (n : Int))).setCell ⟨b + 1 + 1 + 1, 0, none⟩ (.bool false)).putObj D (.deferred none)).cell? ⟨b + 1 + 1 + 1, 0, none⟩ = some (.bool false) := by
      refine cell_of (i := 0) (c := #[.bool false]) (t := 4) (z := (0, 0)) ?_ rfl
      rw [World.putObj_heap_other (fun e => hD2 e.symm)]
      have := heap_setCell_same (i := 0) h2 (.bool false)
      simpa using this
    have hK2 : ((W'.setCell ⟨b + 1 + 1, 0, none⟩ (.int .i64 (n : Int))).setCell ⟨b + 1 + 1 + 1, 0, none⟩ (.bool false)).heap[D]? = some (.deferred (some [])) := (Below.heap_setCell _ _ _ _ hD2).trans ((Below.heap_setCell _ _ _ _ hD1).trans hK)
    have fin : Fr [] w (((W'.setCell ⟨b + 1 + 1, 0, none⟩ (.int .i64 (n : Int))).setCell ⟨b + 1 + 1 + 1, 0, none⟩ (.bool false)).putObj D (.deferred none)) := (((((Stp.of_fr F2).then hst (fun x hx => by right; have hx2 : (x = b + 1 + 1 ∨ x = b + 1 + 1 + 1) ∨ x = b + 1 + 1 + 1 + 1 := hx; omega)).setCell (p := ⟨b + 1 + 1, 0, none⟩) (.inr (by show w.heap.size ≤ b + 1 + 1; omega)) _).setCell (p := ⟨b + 1 + 1 + 1, 0, none⟩) (.inr (by show w.heap.size ≤ b + 1 + 1 + 1; omega)) _).putObj (.inr (by omega)) _).to_fr (fun x hx => by simp at hx)
    have FIN := Lib.hid fin; have R1 := Lib.hid r1; have R2 := Lib.hid r2; have HK2 := Lib.hid hK2; have HM := Lib.hid hm; clear fin r1 r2 hK2 hst hJ hc1 hc2 h2 hs2 hno hm
    go_wp2
    refine leave_ret_at (.tuple #[.int .i64 (n : Int), .bool false]) HK2.out ?_ ?_
    · have r1 := R1.out
      have r2 := R2.out
      simp [results, Try.f65, go_sem, r1, r2]
    · exact ⟨FIN.out, .inl ⟨HM.out, rfl⟩⟩
  case stop =>
    rintro D c k W' O' hD hk ⟨⟨rfl, j, hkj, hj1, hj2⟩, hJ⟩ _ hst _ hK hnD
    obtain rfl : j = k := by omega
    clear hkj
    obtain rfl := hJ.1
    have hc1 : W'.heap[b + 1 + 1]? = some (.cells #[.int .i64 (cutN n j : Int)] 3) := by have := hJ.2.1 (b + 1 + 1) (.inl rfl); simpa [dropOb] using this
    have hc2 : W'.heap[b + 1 + 1 + 1]? = some (.cells #[.bool true] 4) := by have := hJ.2.1 (b + 1 + 1 + 1) (.inr rfl); simpa [dropOb] using this
    have hD1 : D ≠ b + 1 + 1 := fun e => hnD (.inl e)
    have hD2 : D ≠ b + 1 + 1 + 1 := fun e => hnD (.inr e)
    have r1 : (W'.putObj D (.deferred none)).cell? ⟨b + 1 + 1, 0, none⟩ = some (.int .i64 (cutN n j : Int)) := by
      refine cell_of (i := 0) (c := #[.int .i64 (cutN n j : Int)]) (t := 3) (z := (0, 0)) ?_ rfl
      rw [World.putObj_heap_other (fun e => hD1 e.symm)]; exact hc1
    have r2 : (W'.putObj D (.deferred none)).cell? ⟨b + 1 + 1 + 1, 0, none⟩ = some (.bool true) := by
      refine cell_of (i := 0) (c := #[.bool true]) (t := 4) (z := (0, 0)) ?_ rfl
      rw [World.putObj_heap_other (fun e => hD2 e.symm)]; exact hc2
    have fin : Fr [] w (W'.putObj D (.deferred none)) := (((Stp.of_fr F2).then hst (fun x hx => by right; have hx2 : (x = b + 1 + 1 ∨ x = b + 1 + 1 + 1) ∨ x = b + 1 + 1 + 1 + 1 := hx; omega)).putObj (.inr (by omega)) _).to_fr (fun x hx => by simp at hx)
    have FIN := Lib.hid fin; have R1 := Lib.hid r1; have R2 := Lib.hid r2; have HM := Lib.hid (And.intro hj1 hj2); clear fin r1 r2 hst hJ hc1 hc2 hs2 hj1 hj2
    go_wp2
    refine leave_ret_at (.tuple #[.int .i64 (cutN n j : Int), .bool true]) hK ?_ ?_
    · have r1 := R1.out
      have r2 := R2.out
      simp [results, Try.f65, go_sem, r1, r2]
    · exact ⟨FIN.out, .inr ⟨j, HM.out.1, HM.out.2, rfl⟩⟩

end Go.Proofs.Ytdpefnebghljoaa
