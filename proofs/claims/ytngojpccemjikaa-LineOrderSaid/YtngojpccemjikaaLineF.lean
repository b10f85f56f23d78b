/- The layer 'line': whether a word is a line's. -/
import Derived.Test.YtngojpccemjikaaLineE
import Derived.Test.YtngojpccemjikaaBits
namespace Go.Proofs.Ytngojpccemjikaa
open Go.RowKit Go.Shelf
attribute [local go_sem] Oper.semAt_some

/-- In a round a region goes as anywhere, where it defers nothing. -/
theorem opIn_round {P : Program} {n r : Nat} {o : Oper} {a : Act} {w : World} {K : Act → World → Prop} {Q : Exit → Act → World → Prop} (hd : ∀ c, o.op ≠ .defer c) (h : o.wpIn Fence.wide n P a w K Q) : o.wpIn (Fence.wide.inRound r) n P a w K Q := by
  unfold Oper.wpIn at *
  refine ⟨fun _ _ => trivial, ?_⟩
  have h2 := h.2
  rw [show Fence.wide.round = none from rfl, Oper.semAt_none] at h2
  rw [Fence.inRound_round, Oper.semAt_some _ _ _ hd]
  exact h2
theorem anyIn_round {P : Program} {n r : Nat} {md : Region.Mode} {ops : Array Oper} {Q : Exit → Act → World → Prop} (hd : ∀ (i : Nat) (o : Oper), ops[i]? = some o → ∀ c, o.op ≠ .defer c) :
    ∀ (fuel : Nat) (listed : Array Bool) (a : Act) (w : World), wpAnyIn Fence.wide n P md ops Q fuel listed a w → wpAnyIn (Fence.wide.inRound r) n P md ops Q fuel listed a w
  | 0, _, _, _, h => h
  | fuel + 1, _, _, _, h => ⟨h.1, fun i hi => by
    have h2 := wpOpIn_mono (fun a' w' h' => anyIn_round (r := r) hd fuel _ a' w' h') (h.2 i hi)
    unfold wpOpIn at h2 ⊢
    cases ho : ops[i]? with
    | none => simpa only [ho] using h2
    | some o =>
      simp only [ho] at h2 ⊢
      split
      · rename_i hw
        rw [if_pos hw] at h2
        exact opIn_round (hd i o ho) h2
      · rename_i hw
        rw [if_neg hw] at h2
        exact ⟨fun _ _ => trivial, h2.2⟩⟩
theorem region_round {P : Program} {n r id : Nat} {ops : Array Oper} {Q : Exit → Act → World → Prop} {a : Act} {w : World} (hm : P.follows .mixedOrders = true) (hd : ∀ o ∈ ops.toList, ∀ c, o.op ≠ .defer c)
    (h : wpAnyIn Fence.wide n P .any ops Q ops.size (Array.replicate ops.size false) a w.drew) : (Code.region id ops true).wpIn (Fence.wide.inRound r) n P Q a w :=
  wpIn_region_any hm (anyIn_round (fun i o ho => hd o (by rw [Array.mem_toList_iff]; exact Array.mem_of_getElem? ho)) _ _ _ _ h)

/-- The first k of L may stand in a line. -/
def Rgt (L : List Int) (k : Nat) : Prop := ∀ (j : Nat) (x : Int), j < k → L[j]? = some x → j < 15 ∧ 0 ≤ x ∧ x ∉ L.take j
theorem Rgt.zero (L : List Int) : Rgt L 0 := fun j x h => by omega
theorem Rgt.succ {L : List Int} {k : Nat} {x : Int} (h : Rgt L k) (hx : L[k]? = some x) (h1 : k < 15) (h2 : 0 ≤ x) (h3 : x ∉ L.take k) : Rgt L (k + 1) := fun j y hj hy => by
  rcases Nat.lt_or_ge j k with hl | hl
  · exact h j y hl hy
  · obtain rfl : j = k := by omega
    rw [hx] at hy
    cases hy
    exact ⟨h1, h2, h3⟩
/-- The bits of those that were seen. -/
def maskN (l : List Int) : Nat := l.foldl (fun m x => m ||| 2 ^ x.toNat) 0
theorem maskN_snoc {L : List Int} {k : Nat} {x : Int} (hx : L[k]? = some x) : maskN (L.take (k + 1)) = maskN (L.take k) ||| 2 ^ x.toNat := by
  rw [List.take_add_one, hx]; simp [maskN, List.foldl_append]
theorem fold_bit : ∀ (l : List Int) (m i : Nat), (l.foldl (fun m x => m ||| 2 ^ x.toNat) m).testBit i = (m.testBit i || l.any (fun x => x.toNat == i))
  | [], m, i => by simp
  | x :: t, m, i => by
    rw [List.foldl_cons, fold_bit t]
    rw [Nat.testBit_or, Nat.testBit_two_pow]
    simp only [List.any_cons, Bool.or_assoc]
    congr 1
theorem maskN_bit (l : List Int) (i : Nat) : (maskN l).testBit i = l.any (fun x => x.toNat == i) := by
  unfold maskN; rw [fold_bit]; simp
theorem fold_lt : ∀ (l : List Int) (m : Nat), m < 2 ^ 15 → (∀ x ∈ l, x ≤ 14) → l.foldl (fun m x => m ||| 2 ^ x.toNat) m < 2 ^ 15
  | [], m, h, _ => h
  | x :: t, m, h, hl => by
    rw [List.foldl_cons]
    refine fold_lt t _ (Nat.or_lt_two_pow h ?_) (fun y hy => hl y (List.mem_cons_of_mem _ hy))
    exact Nat.pow_lt_pow_right (by decide) (by have := hl x List.mem_cons_self; omega)
theorem maskN_lt (l : List Int) (h : ∀ x ∈ l, x ≤ 14) : maskN l < 32768 := fold_lt l 0 (by decide) h
theorem and_pow_ne (n i : Nat) : (n &&& 2 ^ i ≠ 0) ↔ n.testBit i = true := by
  constructor
  · intro h
    cases hb : n.testBit i with
    | true => rfl
    | false =>
      refine absurd (Nat.eq_of_testBit_eq fun j => ?_) h
      rw [Nat.testBit_and, Nat.testBit_two_pow, Nat.zero_testBit]
      by_cases hij : i = j
      · subst hij; simp [hb]
      · simp [hij]
  · intro h he
    have h2 : (n &&& 2 ^ i).testBit i = true := by rw [Nat.testBit_and, Nat.testBit_two_pow, h]; simp
    rw [he, Nat.zero_testBit] at h2
    cases h2
theorem maskN_mem {l : List Int} (h : ∀ x ∈ l, 0 ≤ x) {x : Int} (h0 : 0 ≤ x) : (maskN l &&& 2 ^ x.toNat ≠ 0) ↔ x ∈ l := by
  rw [and_pow_ne]
  have e : (maskN l).testBit x.toNat = decide (x ∈ l) := by
    rw [maskN_bit, Bool.eq_iff_iff]
    simp only [List.any_eq_true, beq_iff_eq, decide_eq_true_eq]
    constructor
    · rintro ⟨y, hy, he⟩
      have := h y hy
      obtain rfl : y = x := by omega
      exact hy
    · exact fun hm => ⟨x, hm, rfl⟩
  rw [e, decide_eq_true_eq]
theorem digF_le : ∀ (f n : Nat) (x : Int), x ∈ digF f n → x ≤ 14
  | 0, n, x, h => by simp [digF] at h
  | f + 1, n, x, h => by
    rw [digF] at h
    split at h
    · simp at h
    · rcases List.mem_cons.1 h with rfl | h
      · omega
      · exact digF_le f _ x h
theorem digW_le {n : Nat} {x : Int} (h : x ∈ digW n) : x ≤ 14 := digF_le 16 n x h

def RightPost (w : World) (L : List Int) (e : Ending) (w' : World) : Prop := ∃ r : Bool, e = .returned (.bool r) ∧ (r = true ↔ Rgt L L.length) ∧ Fr [] w w'

/-- The result's cell, and the seen ones' bits. -/
def rightOb (b : Nat) (M : Nat → Nat) : Nat → Nat → Obj := fun k x => if x = b then .cells #[.bool false] 4 else .cells #[.int .i64 (M k : Int)] 3

set_option maxHeartbeats 1000000 in
theorem right_any (w : World) (n : Nat) (hn : n < 9223372036854775808) : Calls Try.prog 12 #[.int .i64 (n : Int)] w (RightPost w (digW n)) := by
  obtain ⟨L, hL⟩ : ∃ L, L = digW n := ⟨_, rfl⟩
  have h14 : ∀ x ∈ L, x ≤ 14 := fun x hx => digW_le (by rw [← hL]; exact hx)
  have h16 := length_digW n
  rw [← hL] at h16 ⊢
  have HL := Lib.hid hL; have H14 := Lib.hid h14; clear hL h14
  refine (callsIn_wide (n := 3)).1 (callsIn_of_wp_marks Try.func12 rfl trivial (wpIn_wide.2 ?_) rfl)
  simp only [Try.ntmps12, List.size_toArray, List.length_cons, List.length_nil, Nat.reduceAdd, Nat.reduceSub, Array.replicate_succ, Array.replicate_zero, List.push_toArray, List.append_toArray, List.nil_append, List.cons_append]
  have hn0 : ¬ (n : Int) < 0 := by omega
  go_wp2_with fail
  refine (digits_any _ n hn).mono ?_
  rintro e w2 ⟨v, g, lb, rfl, rfl, hg, hI, f2, hlt2⟩
  have hc0 := (Stp.of_fr f2).at (heap_alloc_new (w.alloc (.cells #[.bool false] 4)) (.cells #[.int .i64 0] 3)) (by simp)
  have hw0 := (Stp.of_fr f2).at (heap_alloc_keep (heap_alloc_new w (.cells #[.bool false] 4)) (.cells #[.int .i64 0] 3)) (by simp)
  have F2 := (((Fr.refl [] w).alloc (.cells #[.bool false] 4)).alloc (.cells #[.int .i64 0] 3)).trans f2
  simp only [World.size_alloc] at hI hlt2 hc0
  have HG := Lib.hid hg; have HI := Lib.hid hI; have HC := Lib.hid hc0; have HW := Lib.hid hw0; clear hg hI hc0 f2 hw0
  have hb := F2.size
  obtain ⟨b, hbe⟩ : ∃ b, b = w.heap.size := ⟨_, rfl⟩
  rw [← hbe] at HI HC HW hlt2 ⊢
  have hbw : w.heap.size ≤ b := by omega
  clear hbe hn0
  have hs2 : ∀ (x : Nat), (x = b ∨ x = b + 1) → x = b ∨ x = b + 1 := fun _ h => h
  go_wp2
  refine wp_rangeE (xs := digP n) (enc := encP) rfl HG.out HI.out (fun x => rfl)
    (fun k W O => Rgt L k ∧ BoxInv w2 (fun x => x = b + 1 + 1) (fun x => x = b ∨ x = b + 1) (rightOb b (fun k => maskN (L.take k))) k W O)
    (fun c k W O => (c = .ret ∧ ¬ Rgt L L.length) ∧ BoxInv w2 (fun x => x = b + 1 + 1) (fun x => x = b ∨ x = b + 1) (rightOb b (fun k => maskN (L.take (k - 1)))) k W O)
    ((BoxInv.stable _ _ _ _ (Nat.le_refl _)).and (fun k => Rgt L k)) (fun c => (BoxInv.stable _ _ _ _ (Nat.le_refl _)).and (fun _ => c = .ret ∧ ¬ Rgt L L.length))
    (fun x => x = b ∨ x = b + 1) (fun x hx => by show x < w2.heap.size; have := hs2 x hx; omega) (fun x hb h => by rcases hb with hb | hb; exact hb.elim; have := hs2 x h; have : x = b + 1 + 1 := hb; omega)
    ⟨Rgt.zero L, rfl, fun x hb => by
      rcases hs2 x hb with rfl | rfl
      · simpa [rightOb] using HW.out
      · simpa [rightOb, maskN] using HC.out, Stp.refl _ _⟩ ?round ?done ?stop
  case round =>
    have hmix : Try.prog.follows .mixedOrders = true := by kernel_rfl
    intro l' k x W1 O1 hx
    obtain ⟨hx1, hx2⟩ := get_of_digP hx
    rw [← HL.out] at hx2
    obtain ⟨xp, xw⟩ := x
    simp only at hx1 hx2
    subst hx1
    clear hx
    have hxL : xw ≤ 14 := H14.out xw (List.mem_of_getElem? hx2)
    have hkl := (List.getElem?_eq_some_iff.1 hx2).1
    have HX := Lib.hid hx2; clear hx2
    simp only [encP, List.zip_toArray, List.zip_cons_cons, List.zip_nil_right, List.foldl_toArray', List.foldl_cons, List.foldl_nil, List.setIfInBounds_toArray, List.set_cons_zero, List.set_cons_succ]
    gi_wp2
    refine ⟨rfl, ?_⟩
    rintro W2 ⟨hno, hJ⟩ hb2 hsz2
    obtain rfl := hJ.1
    obtain ⟨M, hM⟩ : ∃ M, M = maskN (L.take k) := ⟨_, rfl⟩
    have hc1 : W2.heap[b]? = some (.cells #[.bool false] 4) := by have := hJ.2.1 b (.inl rfl); simpa [rightOb] using this
    have hc2 : W2.heap[b + 1]? = some (.cells #[.int .i64 (M : Int)] 3) := by have := hJ.2.1 (b + 1) (.inr rfl); rw [hM]; simpa [rightOb] using this
    have hMl : M < 32768 := by rw [hM]; exact maskN_lt _ (fun y hy => H14.out y (List.mem_of_mem_take hy))
    have q1 : W2.cell? ⟨b, 0, none⟩ = some (.bool false) := cell_of (i := 0) hc1 rfl
    have q2 : W2.frozen? ⟨b, 0, none⟩ = false := frozen_of hc1
    have q3 : W2.cell? ⟨b + 1, 0, none⟩ = some (.int .i64 (M : Int)) := cell_of (i := 0) hc2 rfl
    have q4 : W2.frozen? ⟨b + 1, 0, none⟩ = false := frozen_of hc2
    have finN := hJ.next (W3 := (W2.setCell ⟨b, 0, none⟩ (.bool false)).drew) (ob' := rightOb b (fun k => maskN (L.take (k - 1)))) (k' := k + 1)
      (((Stp.refl (fun x => x = b ∨ x = b + 1) W2).setCell (p := ⟨b, 0, none⟩) (.inl (.inl rfl)) _).drew) (fun x hb => by
        rcases hs2 x hb with rfl | rfl
        · have := heap_setCell_same (i := 0) hc1 (.bool false)
          refine Eq.trans this ?_
          simp [rightOb]
        · refine (Below.heap_setCell _ _ _ _ (show b + 1 ≠ b by omega)).trans (hc2.trans ?_)
          rw [hM]; simp [rightOb])
    have FINN := Lib.hid finN
    have hno2 : ∀ hbad : ¬ (k < 15 ∧ 0 ≤ xw ∧ xw ∉ L.take k), ¬ Rgt L L.length := fun hbad h => hbad (h k xw hkl HX.out)
    have HNO := Lib.hid hno2; have HRG := Lib.hid hno; have HM := Lib.hid hM; have HC1 := Lib.hid hc1; have HC2 := Lib.hid hc2; have HJ := Lib.hid hJ
    clear finN hno2 hno hM hc1 hc2 hJ hs2
    by_cases hA : 15 ≤ k
    · have hA' : 15 ≤ (k : Int) := by omega
      have HN := Lib.hid (HNO.out (fun h => by omega))
      gi_wp2
      · skip
        refine region_round hmix (by simp) ?_
        refine wpAnyIn_take (i := 0) (oi := _) (v := ?_) rfl rfl (by kernel_rfl) (by kernel_rfl) (by kernel_rfl) (fun _ _ _ h => h) ⟨Or.inl ⟨by rfl, ?_⟩, fun _ => rfl⟩ ?_
        rotate_left
        · intro w
          try simp only [List.getElem_toArray, List.getElem_cons_zero]
          go_simp
          try with_reducible rfl
        try simp only [Act.put, List.getElem_toArray, List.getElem_cons_zero, List.setIfInBounds_toArray, List.set_cons_zero, List.set_cons_succ]
        refine wpAnyIn_take (i := 1) (oi := _) (v := ?_) rfl rfl (by kernel_rfl) (by kernel_rfl) (by kernel_rfl) (fun _ _ _ h => h) ⟨Or.inl ⟨by rfl, ?_⟩, fun _ => rfl⟩ ?_
        rotate_left
        · intro w
          try simp only [List.getElem_toArray, List.getElem_cons_succ, List.getElem_cons_zero]
          go_simp
          try with_reducible rfl
        try simp only [Act.put, List.getElem_toArray, List.getElem_cons_succ, List.getElem_cons_zero, List.setIfInBounds_toArray, List.set_cons_zero, List.set_cons_succ]
        refine wpAnyIn_take (i := 2) (oi := _) (v := ?_) rfl rfl (by kernel_rfl) (by kernel_rfl) (by kernel_rfl) (fun _ _ _ h => h) ⟨Or.inl ⟨by rfl, ?_⟩, fun _ => rfl⟩ ?_
        rotate_left
        · intro w
          try simp only [List.getElem_toArray, List.getElem_cons_succ, List.getElem_cons_zero]
          go_simp
          try with_reducible rfl
        try simp only [Act.put, List.getElem_toArray, List.getElem_cons_succ, List.getElem_cons_zero, List.setIfInBounds_toArray, List.set_cons_zero, List.set_cons_succ]
        refine wpAnyIn_take (i := 3) (oi := _) (v := undef) rfl rfl (by kernel_rfl) (by kernel_rfl) (by kernel_rfl) (fun _ _ _ h => h) ⟨Or.inr ⟨by rfl, rfl⟩, fun _ => rfl⟩ ?_
        try simp only [Act.put, List.getElem_toArray, List.getElem_cons_succ, List.getElem_cons_zero, List.setIfInBounds_toArray, List.set_cons_zero, List.set_cons_succ]
        refine wpAnyIn_take (i := 4) (oi := _) (v := undef) rfl rfl (by kernel_rfl) (by kernel_rfl) (by kernel_rfl) (fun _ _ _ h => h) ⟨Or.inr ⟨by rfl, rfl⟩, fun _ => rfl⟩ ?_
        try simp only [Act.put, List.getElem_toArray, List.getElem_cons_succ, List.getElem_cons_zero, List.setIfInBounds_toArray, List.set_cons_zero, List.set_cons_succ]
        refine wpAnyIn_take (i := 5) (oi := _) (v := ?_) rfl rfl (by kernel_rfl) (by kernel_rfl) (by kernel_rfl) (fun _ _ _ h => h) ⟨Or.inl ⟨by rfl, ?_⟩, fun _ => rfl⟩ ?_
        rotate_left
        · intro w
          try simp only [List.getElem_toArray, List.getElem_cons_succ, List.getElem_cons_zero]
          go_simp
          try with_reducible rfl
        try simp only [Act.put, List.getElem_toArray, List.getElem_cons_succ, List.getElem_cons_zero, List.setIfInBounds_toArray, List.set_cons_zero, List.set_cons_succ]
        refine wpAnyIn_take (i := 6) (oi := _) (v := ?_) rfl rfl (by kernel_rfl) (by kernel_rfl) (by kernel_rfl) (fun _ _ _ h => h) ⟨Or.inl ⟨by rfl, ?_⟩, fun _ => rfl⟩ ?_
        rotate_left
        · intro w
          try simp only [List.getElem_toArray, List.getElem_cons_succ, List.getElem_cons_zero]
          go_simp
          try with_reducible rfl
        try simp only [Act.put, List.getElem_toArray, List.getElem_cons_succ, List.getElem_cons_zero, List.setIfInBounds_toArray, List.set_cons_zero, List.set_cons_succ]
        refine wpAnyIn_take (i := 7) (oi := _) (v := undef) rfl rfl (by kernel_rfl) (by kernel_rfl) (by kernel_rfl) (fun _ _ _ h => h) ⟨Or.inr ⟨by rfl, rfl⟩, fun _ => rfl⟩ ?_
        try simp only [Act.put, List.getElem_toArray, List.getElem_cons_succ, List.getElem_cons_zero, List.setIfInBounds_toArray, List.set_cons_zero, List.set_cons_succ]
        refine wpAnyIn_take (i := 8) (oi := _) (v := undef) rfl rfl (by kernel_rfl) (by kernel_rfl) (by kernel_rfl) (fun _ _ _ h => h) ⟨Or.inr ⟨by rfl, rfl⟩, fun _ => rfl⟩ ?_
        try simp only [Act.put, List.getElem_toArray, List.getElem_cons_succ, List.getElem_cons_zero, List.setIfInBounds_toArray, List.set_cons_zero, List.set_cons_succ]
        refine wpAnyIn_take (i := 9) (oi := _) (v := undef) rfl rfl (by kernel_rfl) (by kernel_rfl) (by kernel_rfl) (fun _ _ _ h => h) ⟨Or.inr ⟨by rfl, rfl⟩, fun _ => rfl⟩ ?_
        try simp only [Act.put, List.getElem_toArray, List.getElem_cons_succ, List.getElem_cons_zero, List.setIfInBounds_toArray, List.set_cons_zero, List.set_cons_succ]
        refine wpAnyIn_take (i := 10) (oi := _) (v := undef) rfl rfl (by kernel_rfl) (by kernel_rfl) (by kernel_rfl) (fun _ _ _ h => h) ⟨Or.inr ⟨by rfl, rfl⟩, fun _ => rfl⟩ ?_
        try simp only [Act.put, List.getElem_toArray, List.getElem_cons_succ, List.getElem_cons_zero, List.setIfInBounds_toArray, List.set_cons_zero, List.set_cons_succ]
        refine wpAnyIn_take (i := 11) (oi := _) (v := undef) rfl rfl (by kernel_rfl) (by kernel_rfl) (by kernel_rfl) (fun _ _ _ h => h) ⟨Or.inr ⟨by rfl, rfl⟩, fun _ => rfl⟩ ?_
        try simp only [Act.put, List.getElem_toArray, List.getElem_cons_succ, List.getElem_cons_zero, List.setIfInBounds_toArray, List.set_cons_zero, List.set_cons_succ]
        refine wpAnyIn_take (i := 12) (oi := _) (v := ?_) rfl rfl (by kernel_rfl) (by kernel_rfl) (by kernel_rfl) (fun _ _ _ h => h) ⟨Or.inl ⟨by rfl, ?_⟩, fun _ => rfl⟩ ?_
        rotate_left
        · intro w
          try simp only [List.getElem_toArray, List.getElem_cons_succ, List.getElem_cons_zero]
          go_simp
          try with_reducible rfl
        try simp only [Act.put, List.getElem_toArray, List.getElem_cons_succ, List.getElem_cons_zero, List.setIfInBounds_toArray, List.set_cons_zero, List.set_cons_succ]
        refine wpAnyIn_done (by kernel_rfl) ?_ _
        gi_wp2
        obtain ⟨O', s1, s2, s3⟩ := FINN.out
        exact ⟨O', s1, s2, ⟨rfl, HN.out⟩, s3⟩
    · have hA' : decide (15 ≤ (k : Int)) = false := decide_eq_false (by omega)
      have hk15 : k < 15 := by omega
      by_cases hB : xw < 0
      · have HN := Lib.hid (HNO.out (fun h => by omega))
        gi_wp2
        refine region_round hmix (by simp) ?_
        refine wpAnyIn_take (i := 0) (oi := _) (v := ?_) rfl rfl (by kernel_rfl) (by kernel_rfl) (by kernel_rfl) (fun _ _ _ h => h) ⟨Or.inl ⟨by rfl, ?_⟩, fun _ => rfl⟩ ?_
        rotate_left
        · intro w
          try simp only [List.getElem_toArray, List.getElem_cons_zero]
          go_simp
          try with_reducible rfl
        try simp only [Act.put, List.getElem_toArray, List.getElem_cons_zero, List.setIfInBounds_toArray, List.set_cons_zero, List.set_cons_succ]
        refine wpAnyIn_take (i := 1) (oi := _) (v := ?_) rfl rfl (by kernel_rfl) (by kernel_rfl) (by kernel_rfl) (fun _ _ _ h => h) ⟨Or.inl ⟨by rfl, ?_⟩, fun _ => rfl⟩ ?_
        rotate_left
        · intro w
          try simp only [List.getElem_toArray, List.getElem_cons_succ, List.getElem_cons_zero]
          go_simp
          try with_reducible rfl
        try simp only [Act.put, List.getElem_toArray, List.getElem_cons_succ, List.getElem_cons_zero, List.setIfInBounds_toArray, List.set_cons_zero, List.set_cons_succ]
        refine wpAnyIn_take (i := 2) (oi := _) (v := ?_) rfl rfl (by kernel_rfl) (by kernel_rfl) (by kernel_rfl) (fun _ _ _ h => h) ⟨Or.inl ⟨by rfl, ?_⟩, fun _ => rfl⟩ ?_
        rotate_left
        · intro w
          try simp only [List.getElem_toArray, List.getElem_cons_succ, List.getElem_cons_zero]
          go_simp
          try with_reducible rfl
        try simp only [Act.put, List.getElem_toArray, List.getElem_cons_succ, List.getElem_cons_zero, List.setIfInBounds_toArray, List.set_cons_zero, List.set_cons_succ]
        refine wpAnyIn_take (i := 3) (oi := _) (v := ?_) rfl rfl (by kernel_rfl) (by kernel_rfl) (by kernel_rfl) (fun _ _ _ h => h) ⟨Or.inl ⟨by rfl, ?_⟩, fun _ => rfl⟩ ?_
        rotate_left
        · intro w
          try simp only [List.getElem_toArray, List.getElem_cons_succ, List.getElem_cons_zero]
          go_simp
          try with_reducible rfl
        try simp only [Act.put, List.getElem_toArray, List.getElem_cons_succ, List.getElem_cons_zero, List.setIfInBounds_toArray, List.set_cons_zero, List.set_cons_succ]
        refine wpAnyIn_take (i := 4) (oi := _) (v := ?_) rfl rfl (by kernel_rfl) (by kernel_rfl) (by kernel_rfl) (fun _ _ _ h => h) ⟨Or.inl ⟨by rfl, ?_⟩, fun _ => rfl⟩ ?_
        rotate_left
        · intro w
          try simp only [List.getElem_toArray, List.getElem_cons_succ, List.getElem_cons_zero]
          go_simp
          try with_reducible rfl
        try simp only [Act.put, List.getElem_toArray, List.getElem_cons_succ, List.getElem_cons_zero, List.setIfInBounds_toArray, List.set_cons_zero, List.set_cons_succ]
        refine wpAnyIn_take (i := 5) (oi := _) (v := ?_) rfl rfl (by kernel_rfl) (by kernel_rfl) (by kernel_rfl) (fun _ _ _ h => h) ⟨Or.inl ⟨by rfl, ?_⟩, fun _ => rfl⟩ ?_
        rotate_left
        · intro w
          try simp only [List.getElem_toArray, List.getElem_cons_succ, List.getElem_cons_zero]
          go_simp
          try with_reducible rfl
        try simp only [Act.put, List.getElem_toArray, List.getElem_cons_succ, List.getElem_cons_zero, List.setIfInBounds_toArray, List.set_cons_zero, List.set_cons_succ]
        refine wpAnyIn_take (i := 6) (oi := _) (v := ?_) rfl rfl (by kernel_rfl) (by kernel_rfl) (by kernel_rfl) (fun _ _ _ h => h) ⟨Or.inl ⟨by rfl, ?_⟩, fun _ => rfl⟩ ?_
        rotate_left
        · intro w
          try simp only [List.getElem_toArray, List.getElem_cons_succ, List.getElem_cons_zero]
          go_simp
          try with_reducible rfl
        try simp only [Act.put, List.getElem_toArray, List.getElem_cons_succ, List.getElem_cons_zero, List.setIfInBounds_toArray, List.set_cons_zero, List.set_cons_succ]
        refine wpAnyIn_take (i := 7) (oi := _) (v := undef) rfl rfl (by kernel_rfl) (by kernel_rfl) (by kernel_rfl) (fun _ _ _ h => h) ⟨Or.inr ⟨by rfl, rfl⟩, fun _ => rfl⟩ ?_
        try simp only [Act.put, List.getElem_toArray, List.getElem_cons_succ, List.getElem_cons_zero, List.setIfInBounds_toArray, List.set_cons_zero, List.set_cons_succ]
        refine wpAnyIn_take (i := 8) (oi := _) (v := undef) rfl rfl (by kernel_rfl) (by kernel_rfl) (by kernel_rfl) (fun _ _ _ h => h) ⟨Or.inr ⟨by rfl, rfl⟩, fun _ => rfl⟩ ?_
        try simp only [Act.put, List.getElem_toArray, List.getElem_cons_succ, List.getElem_cons_zero, List.setIfInBounds_toArray, List.set_cons_zero, List.set_cons_succ]
        refine wpAnyIn_take (i := 9) (oi := _) (v := undef) rfl rfl (by kernel_rfl) (by kernel_rfl) (by kernel_rfl) (fun _ _ _ h => h) ⟨Or.inr ⟨by rfl, rfl⟩, fun _ => rfl⟩ ?_
        try simp only [Act.put, List.getElem_toArray, List.getElem_cons_succ, List.getElem_cons_zero, List.setIfInBounds_toArray, List.set_cons_zero, List.set_cons_succ]
        refine wpAnyIn_take (i := 10) (oi := _) (v := undef) rfl rfl (by kernel_rfl) (by kernel_rfl) (by kernel_rfl) (fun _ _ _ h => h) ⟨Or.inr ⟨by rfl, rfl⟩, fun _ => rfl⟩ ?_
        try simp only [Act.put, List.getElem_toArray, List.getElem_cons_succ, List.getElem_cons_zero, List.setIfInBounds_toArray, List.set_cons_zero, List.set_cons_succ]
        refine wpAnyIn_take (i := 11) (oi := _) (v := undef) rfl rfl (by kernel_rfl) (by kernel_rfl) (by kernel_rfl) (fun _ _ _ h => h) ⟨Or.inr ⟨by rfl, rfl⟩, fun _ => rfl⟩ ?_
        try simp only [Act.put, List.getElem_toArray, List.getElem_cons_succ, List.getElem_cons_zero, List.setIfInBounds_toArray, List.set_cons_zero, List.set_cons_succ]
        refine wpAnyIn_take (i := 12) (oi := _) (v := ?_) rfl rfl (by kernel_rfl) (by kernel_rfl) (by kernel_rfl) (fun _ _ _ h => h) ⟨Or.inl ⟨by rfl, ?_⟩, fun _ => rfl⟩ ?_
        rotate_left
        · intro w
          try simp only [List.getElem_toArray, List.getElem_cons_succ, List.getElem_cons_zero]
          go_simp
          try with_reducible rfl
        try simp only [Act.put, List.getElem_toArray, List.getElem_cons_succ, List.getElem_cons_zero, List.setIfInBounds_toArray, List.set_cons_zero, List.set_cons_succ]
        refine wpAnyIn_done (by kernel_rfl) ?_ _
        gi_wp2
        obtain ⟨O', s1, s2, s3⟩ := FINN.out
        exact ⟨O', s1, s2, ⟨rfl, HN.out⟩, s3⟩
      · obtain ⟨xn, rfl⟩ : ∃ xn : Nat, xw = (xn : Int) := ⟨xw.toNat, by omega⟩
        have hB' : decide ((xn : Int) < 0) = false := decide_eq_false hB
        have hxn : xn ≤ 14 := by omega
        have hpl : (2 : Nat) ^ xn ≤ 2 ^ 14 := Nat.pow_le_pow_right (by decide) hxn
        have hpc : ((2 ^ xn : Nat) : Int) = (2 : Int) ^ xn := by simp
        have hwrap : IntKind.i64.wrap ((2 : Int) ^ xn) = (2 : Int) ^ xn := by rw [← hpc, IntKind.wrap_i64]; clear hpc; generalize 2 ^ xn = p at hpl ⊢; omega
        have hmem := maskN_mem (l := L.take k) (fun y hy => by
          obtain ⟨j, hj⟩ := List.getElem?_of_mem hy
          rw [List.getElem?_take] at hj
          split at hj
          · exact (HRG.out j y (by assumption) hj).2.1
          · cases hj) (x := (xn : Int)) (by omega)
        rw [← HM.out, Int.toNat_natCast] at hmem
        obtain ⟨N, hN⟩ : ∃ N, N = M &&& 2 ^ xn := ⟨_, rfl⟩
        have hand := and_i64 M (2 ^ xn) (by omega) (by omega)
        rw [hpc, ← hN] at hand
        rw [← hN] at hmem
        have hor := or_i64 M (2 ^ xn) (by omega) (by omega)
        rw [hpc] at hor
        obtain ⟨U, hU⟩ : ∃ U, U = M ||| 2 ^ xn := ⟨_, rfl⟩
        rw [← hU] at hor
        have HU := Lib.hid hU; clear hU hN hB hA hpc
        by_cases hz : N = 0
        · have hz0 : ((N : Nat) : Int) = 0 := by omega
          have HNM := Lib.hid (show (xn : Int) ∉ L.take k from fun h => (hmem.2 h) hz)
          clear hmem
          rw [hz] at hand
          gi_wp2
          refine region_round hmix (by simp) ?_
          refine wpAnyIn_take (i := 0) (oi := _) (v := ?_) rfl rfl (by kernel_rfl) (by kernel_rfl) (by kernel_rfl) (fun _ _ _ h => h) ⟨Or.inl ⟨by rfl, ?_⟩, fun _ => rfl⟩ ?_
          rotate_left
          · intro w
            try simp only [List.getElem_toArray, List.getElem_cons_zero]
            go_simp
            try with_reducible rfl
          try simp only [Act.put, List.getElem_toArray, List.getElem_cons_zero, List.setIfInBounds_toArray, List.set_cons_zero, List.set_cons_succ]
          refine wpAnyIn_take (i := 1) (oi := _) (v := ?_) rfl rfl (by kernel_rfl) (by kernel_rfl) (by kernel_rfl) (fun _ _ _ h => h) ⟨Or.inl ⟨by rfl, ?_⟩, fun _ => rfl⟩ ?_
          rotate_left
          · intro w
            try simp only [List.getElem_toArray, List.getElem_cons_succ, List.getElem_cons_zero]
            go_simp
            try with_reducible rfl
          try simp only [Act.put, List.getElem_toArray, List.getElem_cons_succ, List.getElem_cons_zero, List.setIfInBounds_toArray, List.set_cons_zero, List.set_cons_succ]
          refine wpAnyIn_take (i := 2) (oi := _) (v := ?_) rfl rfl (by kernel_rfl) (by kernel_rfl) (by kernel_rfl) (fun _ _ _ h => h) ⟨Or.inl ⟨by rfl, ?_⟩, fun _ => rfl⟩ ?_
          rotate_left
          · intro w
            try simp only [List.getElem_toArray, List.getElem_cons_succ, List.getElem_cons_zero]
            go_simp
            try with_reducible rfl
          try simp only [Act.put, List.getElem_toArray, List.getElem_cons_succ, List.getElem_cons_zero, List.setIfInBounds_toArray, List.set_cons_zero, List.set_cons_succ]
          refine wpAnyIn_take (i := 3) (oi := _) (v := ?_) rfl rfl (by kernel_rfl) (by kernel_rfl) (by kernel_rfl) (fun _ _ _ h => h) ⟨Or.inl ⟨by rfl, ?_⟩, fun _ => rfl⟩ ?_
          rotate_left
          · intro w
            try simp only [List.getElem_toArray, List.getElem_cons_succ, List.getElem_cons_zero]
            go_simp
            try with_reducible rfl
          try simp only [Act.put, List.getElem_toArray, List.getElem_cons_succ, List.getElem_cons_zero, List.setIfInBounds_toArray, List.set_cons_zero, List.set_cons_succ]
          refine wpAnyIn_take (i := 4) (oi := _) (v := ?_) rfl rfl (by kernel_rfl) (by kernel_rfl) (by kernel_rfl) (fun _ _ _ h => h) ⟨Or.inl ⟨by rfl, ?_⟩, fun _ => rfl⟩ ?_
          rotate_left
          · intro w
            try simp only [List.getElem_toArray, List.getElem_cons_succ, List.getElem_cons_zero]
            go_simp
            try with_reducible rfl
          try simp only [Act.put, List.getElem_toArray, List.getElem_cons_succ, List.getElem_cons_zero, List.setIfInBounds_toArray, List.set_cons_zero, List.set_cons_succ]
          refine wpAnyIn_take (i := 5) (oi := _) (v := ?_) rfl rfl (by kernel_rfl) (by kernel_rfl) (by kernel_rfl) (fun _ _ _ h => h) ⟨Or.inl ⟨by rfl, ?_⟩, fun _ => rfl⟩ ?_
          rotate_left
          · intro w
            try simp only [List.getElem_toArray, List.getElem_cons_succ, List.getElem_cons_zero]
            go_simp
            try with_reducible rfl
          try simp only [Act.put, List.getElem_toArray, List.getElem_cons_succ, List.getElem_cons_zero, List.setIfInBounds_toArray, List.set_cons_zero, List.set_cons_succ]
          refine wpAnyIn_take (i := 6) (oi := _) (v := ?_) rfl rfl (by kernel_rfl) (by kernel_rfl) (by kernel_rfl) (fun _ _ _ h => h) ⟨Or.inl ⟨by rfl, ?_⟩, fun _ => rfl⟩ ?_
          rotate_left
          · intro w
            try simp only [List.getElem_toArray, List.getElem_cons_succ, List.getElem_cons_zero]
            go_simp
            try with_reducible rfl
          try simp only [Act.put, List.getElem_toArray, List.getElem_cons_succ, List.getElem_cons_zero, List.setIfInBounds_toArray, List.set_cons_zero, List.set_cons_succ]
          refine wpAnyIn_take (i := 8) (oi := _) (v := ?_) rfl rfl (by kernel_rfl) (by kernel_rfl) (by kernel_rfl) (fun _ _ _ h => h) ⟨Or.inl ⟨by rfl, ?_⟩, fun _ => rfl⟩ ?_
          rotate_left
          · intro w
            try simp only [List.getElem_toArray, List.getElem_cons_succ, List.getElem_cons_zero]
            go_simp
            try with_reducible rfl
          try simp only [Act.put, List.getElem_toArray, List.getElem_cons_succ, List.getElem_cons_zero, List.setIfInBounds_toArray, List.set_cons_zero, List.set_cons_succ]
          refine wpAnyIn_take (i := 9) (oi := _) (v := ?_) rfl rfl (by kernel_rfl) (by kernel_rfl) (by kernel_rfl) (fun _ _ _ h => h) ⟨Or.inl ⟨by rfl, ?_⟩, fun _ => rfl⟩ ?_
          rotate_left
          · intro w
            try simp only [List.getElem_toArray, List.getElem_cons_succ, List.getElem_cons_zero]
            go_simp
            try with_reducible rfl
          try simp only [Act.put, List.getElem_toArray, List.getElem_cons_succ, List.getElem_cons_zero, List.setIfInBounds_toArray, List.set_cons_zero, List.set_cons_succ]
          refine wpAnyIn_ready (rs := [7]) (by kernel_rfl) (by simp) ?_
          refine (AllReadyIn.cons (o := _) rfl (fun K hK => ?_) AllReadyIn.nil)
          simp only [List.getElem_toArray, List.getElem_cons_succ, List.getElem_cons_zero]
          try rw [if_pos (by rfl)]
          unfold Oper.wpIn
          refine ⟨fun _ _ => trivial, ?_⟩
          rw [show Fence.wide.round = none from rfl, Oper.semAt_none]
          go_simp
          refine hK _ _ ?_
          clear hK K
          try simp only [Act.put, List.getElem_toArray, List.getElem_cons_succ, List.getElem_cons_zero, List.setIfInBounds_toArray, List.set_cons_zero, List.set_cons_succ]
          refine wpAnyIn_take (i := 10) (oi := _) (v := ?_) rfl rfl (by kernel_rfl) (by kernel_rfl) (by kernel_rfl) (fun _ _ _ h => h) ⟨Or.inl ⟨by rfl, ?_⟩, fun _ => rfl⟩ ?_
          rotate_left
          · intro w
            try simp only [List.getElem_toArray, List.getElem_cons_succ, List.getElem_cons_zero]
            go_simp
            try with_reducible rfl
          try simp only [Act.put, List.getElem_toArray, List.getElem_cons_succ, List.getElem_cons_zero, List.setIfInBounds_toArray, List.set_cons_zero, List.set_cons_succ]
          refine wpAnyIn_take (i := 11) (oi := _) (v := ?_) rfl rfl (by kernel_rfl) (by kernel_rfl) (by kernel_rfl) (fun _ _ _ h => h) ⟨Or.inl ⟨by rfl, ?_⟩, fun _ => rfl⟩ ?_
          rotate_left
          · intro w
            try simp only [List.getElem_toArray, List.getElem_cons_succ, List.getElem_cons_zero]
            go_simp
            try with_reducible rfl
          try simp only [Act.put, List.getElem_toArray, List.getElem_cons_succ, List.getElem_cons_zero, List.setIfInBounds_toArray, List.set_cons_zero, List.set_cons_succ]
          refine wpAnyIn_take (i := 12) (oi := _) (v := ?_) rfl rfl (by kernel_rfl) (by kernel_rfl) (by kernel_rfl) (fun _ _ _ h => h) ⟨Or.inl ⟨by rfl, ?_⟩, fun _ => rfl⟩ ?_
          rotate_left
          · intro w
            try simp only [List.getElem_toArray, List.getElem_cons_succ, List.getElem_cons_zero]
            go_simp
            try with_reducible rfl
          try simp only [Act.put, List.getElem_toArray, List.getElem_cons_succ, List.getElem_cons_zero, List.setIfInBounds_toArray, List.set_cons_zero, List.set_cons_succ]
          refine wpAnyIn_done (by kernel_rfl) ?_ _
          gi_wp2
          refine region_round hmix (by simp) ?_
          refine wpAnyIn_take (i := 1) (oi := _) (v := ?_) rfl rfl (by kernel_rfl) (by kernel_rfl) (by kernel_rfl) (fun _ _ _ h => h) ⟨Or.inl ⟨by rfl, ?_⟩, fun _ => rfl⟩ ?_
          rotate_left
          · intro w
            try simp only [List.getElem_toArray, List.getElem_cons_succ, List.getElem_cons_zero]
            go_simp
            try with_reducible rfl
          try simp only [Act.put, List.getElem_toArray, List.getElem_cons_succ, List.getElem_cons_zero, List.setIfInBounds_toArray, List.set_cons_zero, List.set_cons_succ]
          refine wpAnyIn_take (i := 2) (oi := _) (v := ?_) rfl rfl (by kernel_rfl) (by kernel_rfl) (by kernel_rfl) (fun _ _ _ h => h) ⟨Or.inl ⟨by rfl, ?_⟩, fun _ => rfl⟩ ?_
          rotate_left
          · intro w
            try simp only [List.getElem_toArray, List.getElem_cons_succ, List.getElem_cons_zero]
            go_simp
            try with_reducible rfl
          try simp only [Act.put, List.getElem_toArray, List.getElem_cons_succ, List.getElem_cons_zero, List.setIfInBounds_toArray, List.set_cons_zero, List.set_cons_succ]
          refine wpAnyIn_ready (rs := [0]) (by kernel_rfl) (by simp) ?_
          refine (AllReadyIn.cons (o := _) rfl (fun K hK => ?_) AllReadyIn.nil)
          simp only [List.getElem_toArray, List.getElem_cons_zero]
          try rw [if_pos (by rfl)]
          unfold Oper.wpIn
          refine ⟨fun _ _ => trivial, ?_⟩
          rw [show Fence.wide.round = none from rfl, Oper.semAt_none]
          go_simp
          refine hK _ _ ?_
          clear hK K
          try simp only [Act.put, List.getElem_toArray, List.getElem_cons_zero, List.setIfInBounds_toArray, List.set_cons_zero, List.set_cons_succ]
          refine wpAnyIn_take (i := 3) (oi := _) (v := ?_) rfl rfl (by kernel_rfl) (by kernel_rfl) (by kernel_rfl) (fun _ _ _ h => h) ⟨Or.inl ⟨by rfl, ?_⟩, fun _ => rfl⟩ ?_
          rotate_left
          · intro w
            try simp only [List.getElem_toArray, List.getElem_cons_succ, List.getElem_cons_zero]
            go_simp
            try with_reducible rfl
          try simp only [Act.put, List.getElem_toArray, List.getElem_cons_succ, List.getElem_cons_zero, List.setIfInBounds_toArray, List.set_cons_zero, List.set_cons_succ]
          refine wpAnyIn_ready (rs := [4]) (by kernel_rfl) (by simp) ?_
          refine (AllReadyIn.cons (o := _) rfl (fun K hK => ?_) AllReadyIn.nil)
          simp only [List.getElem_toArray, List.getElem_cons_succ, List.getElem_cons_zero]
          try rw [if_pos (by rfl)]
          unfold Oper.wpIn
          refine ⟨fun _ _ => trivial, ?_⟩
          rw [show Fence.wide.round = none from rfl, Oper.semAt_none]
          go_simp
          refine hK _ _ ?_
          clear hK K
          try simp only [Act.put, List.getElem_toArray, List.getElem_cons_succ, List.getElem_cons_zero, List.setIfInBounds_toArray, List.set_cons_zero, List.set_cons_succ]
          refine wpAnyIn_done (by kernel_rfl) ?_ _
          gi_wp2
          have hsn := maskN_snoc HX.out
          rw [← HM.out, Int.toNat_natCast, ← HU.out] at hsn
          have st : Stp (fun x => x = b ∨ x = b + 1) W2 ((W2.setCell ⟨b + 1, 0, none⟩ (.int .i64 (U : Int))).drewN 2) := (((Stp.refl _ W2).setCell (p := ⟨b + 1, 0, none⟩) (.inl (.inr rfl)) _).drewN 2)
          obtain ⟨O', s1, s2, s3⟩ := HJ.out.next (ob' := rightOb b (fun k => maskN (L.take k))) (k' := k + 1) st (fun x hb => by
            rcases hb with rfl | rfl
            · refine (Below.heap_setCell _ _ _ _ (show x ≠ x + 1 by omega)).trans (HC1.out.trans ?_)
              simp [rightOb]
            · have := heap_setCell_same (i := 0) HC2.out (.int .i64 (U : Int))
              refine Eq.trans this ?_
              simp [rightOb, hsn])
          exact ⟨O', s1, s2, HRG.out.succ HX.out (by omega) (by omega) HNM.out, s3⟩
        · have hz0 : ¬ ((N : Nat) : Int) = 0 := by omega
          have HN := Lib.hid (HNO.out (fun h => h.2.2 (hmem.1 hz)))
          clear hmem
          gi_wp2
          refine region_round hmix (by simp) ?_
          refine wpAnyIn_take (i := 0) (oi := _) (v := ?_) rfl rfl (by kernel_rfl) (by kernel_rfl) (by kernel_rfl) (fun _ _ _ h => h) ⟨Or.inl ⟨by rfl, ?_⟩, fun _ => rfl⟩ ?_
          rotate_left
          · intro w
            try simp only [List.getElem_toArray, List.getElem_cons_zero]
            go_simp
            try with_reducible rfl
          try simp only [Act.put, List.getElem_toArray, List.getElem_cons_zero, List.setIfInBounds_toArray, List.set_cons_zero, List.set_cons_succ]
          refine wpAnyIn_take (i := 1) (oi := _) (v := ?_) rfl rfl (by kernel_rfl) (by kernel_rfl) (by kernel_rfl) (fun _ _ _ h => h) ⟨Or.inl ⟨by rfl, ?_⟩, fun _ => rfl⟩ ?_
          rotate_left
          · intro w
            try simp only [List.getElem_toArray, List.getElem_cons_succ, List.getElem_cons_zero]
            go_simp
            try with_reducible rfl
          try simp only [Act.put, List.getElem_toArray, List.getElem_cons_succ, List.getElem_cons_zero, List.setIfInBounds_toArray, List.set_cons_zero, List.set_cons_succ]
          refine wpAnyIn_take (i := 2) (oi := _) (v := ?_) rfl rfl (by kernel_rfl) (by kernel_rfl) (by kernel_rfl) (fun _ _ _ h => h) ⟨Or.inl ⟨by rfl, ?_⟩, fun _ => rfl⟩ ?_
          rotate_left
          · intro w
            try simp only [List.getElem_toArray, List.getElem_cons_succ, List.getElem_cons_zero]
            go_simp
            try with_reducible rfl
          try simp only [Act.put, List.getElem_toArray, List.getElem_cons_succ, List.getElem_cons_zero, List.setIfInBounds_toArray, List.set_cons_zero, List.set_cons_succ]
          refine wpAnyIn_take (i := 3) (oi := _) (v := ?_) rfl rfl (by kernel_rfl) (by kernel_rfl) (by kernel_rfl) (fun _ _ _ h => h) ⟨Or.inl ⟨by rfl, ?_⟩, fun _ => rfl⟩ ?_
          rotate_left
          · intro w
            try simp only [List.getElem_toArray, List.getElem_cons_succ, List.getElem_cons_zero]
            go_simp
            try with_reducible rfl
          try simp only [Act.put, List.getElem_toArray, List.getElem_cons_succ, List.getElem_cons_zero, List.setIfInBounds_toArray, List.set_cons_zero, List.set_cons_succ]
          refine wpAnyIn_take (i := 4) (oi := _) (v := ?_) rfl rfl (by kernel_rfl) (by kernel_rfl) (by kernel_rfl) (fun _ _ _ h => h) ⟨Or.inl ⟨by rfl, ?_⟩, fun _ => rfl⟩ ?_
          rotate_left
          · intro w
            try simp only [List.getElem_toArray, List.getElem_cons_succ, List.getElem_cons_zero]
            go_simp
            try with_reducible rfl
          try simp only [Act.put, List.getElem_toArray, List.getElem_cons_succ, List.getElem_cons_zero, List.setIfInBounds_toArray, List.set_cons_zero, List.set_cons_succ]
          refine wpAnyIn_take (i := 5) (oi := _) (v := ?_) rfl rfl (by kernel_rfl) (by kernel_rfl) (by kernel_rfl) (fun _ _ _ h => h) ⟨Or.inl ⟨by rfl, ?_⟩, fun _ => rfl⟩ ?_
          rotate_left
          · intro w
            try simp only [List.getElem_toArray, List.getElem_cons_succ, List.getElem_cons_zero]
            go_simp
            try with_reducible rfl
          try simp only [Act.put, List.getElem_toArray, List.getElem_cons_succ, List.getElem_cons_zero, List.setIfInBounds_toArray, List.set_cons_zero, List.set_cons_succ]
          refine wpAnyIn_take (i := 6) (oi := _) (v := ?_) rfl rfl (by kernel_rfl) (by kernel_rfl) (by kernel_rfl) (fun _ _ _ h => h) ⟨Or.inl ⟨by rfl, ?_⟩, fun _ => rfl⟩ ?_
          rotate_left
          · intro w
            try simp only [List.getElem_toArray, List.getElem_cons_succ, List.getElem_cons_zero]
            go_simp
            try with_reducible rfl
          try simp only [Act.put, List.getElem_toArray, List.getElem_cons_succ, List.getElem_cons_zero, List.setIfInBounds_toArray, List.set_cons_zero, List.set_cons_succ]
          refine wpAnyIn_take (i := 8) (oi := _) (v := ?_) rfl rfl (by kernel_rfl) (by kernel_rfl) (by kernel_rfl) (fun _ _ _ h => h) ⟨Or.inl ⟨by rfl, ?_⟩, fun _ => rfl⟩ ?_
          rotate_left
          · intro w
            try simp only [List.getElem_toArray, List.getElem_cons_succ, List.getElem_cons_zero]
            go_simp
            try with_reducible rfl
          try simp only [Act.put, List.getElem_toArray, List.getElem_cons_succ, List.getElem_cons_zero, List.setIfInBounds_toArray, List.set_cons_zero, List.set_cons_succ]
          refine wpAnyIn_take (i := 9) (oi := _) (v := ?_) rfl rfl (by kernel_rfl) (by kernel_rfl) (by kernel_rfl) (fun _ _ _ h => h) ⟨Or.inl ⟨by rfl, ?_⟩, fun _ => rfl⟩ ?_
          rotate_left
          · intro w
            try simp only [List.getElem_toArray, List.getElem_cons_succ, List.getElem_cons_zero]
            go_simp
            try with_reducible rfl
          try simp only [Act.put, List.getElem_toArray, List.getElem_cons_succ, List.getElem_cons_zero, List.setIfInBounds_toArray, List.set_cons_zero, List.set_cons_succ]
          refine wpAnyIn_ready (rs := [7]) (by kernel_rfl) (by simp) ?_
          refine (AllReadyIn.cons (o := _) rfl (fun K hK => ?_) AllReadyIn.nil)
          simp only [List.getElem_toArray, List.getElem_cons_succ, List.getElem_cons_zero]
          try rw [if_pos (by rfl)]
          unfold Oper.wpIn
          refine ⟨fun _ _ => trivial, ?_⟩
          rw [show Fence.wide.round = none from rfl, Oper.semAt_none]
          go_simp
          refine hK _ _ ?_
          clear hK K
          try simp only [Act.put, List.getElem_toArray, List.getElem_cons_succ, List.getElem_cons_zero, List.setIfInBounds_toArray, List.set_cons_zero, List.set_cons_succ]
          refine wpAnyIn_take (i := 10) (oi := _) (v := ?_) rfl rfl (by kernel_rfl) (by kernel_rfl) (by kernel_rfl) (fun _ _ _ h => h) ⟨Or.inl ⟨by rfl, ?_⟩, fun _ => rfl⟩ ?_
          rotate_left
          · intro w
            try simp only [List.getElem_toArray, List.getElem_cons_succ, List.getElem_cons_zero]
            go_simp
            try with_reducible rfl
          try simp only [Act.put, List.getElem_toArray, List.getElem_cons_succ, List.getElem_cons_zero, List.setIfInBounds_toArray, List.set_cons_zero, List.set_cons_succ]
          refine wpAnyIn_take (i := 11) (oi := _) (v := ?_) rfl rfl (by kernel_rfl) (by kernel_rfl) (by kernel_rfl) (fun _ _ _ h => h) ⟨Or.inl ⟨by rfl, ?_⟩, fun _ => rfl⟩ ?_
          rotate_left
          · intro w
            try simp only [List.getElem_toArray, List.getElem_cons_succ, List.getElem_cons_zero]
            go_simp
            try with_reducible rfl
          try simp only [Act.put, List.getElem_toArray, List.getElem_cons_succ, List.getElem_cons_zero, List.setIfInBounds_toArray, List.set_cons_zero, List.set_cons_succ]
          refine wpAnyIn_take (i := 12) (oi := _) (v := ?_) rfl rfl (by kernel_rfl) (by kernel_rfl) (by kernel_rfl) (fun _ _ _ h => h) ⟨Or.inl ⟨by rfl, ?_⟩, fun _ => rfl⟩ ?_
          rotate_left
          · intro w
            try simp only [List.getElem_toArray, List.getElem_cons_succ, List.getElem_cons_zero]
            go_simp
            try with_reducible rfl
          try simp only [Act.put, List.getElem_toArray, List.getElem_cons_succ, List.getElem_cons_zero, List.setIfInBounds_toArray, List.set_cons_zero, List.set_cons_succ]
          refine wpAnyIn_done (by kernel_rfl) ?_ _
          gi_wp2
          obtain ⟨O', s1, s2, s3⟩ := FINN.out
          exact ⟨O', s1, s2, ⟨rfl, HN.out⟩, s3⟩
  case done =>
    rintro D W' O' hD ⟨hrg, hJ⟩ _ hst _ hK hnD
    obtain rfl := hJ.1
    rw [length_digP, ← HL.out] at hrg
    have hc1 : W'.heap[b]? = some (.cells #[.bool false] 4) := by have := hJ.2.1 b (.inl rfl); simpa [rightOb] using this
    have q1 : W'.cell? ⟨b, 0, none⟩ = some (.bool false) := cell_of (i := 0) hc1 rfl
    have q2 : W'.frozen? ⟨b, 0, none⟩ = false := frozen_of hc1
    have hD1 : D ≠ b := fun e => hnD (.inl e)
    have r1 : ((W'.setCell ⟨b, 0, none⟩ (.bool true)).putObj D (.deferred none)).cell? ⟨b, 0, none⟩ = some (.bool true) := by
      refine cell_of (i := 0) (c := #[.bool true]) (t := 4) (z := (0, 0)) ?_ rfl
      rw [World.putObj_heap_other (fun e => hD1 e.symm)]
      have := heap_setCell_same (i := 0) hc1 (.bool true)
      simpa using this
    have hK2 : (W'.setCell ⟨b, 0, none⟩ (.bool true)).heap[D]? = some (.deferred (some [])) := (Below.heap_setCell _ _ _ _ hD1).trans hK
    have fin : Fr [] w ((W'.setCell ⟨b, 0, none⟩ (.bool true)).putObj D (.deferred none)) := ((((Stp.of_fr F2).then hst (fun x hx => by right; have hx2 : (x = b ∨ x = b + 1) ∨ x = b + 1 + 1 := hx; omega)).setCell (p := ⟨b, 0, none⟩) (.inr (by show w.heap.size ≤ b; omega)) _).putObj (.inr (by omega)) _).to_fr (fun x hx => by simp at hx)
    have FIN := Lib.hid fin; have R1 := Lib.hid r1; have HK2 := Lib.hid hK2; have HRG := Lib.hid hrg; clear fin r1 hK2 hst hJ hc1 hs2 hrg
    go_wp2
    refine leave_ret_at (.bool true) HK2.out ?_ ?_
    · have r1 := R1.out
      simp [results, Try.f12, go_sem, r1]
    · exact ⟨true, rfl, ⟨fun _ => HRG.out, fun _ => rfl⟩, FIN.out⟩
  case stop =>
    rintro D c k W' O' hD hk ⟨⟨rfl, hm⟩, hJ⟩ _ hst _ hK hnD
    obtain rfl := hJ.1
    have hc1 : W'.heap[b]? = some (.cells #[.bool false] 4) := by have := hJ.2.1 b (.inl rfl); simpa [rightOb] using this
    have hD1 : D ≠ b := fun e => hnD (.inl e)
    have r1 : (W'.putObj D (.deferred none)).cell? ⟨b, 0, none⟩ = some (.bool false) := by
      refine cell_of (i := 0) (c := #[.bool false]) (t := 4) (z := (0, 0)) ?_ rfl
      rw [World.putObj_heap_other (fun e => hD1 e.symm)]; exact hc1
    have fin : Fr [] w (W'.putObj D (.deferred none)) := (((Stp.of_fr F2).then hst (fun x hx => by right; have hx2 : (x = b ∨ x = b + 1) ∨ x = b + 1 + 1 := hx; omega)).putObj (.inr (by omega)) _).to_fr (fun x hx => by simp at hx)
    have FIN := Lib.hid fin; have R1 := Lib.hid r1; have HM := Lib.hid hm; clear fin r1 hst hJ hc1 hs2 hm
    go_wp2
    refine leave_ret_at (.bool false) hK ?_ ?_
    · have r1 := R1.out
      simp [results, Try.f12, go_sem, r1]
    · exact ⟨false, rfl, ⟨fun h => (by cases h), fun h => (HM.out h).elim⟩, FIN.out⟩

end Go.Proofs.Ytngojpccemjikaa
