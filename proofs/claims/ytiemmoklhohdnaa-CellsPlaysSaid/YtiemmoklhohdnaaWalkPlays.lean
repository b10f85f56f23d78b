/- The walk of 'CellsPlays'. -/
import Derived.Test.YtiemmoklhohdnaaWalkAlone
import Derived.Deep.RegionHeld3
namespace Go.Proofs.Ytiemmoklhohdnaa
open Go.RowKit

theorem IntsAt.of_mem {T : Nat} {w : World} {p q cap : Nat} {cur : Array Value} {L : List Int} {t : Int} (h : IsMem T w p q cap cur L t) : IntsAt w (some ⟨q, 0, none⟩) L :=
  ⟨by have := h.hl; have := h.hm; unfold maxLen at this; omega, fun j x hx => ⟨q, 0, rfl, by rw [Nat.zero_add]; exact h.cq hx⟩⟩

theorem wpAnyH_sub {P : Program} {md : Region.Mode} {ops : Array Oper} {Q : Exit → Act → World → Prop} {S S' : World → Prop} (hsub : ∀ w, S' w → S w) :
    ∀ (fuel : Nat) (listed : Array Bool) (a : Act) (w : World), wpAnyH P md ops Q S' fuel listed a w → wpAnyH P md ops Q S fuel listed a w
  | 0, _, _, _, h => h
  | fuel + 1, _, _, _, h => ⟨h.1, fun i hi => wpOp_mono (fun a' w' h' => ⟨hsub _ h'.1, wpAnyH_sub hsub fuel _ a' w' h'.2⟩) (h.2 i hi)⟩

/-- Between two rounds: both memories have one content. -/
structure PlaysInv (w : World) (p q rp rq n : Nat) (k : Nat) (wr : World) : Prop where
  mx : ∃ (M : List Int) (T : Int), 0 ≤ T ∧ T ≤ k ∧ M.length = n ∧ MemAt 53 wr p q M T ∧ MemAt 34 wr rp rq M T
  fr : Fr [] w wr

set_option maxHeartbeats 4000000 in
theorem plays_good (w : World) (n : Nat) (g : Option Addr) (c : Nat) (l : List OpV) (h0 : 1 ≤ n) (h1 : n ≤ 100) (hA : OpsAt w.heap.size w g l) (hl : l.length ≤ 60) :
    Calls Try.prog 4 #[.int .i64 n, .slice g l.length c] w fun e w' => e = .returned (.bool true) ∧ Fr [] w w' := by
  have A := Lib.hid hA; clear hA
  obtain ⟨len, hlen⟩ : ∃ n, n = l.length := ⟨_, rfl⟩
  rw [← hlen] at hl ⊢
  have HL := Lib.hid hlen; clear hlen
  have hmk := run_make_row' (P := Try.prog) 22 3 (.int .i64 0) 8 Try.underlying22 info_int rfl .i64 .i64 n (by omega) (by omega)
  have g1 : decide ((60 : Int) < (len : Int)) = false := by simp; omega
  have g2 : decide ((100 : Int) < (n : Int)) = false := by simp; omega
  have g3 : decide ((n : Int) < 1) = false := by simp; omega
  have g4 : decide ((4096 : Int) < (n : Int)) = false := by simp; omega
  go_enter Try.func4, Try.ntmps4
  go_wp2_with fail
  refine (awake_any w).mono ?_
  rintro e w1 ⟨rfl, f1⟩
  go_wp2_with fail
  refine (new_any (n : Int) w1 (by omega) (by omega)).mono ?_
  rintro e w2 ⟨p, q, rfl, hp, hq, hm, f2⟩
  have F2 := f1.trans f2
  have hp0 : w.heap.size ≤ p := Nat.le_trans f1.size hp
  have hq0 : w.heap.size ≤ q := Nat.le_trans f1.size hq
  have hr := memAt_new 34 w2 n (by omega)
  have F3 := (F2.alloc (.cells (madeCells #[.int .i64 0] n) 3)).alloc (.cells #[.slice (some ⟨w2.heap.size, 0, none⟩) n n, .int .i64 0] 34)
  have lp := hm.plt; have lq := hm.qlt
  have hI : PlaysInv w p q (w2.heap.size + 1) w2.heap.size n 0 ((w2.alloc (.cells (madeCells #[.int .i64 0] n) 3)).alloc (.cells #[.slice (some ⟨w2.heap.size, 0, none⟩) n n, .int .i64 0] 34)) := by
    refine ⟨⟨List.replicate n 0, 0, by omega, by omega, by simp, ?_, hr⟩, F3⟩
    exact (hm.fr ((Fr.refl [] w2).alloc _) (by simp) (by simp)).fr ((Fr.refl [] _).alloc _) (by simp) (by simp)
  have hd1 : p ≠ w2.heap.size + 1 ∧ q ≠ w2.heap.size + 1 ∧ p ≠ w2.heap.size ∧ q ≠ w2.heap.size := by omega
  have hr0 : w.heap.size ≤ w2.heap.size := F2.size
  clear hm hr F3
  go_wp2_with fail
  go_loopw [9] (fun j wr => ∃ k : Nat, k ≤ len ∧ j = .int .i64 k ∧ PlaysInv w p q (w2.heap.size + 1) w2.heap.size n k wr) (fun j _ => len - (intOf j).toNat)
  case atStart => exact ⟨0, Nat.zero_le _, rfl, hI⟩
  case round =>
    obtain ⟨k, hk, rfl, hinv⟩ := hrel
    by_cases hlt : k < len
    · obtain ⟨o, hget⟩ : ∃ o, l[k]? = some o := ⟨_, List.getElem?_eq_getElem (by have := HL.out; omega)⟩
      obtain ⟨⟨M, T, hT0, hT1, hML, hmx, hmy⟩, fr⟩ := hinv
      obtain ⟨o0, o1, b, f, rfl, hb, c0, c1, c2, c3⟩ := (A.out.fr fr (Nat.le_refl _) (by simp)) k o hget
      have HG := Lib.hid hget; clear hget
      have HM := Lib.hid hML; clear hML
      have hlt' : (k : Int) < (len : Int) := by omega
      have hk0 : (0 : Int) ≤ (k : Int) := by omega
      obtain ⟨rp, hrp⟩ : ∃ rp, rp = w2.heap.size + 1 := ⟨_, rfl⟩
      obtain ⟨rq, hrq⟩ : ∃ rq, rq = w2.heap.size := ⟨_, rfl⟩
      have hbx : b ∉ [p, q] := by simp; omega
      have hby : b ∉ [rp, rq] := by simp; omega
      have nx : rp ∉ [p, q] ∧ rq ∉ [p, q] := by simp; omega
      have ny : p ∉ [rp, rq] ∧ q ∉ [rp, rq] := by simp; omega
      rw [← hrp, ← hrq] at hmy
      rw [← hrp]
      have HRP := Lib.hid hrp; have HRQ := Lib.hid hrq; clear hrp hrq
      obtain ⟨ok, oi, ov, ou⟩ := o
      simp only at o0 o1 c0 c1 c2 c3
      have hlo := length_opNext ⟨ok, oi, ov, ou⟩ M
      have hto := opTch_0 ⟨ok, oi, ov, ou⟩ M
      have DX := do_any wr.drew p q M T ⟨ok, oi, ov, ou⟩ hmx.drew hT0 (by omega) o0
      have DY : ∀ wx, MemAt 34 wx rp rq M T → Calls Try.prog 15 #[.pointer (some ⟨rp, 0, none⟩), OpV.val ⟨ok, oi, ov, ou⟩] wx _ :=
        fun wx hwx => rdo_any wx rp rq M T ⟨ok, oi, ov, ou⟩ hwx hT0 (by omega) o0
      generalize opTold ⟨ok, oi, ov, ou⟩ M = told at DX DY
      generalize opNext ⟨ok, oi, ov, ou⟩ M = M1 at DX DY hlo
      generalize opTch ⟨ok, oi, ov, ou⟩ M = u at DX DY hto
      unfold OpV.val at DX DY
      simp only at DX DY
      have hn1 : M1.length = n := hlo.trans HM.out
      have hM1 : M1.length ≤ 10000 := by omega
      have HN1 := Lib.hid hn1; clear hn1 hlo
      have hDX := Lib.hid DX; have hDY := Lib.hid DY; clear DX DY
      go_wp2_with fail
      refine wp_region_held_drew (S := fun w' => w'.cell? ⟨b, f + k * 4, none⟩ = some (.int .u8 ok) ∧ w'.cell? ⟨b, f + k * 4 + 1, none⟩ = some (.int .i64 oi) ∧ w'.cell? ⟨b, f + k * 4 + 2, none⟩ = some (.int .i64 ov) ∧ w'.cell? ⟨b, f + k * 4 + 3, none⟩ = some (.int .i64 ou)) (by kernel_rfl) ⟨c0, c1, c2, c3⟩ (fun hHeld => ?_)
      refine wpAnyH_take (i := 0) (oi := _) (v := ?_) rfl (by kernel_rfl) (by kernel_rfl) (by kernel_rfl) (fun _ _ _ h => h) (Or.inl ⟨by rfl, ?_⟩) (by assumption) ?_
      rotate_left
      · intro w hSw
        try dsimp only at hSw
        try simp only [List.getElem_toArray, List.getElem_cons_zero]
        go_split_ands
        go_simp
        try with_reducible rfl
      try simp only [Act.put, List.getElem_toArray, List.getElem_cons_zero, List.setIfInBounds_toArray, List.set_cons_zero, List.set_cons_succ]
      refine wpAnyH_take (i := 1) (oi := _) (v := ?_) rfl (by kernel_rfl) (by kernel_rfl) (by kernel_rfl) (fun _ _ _ h => h) (Or.inl ⟨by rfl, ?_⟩) (by assumption) ?_
      rotate_left
      · intro w hSw
        try dsimp only at hSw
        try simp only [List.getElem_toArray, List.getElem_cons_succ, List.getElem_cons_zero]
        go_split_ands
        go_simp
        try with_reducible rfl
      try simp only [Act.put, List.getElem_toArray, List.getElem_cons_succ, List.getElem_cons_zero, List.setIfInBounds_toArray, List.set_cons_zero, List.set_cons_succ]
      refine wpAnyH_take (i := 2) (oi := _) (v := ?_) rfl (by kernel_rfl) (by kernel_rfl) (by kernel_rfl) (fun _ _ _ h => h) (Or.inl ⟨by rfl, ?_⟩) (by assumption) ?_
      rotate_left
      · intro w hSw
        try dsimp only at hSw
        try simp only [List.getElem_toArray, List.getElem_cons_succ, List.getElem_cons_zero]
        go_split_ands
        go_simp
        try with_reducible rfl
      try simp only [Act.put, List.getElem_toArray, List.getElem_cons_succ, List.getElem_cons_zero, List.setIfInBounds_toArray, List.set_cons_zero, List.set_cons_succ]
      refine wpAnyH_take (i := 3) (oi := _) (v := ?_) rfl (by kernel_rfl) (by kernel_rfl) (by kernel_rfl) (fun _ _ _ h => h) (Or.inl ⟨by rfl, ?_⟩) (by assumption) ?_
      rotate_left
      · intro w hSw
        try dsimp only at hSw
        try simp only [List.getElem_toArray, List.getElem_cons_succ, List.getElem_cons_zero]
        go_split_ands
        go_simp
        try with_reducible rfl
      try simp only [Act.put, List.getElem_toArray, List.getElem_cons_succ, List.getElem_cons_zero, List.setIfInBounds_toArray, List.set_cons_zero, List.set_cons_succ]
      refine wpAnyH_take (i := 4) (oi := _) (v := ?_) rfl (by kernel_rfl) (by kernel_rfl) (by kernel_rfl) (fun _ _ _ h => h) (Or.inl ⟨by rfl, ?_⟩) (by assumption) ?_
      rotate_left
      · intro w hSw
        try dsimp only at hSw
        try simp only [List.getElem_toArray, List.getElem_cons_succ, List.getElem_cons_zero]
        go_split_ands
        go_simp
        try with_reducible rfl
      try simp only [Act.put, List.getElem_toArray, List.getElem_cons_succ, List.getElem_cons_zero, List.setIfInBounds_toArray, List.set_cons_zero, List.set_cons_succ]
      refine wpAnyH_take (i := 6) (oi := _) (v := ?_) rfl (by kernel_rfl) (by kernel_rfl) (by kernel_rfl) (fun _ _ _ h => h) (Or.inl ⟨by rfl, ?_⟩) (by assumption) ?_
      rotate_left
      · intro w hSw
        try dsimp only at hSw
        try simp only [List.getElem_toArray, List.getElem_cons_succ, List.getElem_cons_zero]
        go_split_ands
        go_simp
        try with_reducible rfl
      try simp only [Act.put, List.getElem_toArray, List.getElem_cons_succ, List.getElem_cons_zero, List.setIfInBounds_toArray, List.set_cons_zero, List.set_cons_succ]
      refine wpAnyH_take (i := 7) (oi := _) (v := ?_) rfl (by kernel_rfl) (by kernel_rfl) (by kernel_rfl) (fun _ _ _ h => h) (Or.inl ⟨by rfl, ?_⟩) (by assumption) ?_
      rotate_left
      · intro w hSw
        try dsimp only at hSw
        try simp only [List.getElem_toArray, List.getElem_cons_succ, List.getElem_cons_zero]
        go_split_ands
        go_simp
        try with_reducible rfl
      try simp only [Act.put, List.getElem_toArray, List.getElem_cons_succ, List.getElem_cons_zero, List.setIfInBounds_toArray, List.set_cons_zero, List.set_cons_succ]
      refine wpAnyH_take (i := 8) (oi := _) (v := ?_) rfl (by kernel_rfl) (by kernel_rfl) (by kernel_rfl) (fun _ _ _ h => h) (Or.inl ⟨by rfl, ?_⟩) (by assumption) ?_
      rotate_left
      · intro w hSw
        try dsimp only at hSw
        try simp only [List.getElem_toArray, List.getElem_cons_succ, List.getElem_cons_zero]
        go_split_ands
        go_simp
        try with_reducible rfl
      try simp only [Act.put, List.getElem_toArray, List.getElem_cons_succ, List.getElem_cons_zero, List.setIfInBounds_toArray, List.set_cons_zero, List.set_cons_succ]
      refine wpAnyH_take (i := 9) (oi := _) (v := ?_) rfl (by kernel_rfl) (by kernel_rfl) (by kernel_rfl) (fun _ _ _ h => h) (Or.inl ⟨by rfl, ?_⟩) (by assumption) ?_
      rotate_left
      · intro w hSw
        try dsimp only at hSw
        try simp only [List.getElem_toArray, List.getElem_cons_succ, List.getElem_cons_zero]
        go_split_ands
        go_simp
        try with_reducible rfl
      try simp only [Act.put, List.getElem_toArray, List.getElem_cons_succ, List.getElem_cons_zero, List.setIfInBounds_toArray, List.set_cons_zero, List.set_cons_succ]
      refine wpAnyH_take (i := 10) (oi := _) (v := ?_) rfl (by kernel_rfl) (by kernel_rfl) (by kernel_rfl) (fun _ _ _ h => h) (Or.inl ⟨by rfl, ?_⟩) (by assumption) ?_
      rotate_left
      · intro w hSw
        try dsimp only at hSw
        try simp only [List.getElem_toArray, List.getElem_cons_succ, List.getElem_cons_zero]
        go_split_ands
        go_simp
        try with_reducible rfl
      try simp only [Act.put, List.getElem_toArray, List.getElem_cons_succ, List.getElem_cons_zero, List.setIfInBounds_toArray, List.set_cons_zero, List.set_cons_succ]
      refine wpAnyH_ready (rs := [5]) (by kernel_rfl) (by simp) ?_
      refine AllReadyH.cons (o := _) rfl (fun K hK => ?_) AllReadyH.nil
      simp only [List.getElem_toArray, List.getElem_cons_succ, List.getElem_cons_zero]
      go_simp
      refine (hDX.out).mono ?_
      rintro e wx ⟨rfl, hm6, fx⟩
      have x0 := fx.cell c0 hbx; have x1 := fx.cell c1 hbx; have x2 := fx.cell c2 hbx; have x3 := fx.cell c3 hbx
      have hr6 := hmy.drew.fr fx nx.1 nx.2
      go_wp2_with fail
      refine hK.out _ _ ⟨x0, x1, x2, x3⟩ (fun hHeld => ?_)
      clear hK K
      try simp only [Act.put, List.getElem_toArray, List.getElem_cons_succ, List.getElem_cons_zero, List.setIfInBounds_toArray, List.set_cons_zero, List.set_cons_succ]
      refine wpAnyH_ready (rs := [11]) (by kernel_rfl) (by simp) ?_
      refine AllReadyH.cons (o := _) rfl (fun K hK => ?_) AllReadyH.nil
      simp only [List.getElem_toArray, List.getElem_cons_succ, List.getElem_cons_zero]
      go_simp
      refine (hDY.out _ hr6).mono ?_
      rintro e wy ⟨rfl, ⟨cap7, cur7, hr7⟩, fy⟩
      have y0 := hr7.c0; have y1 := hr7.c1
      have y2 := fy.cell x0 hby; have y3 := fy.cell x1 hby; have y4 := fy.cell x2 hby; have y5 := fy.cell x3 hby
      have hm7 := hm6.fr fy ny.1 ny.2
      go_wp2_with fail
      refine hK.out _ _ ⟨y2, y3, y4, y5⟩ (fun hHeld => ?_)
      clear hK K
      try simp only [Act.put, List.getElem_toArray, List.getElem_cons_succ, List.getElem_cons_zero, List.setIfInBounds_toArray, List.set_cons_zero, List.set_cons_succ]
      refine wpAnyH_sub (S' := fun w' => (w'.cell? ⟨b, f + k * 4, none⟩ = some (.int .u8 ok) ∧ w'.cell? ⟨b, f + k * 4 + 1, none⟩ = some (.int .i64 oi) ∧ w'.cell? ⟨b, f + k * 4 + 2, none⟩ = some (.int .i64 ov) ∧ w'.cell? ⟨b, f + k * 4 + 3, none⟩ = some (.int .i64 ou)) ∧ w'.cell? ⟨rp, 0, none⟩ = some (.slice (some ⟨rq, 0, none⟩) M1.length cap7) ∧ w'.cell? ⟨rp, 1, none⟩ = some (.int .i64 (T + u))) (fun _ h => h.1) _ _ _ _ ?_
      clear hHeld
      have hHeld : (wy.cell? ⟨b, f + k * 4, none⟩ = some (.int .u8 ok) ∧ wy.cell? ⟨b, f + k * 4 + 1, none⟩ = some (.int .i64 oi) ∧ wy.cell? ⟨b, f + k * 4 + 2, none⟩ = some (.int .i64 ov) ∧ wy.cell? ⟨b, f + k * 4 + 3, none⟩ = some (.int .i64 ou)) ∧ wy.cell? ⟨rp, 0, none⟩ = some (.slice (some ⟨rq, 0, none⟩) M1.length cap7) ∧ wy.cell? ⟨rp, 1, none⟩ = some (.int .i64 (T + u)) := ⟨⟨y2, y3, y4, y5⟩, y0, y1⟩
      refine wpAnyH_take (i := 12) (oi := _) (v := ?_) rfl (by kernel_rfl) (by kernel_rfl) (by kernel_rfl) (fun _ _ _ h => h) (Or.inl ⟨by rfl, ?_⟩) (by assumption) ?_
      rotate_left
      · intro w hSw
        try dsimp only at hSw
        try simp only [List.getElem_toArray, List.getElem_cons_succ, List.getElem_cons_zero]
        go_split_ands
        go_simp
        try with_reducible rfl
      try simp only [Act.put, List.getElem_toArray, List.getElem_cons_succ, List.getElem_cons_zero, List.setIfInBounds_toArray, List.set_cons_zero, List.set_cons_succ]
      refine wpAnyH_take (i := 13) (oi := _) (v := ?_) rfl (by kernel_rfl) (by kernel_rfl) (by kernel_rfl) (fun _ _ _ h => h) (Or.inl ⟨by rfl, ?_⟩) (by assumption) ?_
      rotate_left
      · intro w hSw
        try dsimp only at hSw
        try simp only [List.getElem_toArray, List.getElem_cons_succ, List.getElem_cons_zero]
        go_split_ands
        go_simp
        try with_reducible rfl
      try simp only [Act.put, List.getElem_toArray, List.getElem_cons_succ, List.getElem_cons_zero, List.setIfInBounds_toArray, List.set_cons_zero, List.set_cons_succ]
      refine wpAnyH_take (i := 14) (oi := _) (v := ?_) rfl (by kernel_rfl) (by kernel_rfl) (by kernel_rfl) (fun _ _ _ h => h) (Or.inl ⟨by rfl, ?_⟩) (by assumption) ?_
      rotate_left
      · intro w hSw
        try dsimp only at hSw
        try simp only [List.getElem_toArray, List.getElem_cons_succ, List.getElem_cons_zero]
        go_split_ands
        go_simp
        try with_reducible rfl
      try simp only [Act.put, List.getElem_toArray, List.getElem_cons_succ, List.getElem_cons_zero, List.setIfInBounds_toArray, List.set_cons_zero, List.set_cons_succ]
      refine wpAnyH_take (i := 16) (oi := _) (v := ?_) rfl (by kernel_rfl) (by kernel_rfl) (by kernel_rfl) (fun _ _ _ h => h) (Or.inl ⟨by rfl, ?_⟩) (by assumption) ?_
      rotate_left
      · intro w hSw
        try dsimp only at hSw
        try simp only [List.getElem_toArray, List.getElem_cons_succ, List.getElem_cons_zero]
        go_split_ands
        go_simp
        try with_reducible rfl
      try simp only [Act.put, List.getElem_toArray, List.getElem_cons_succ, List.getElem_cons_zero, List.setIfInBounds_toArray, List.set_cons_zero, List.set_cons_succ]
      refine wpAnyH_take (i := 17) (oi := _) (v := ?_) rfl (by kernel_rfl) (by kernel_rfl) (by kernel_rfl) (fun _ _ _ h => h) (Or.inl ⟨by rfl, ?_⟩) (by assumption) ?_
      rotate_left
      · intro w hSw
        try dsimp only at hSw
        try simp only [List.getElem_toArray, List.getElem_cons_succ, List.getElem_cons_zero]
        go_split_ands
        go_simp
        try with_reducible rfl
      try simp only [Act.put, List.getElem_toArray, List.getElem_cons_succ, List.getElem_cons_zero, List.setIfInBounds_toArray, List.set_cons_zero, List.set_cons_succ]
      refine wpAnyH_take (i := 18) (oi := _) (v := ?_) rfl (by kernel_rfl) (by kernel_rfl) (by kernel_rfl) (fun _ _ _ h => h) (Or.inl ⟨by rfl, ?_⟩) (by assumption) ?_
      rotate_left
      · intro w hSw
        try dsimp only at hSw
        try simp only [List.getElem_toArray, List.getElem_cons_succ, List.getElem_cons_zero]
        go_split_ands
        go_simp
        try with_reducible rfl
      try simp only [Act.put, List.getElem_toArray, List.getElem_cons_succ, List.getElem_cons_zero, List.setIfInBounds_toArray, List.set_cons_zero, List.set_cons_succ]
      refine wpAnyH_take (i := 19) (oi := _) (v := ?_) rfl (by kernel_rfl) (by kernel_rfl) (by kernel_rfl) (fun _ _ _ h => h) (Or.inl ⟨by rfl, ?_⟩) (by assumption) ?_
      rotate_left
      · intro w hSw
        try dsimp only at hSw
        try simp only [List.getElem_toArray, List.getElem_cons_succ, List.getElem_cons_zero]
        go_split_ands
        go_simp
        try with_reducible rfl
      try simp only [Act.put, List.getElem_toArray, List.getElem_cons_succ, List.getElem_cons_zero, List.setIfInBounds_toArray, List.set_cons_zero, List.set_cons_succ]
      refine wpAnyH_ready (rs := [15]) (by kernel_rfl) (by simp) ?_
      refine AllReadyH.cons (o := _) rfl (fun K hK => ?_) AllReadyH.nil
      simp only [List.getElem_toArray, List.getElem_cons_succ, List.getElem_cons_zero]
      go_simp
      refine (touched_any _ p q M1 (T + u) hm7).mono ?_
      rintro e w' ⟨rfl, rfl⟩
      go_wp2_with fail
      refine hK.out _ _ ⟨⟨y2, y3, y4, y5⟩, y0, y1⟩ (fun hHeld => ?_)
      clear hK K
      try simp only [Act.put, List.getElem_toArray, List.getElem_cons_succ, List.getElem_cons_zero, List.setIfInBounds_toArray, List.set_cons_zero, List.set_cons_succ]
      refine wpAnyH_take (i := 20) (oi := _) (v := ?_) rfl (by kernel_rfl) (by kernel_rfl) (by kernel_rfl) (fun _ _ _ h => h) (Or.inl ⟨by rfl, ?_⟩) (by assumption) ?_
      rotate_left
      · intro w hSw
        try dsimp only at hSw
        try simp only [List.getElem_toArray, List.getElem_cons_succ, List.getElem_cons_zero]
        go_split_ands
        go_simp
        try with_reducible rfl
      try simp only [Act.put, List.getElem_toArray, List.getElem_cons_succ, List.getElem_cons_zero, List.setIfInBounds_toArray, List.set_cons_zero, List.set_cons_succ]
      refine wpAnyH_take (i := 21) (oi := _) (v := ?_) rfl (by kernel_rfl) (by kernel_rfl) (by kernel_rfl) (fun _ _ _ h => h) (Or.inl ⟨by rfl, ?_⟩) (by assumption) ?_
      rotate_left
      · intro w hSw
        try dsimp only at hSw
        try simp only [List.getElem_toArray, List.getElem_cons_succ, List.getElem_cons_zero]
        go_split_ands
        go_simp
        try with_reducible rfl
      try simp only [Act.put, List.getElem_toArray, List.getElem_cons_succ, List.getElem_cons_zero, List.setIfInBounds_toArray, List.set_cons_zero, List.set_cons_succ]
      refine wpAnyH_take (i := 22) (oi := _) (v := ?_) rfl (by kernel_rfl) (by kernel_rfl) (by kernel_rfl) (fun _ _ _ h => h) (Or.inl ⟨by rfl, ?_⟩) (by assumption) ?_
      rotate_left
      · intro w hSw
        try dsimp only at hSw
        try simp only [List.getElem_toArray, List.getElem_cons_succ, List.getElem_cons_zero]
        go_split_ands
        go_simp
        try with_reducible rfl
      try simp only [Act.put, List.getElem_toArray, List.getElem_cons_succ, List.getElem_cons_zero, List.setIfInBounds_toArray, List.set_cons_zero, List.set_cons_succ]
      refine wpAnyH_take (i := 23) (oi := _) (v := ?_) rfl (by kernel_rfl) (by kernel_rfl) (by kernel_rfl) (fun _ _ _ h => h) (Or.inl ⟨by rfl, ?_⟩) (by assumption) ?_
      rotate_left
      · intro w hSw
        try dsimp only at hSw
        try simp only [List.getElem_toArray, List.getElem_cons_succ, List.getElem_cons_zero]
        go_split_ands
        go_simp
        try with_reducible rfl
      try simp only [Act.put, List.getElem_toArray, List.getElem_cons_succ, List.getElem_cons_zero, List.setIfInBounds_toArray, List.set_cons_zero, List.set_cons_succ]
      refine wpAnyH_take (i := 25) (oi := _) (v := ?_) rfl (by kernel_rfl) (by kernel_rfl) (by kernel_rfl) (fun _ _ _ h => h) (Or.inl ⟨by rfl, ?_⟩) (by assumption) ?_
      rotate_left
      · intro w hSw
        try dsimp only at hSw
        try simp only [List.getElem_toArray, List.getElem_cons_succ, List.getElem_cons_zero]
        go_split_ands
        go_simp
        try with_reducible rfl
      try simp only [Act.put, List.getElem_toArray, List.getElem_cons_succ, List.getElem_cons_zero, List.setIfInBounds_toArray, List.set_cons_zero, List.set_cons_succ]
      refine wpAnyH_take (i := 26) (oi := _) (v := ?_) rfl (by kernel_rfl) (by kernel_rfl) (by kernel_rfl) (fun _ _ _ h => h) (Or.inl ⟨by rfl, ?_⟩) (by assumption) ?_
      rotate_left
      · intro w hSw
        try dsimp only at hSw
        try simp only [List.getElem_toArray, List.getElem_cons_succ, List.getElem_cons_zero]
        go_split_ands
        go_simp
        try with_reducible rfl
      try simp only [Act.put, List.getElem_toArray, List.getElem_cons_succ, List.getElem_cons_zero, List.setIfInBounds_toArray, List.set_cons_zero, List.set_cons_succ]
      refine wpAnyH_take (i := 27) (oi := _) (v := ?_) rfl (by kernel_rfl) (by kernel_rfl) (by kernel_rfl) (fun _ _ _ h => h) (Or.inl ⟨by rfl, ?_⟩) (by assumption) ?_
      rotate_left
      · intro w hSw
        try dsimp only at hSw
        try simp only [List.getElem_toArray, List.getElem_cons_succ, List.getElem_cons_zero]
        go_split_ands
        go_simp
        try with_reducible rfl
      try simp only [Act.put, List.getElem_toArray, List.getElem_cons_succ, List.getElem_cons_zero, List.setIfInBounds_toArray, List.set_cons_zero, List.set_cons_succ]
      refine wpAnyH_take (i := 28) (oi := _) (v := ?_) rfl (by kernel_rfl) (by kernel_rfl) (by kernel_rfl) (fun _ _ _ h => h) (Or.inl ⟨by rfl, ?_⟩) (by assumption) ?_
      rotate_left
      · intro w hSw
        try dsimp only at hSw
        try simp only [List.getElem_toArray, List.getElem_cons_succ, List.getElem_cons_zero]
        go_split_ands
        go_simp
        try with_reducible rfl
      try simp only [Act.put, List.getElem_toArray, List.getElem_cons_succ, List.getElem_cons_zero, List.setIfInBounds_toArray, List.set_cons_zero, List.set_cons_succ]
      refine wpAnyH_ready (rs := [24]) (by kernel_rfl) (by simp) ?_
      refine AllReadyH.cons (o := _) rfl (fun K hK => ?_) AllReadyH.nil
      simp only [List.getElem_toArray, List.getElem_cons_succ, List.getElem_cons_zero]
      go_simp
      refine (words_any _ p q M1 (T + u) hm7 hM1).mono ?_
      rintro e wz ⟨g8, k8, rfl, own8, fz⟩
      have i1 := IntsAt.of_owns own8
      have hm8 := hm7.fr fz (by simp) (by simp)
      go_wp2_with fail
      refine hK.out _ _ ⟨⟨fz.cell y2 (by simp), fz.cell y3 (by simp), fz.cell y4 (by simp), fz.cell y5 (by simp)⟩, fz.cell y0 (by simp), fz.cell y1 (by simp)⟩ (fun hHeld => ?_)
      clear hK K
      try simp only [Act.put, List.getElem_toArray, List.getElem_cons_succ, List.getElem_cons_zero, List.setIfInBounds_toArray, List.set_cons_zero, List.set_cons_succ]
      refine wpAnyH_ready (rs := [29]) (by kernel_rfl) (by simp) ?_
      refine AllReadyH.cons (o := _) rfl (fun K hK => ?_) AllReadyH.nil
      simp only [List.getElem_toArray, List.getElem_cons_succ, List.getElem_cons_zero]
      go_simp
      refine (ints_same _ _ _ _ _ M1 i1 (IntsAt.of_mem (hr7.fr fz (by simp) (by simp)))).mono ?_
      rintro e w' ⟨rfl, d, rfl⟩
      go_wp2_with fail
      refine hK.out _ _ ⟨⟨fz.cell y2 (by simp), fz.cell y3 (by simp), fz.cell y4 (by simp), fz.cell y5 (by simp)⟩, fz.cell y0 (by simp), fz.cell y1 (by simp)⟩ (fun hHeld => ?_)
      clear hK K
      try simp only [Act.put, List.getElem_toArray, List.getElem_cons_succ, List.getElem_cons_zero, List.setIfInBounds_toArray, List.set_cons_zero, List.set_cons_succ]
      refine wpAnyH_take (i := 30) (oi := _) (v := ?_) rfl (by kernel_rfl) (by kernel_rfl) (by kernel_rfl) (fun _ _ _ h => h) (Or.inl ⟨by rfl, ?_⟩) (by assumption) ?_
      rotate_left
      · intro w hSw
        try dsimp only at hSw
        try simp only [List.getElem_toArray, List.getElem_cons_succ, List.getElem_cons_zero]
        go_split_ands
        go_simp
        try with_reducible rfl
      try simp only [Act.put, List.getElem_toArray, List.getElem_cons_succ, List.getElem_cons_zero, List.setIfInBounds_toArray, List.set_cons_zero, List.set_cons_succ]
      refine wpAnyH_take (i := 31) (oi := _) (v := ?_) rfl (by kernel_rfl) (by kernel_rfl) (by kernel_rfl) (fun _ _ _ h => h) (Or.inl ⟨by rfl, ?_⟩) (by assumption) ?_
      rotate_left
      · intro w hSw
        try dsimp only at hSw
        try simp only [List.getElem_toArray, List.getElem_cons_succ, List.getElem_cons_zero]
        go_split_ands
        go_simp
        try with_reducible rfl
      try simp only [Act.put, List.getElem_toArray, List.getElem_cons_succ, List.getElem_cons_zero, List.setIfInBounds_toArray, List.set_cons_zero, List.set_cons_succ]
      refine wpAnyH_done (by kernel_rfl) ?_ _
      have hI' : PlaysInv w p q (w2.heap.size + 1) w2.heap.size n (k + 1) (wz.drewN d) := by
        refine ⟨⟨M1, T + u, by omega, by omega, HN1.out, hm8.drewN d, ?_⟩, ?_⟩
        · rw [← HRP.out, ← HRQ.out]
          exact MemAt.drewN ⟨cap7, cur7, hr7.fr fz (by simp) (by simp)⟩ d
        · exact (((fr.drew.then2 fx hp0 hq0).then2 fy (by have := HRP.out; omega) (by have := HRQ.out; omega)).trans fz).drewN d
      rw [← HRP.out] at hI'
      go_wp2
      go_roundw
      case rel => exact ⟨k + 1, by omega, by go_num, hI'⟩
      case measure => simp [intOf]; omega
    · have hge : ¬ (k : Int) < (len : Int) := by omega
      obtain ⟨⟨M, T, hT0, hT1, hML, hmx, hmy⟩, fr⟩ := hinv
      have hMn : (M.length : Int) = (n : Int) := by omega
      have HMn := Lib.hid hMn; clear hMn hML
      go_wp2_with fail
      refine (many_any wr p q M T hmx).mono ?_
      rintro e w' ⟨rfl, rfl⟩
      rw [HMn.out]
      go_wp2
      go_ret
      exact ⟨rfl, fr⟩

/-- A number of cells that can't be, or one of which nothing is said, or too many operations. -/
theorem plays_any (w : World) (many : Int) (g : Option Addr) (c : Nat) (l : List OpV) (hA : OpsAt w.heap.size w g l) (hl : l.length ≤ 9223372036854775807) :
    Calls Try.prog 4 #[.int .i64 many, .slice g l.length c] w fun e w' => e = .returned (.bool true) ∧ Fr [] w w' := by
  by_cases h60 : l.length ≤ 60
  · have g1 : decide ((60 : Int) < (l.length : Int)) = false := by simp; omega
    by_cases h100 : 100 < many ∧ many ≤ 4096
    · obtain ⟨ha, hb⟩ := h100
      have g2 : decide ((100 : Int) < many) = true := by simpa using ha
      have g3 : decide (many ≤ 4096) = true := by simpa using hb
      go_enter Try.func4, Try.ntmps4
      go_wp2_with fail
      refine (awake_any w).mono ?_
      rintro e w1 ⟨rfl, f1⟩
      go_wp2
      go_ret
      exact ⟨rfl, f1⟩
    · by_cases hlow : many < 1
      · have g2 : decide ((100 : Int) < many) = false := by simp; omega
        have g3 : decide (many < 1) = true := by simpa using hlow
        go_enter Try.func4, Try.ntmps4
        go_wp2_with fail
        refine (awake_any w).mono ?_
        rintro e w1 ⟨rfl, f1⟩
        go_wp2_with fail
        refine (new_bad many w1 (.inl hlow)).mono ?_
        rintro e w' ⟨rfl, rfl⟩
        go_wp2
        go_ret
        exact ⟨rfl, f1⟩
      · by_cases hhigh : 4096 < many
        · have g2 : decide ((100 : Int) < many) = true := by simp; omega
          have g2' : decide (many ≤ 4096) = false := by simp; omega
          have g3 : decide (many < 1) = false := by simp; omega
          have g4 : decide (4096 < many) = true := by simpa using hhigh
          go_enter Try.func4, Try.ntmps4
          go_wp2_with fail
          refine (awake_any w).mono ?_
          rintro e w1 ⟨rfl, f1⟩
          go_wp2_with fail
          refine (new_bad many w1 (.inr hhigh)).mono ?_
          rintro e w' ⟨rfl, rfl⟩
          go_wp2
          go_ret
          exact ⟨rfl, f1⟩
        · obtain ⟨n, rfl⟩ := Int.eq_ofNat_of_zero_le (show 0 ≤ many by omega)
          exact plays_good w n g c l (by omega) (by omega) hA h60
  · have g1 : decide ((60 : Int) < (l.length : Int)) = true := by simp; omega
    go_enter Try.func4, Try.ntmps4
    go_wp2_with fail
    refine (awake_any w).mono ?_
    rintro e w1 ⟨rfl, f1⟩
    go_wp2
    go_ret
    exact ⟨rfl, f1⟩

end Go.Proofs.Ytiemmoklhohdnaa
