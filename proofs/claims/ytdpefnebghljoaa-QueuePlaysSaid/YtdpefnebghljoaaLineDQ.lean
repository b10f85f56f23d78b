/- The layer 'line': the head. -/
import Derived.Test.YtdpefnebghljoaaLineCQ
namespace Go.Proofs.Ytdpefnebghljoaa
open Go.RowKit Go.Shelf
attribute [local go_sem] Oper.semAt_some

def headI : List Int → Int
  | [] => 0
  | x :: _ => x
/-- Of a list: its first one, or 0; and whether there is one. -/
def headV (L : List Int) : Value := .tuple #[.int .i64 (headI L), .bool (decide (L ≠ []))]

/-- Two result cells. -/
def twoOb (b : Nat) (h : Int) (ok : Bool) : Nat → Nat → Obj := fun _ x => if x = b then .cells #[.int .i64 h] 3 else .cells #[.bool ok] 4

set_option maxHeartbeats 400000 in
theorem head_any (w : World) (n : Nat) (hn : n < 9223372036854775808) : Calls Try.prog 56 #[.int .i64 (n : Int)] w fun e w' => e = .returned (headV (digW n)) ∧ Fr [] w w' := by
  obtain ⟨L, hL⟩ : ∃ L, L = digW n := ⟨_, rfl⟩
  rw [← hL]
  have HL := Lib.hid hL; clear hL
  refine (callsIn_wide (n := 3)).1 (callsIn_of_wp_marks Try.func56 rfl trivial (wpIn_wide.2 ?_) rfl)
  simp only [Try.ntmps56, List.size_toArray, List.length_cons, List.length_nil, Nat.reduceAdd, Nat.reduceSub, Array.replicate_succ, Array.replicate_zero, List.push_toArray, List.append_toArray, List.nil_append, List.cons_append]
  go_wp2_with fail
  refine (digits_any _ n hn).mono ?_
  rintro e w2 ⟨v, g, lb, rfl, rfl, hg, hI, f2, hlt2⟩
  have hc0 := (Stp.of_fr f2).at (heap_alloc_new (w.alloc (.cells #[.int .i64 0] 3)) (.cells #[.bool false] 4)) (by simp)
  have hw0 := (Stp.of_fr f2).at (heap_alloc_keep (heap_alloc_new w (.cells #[.int .i64 0] 3)) (.cells #[.bool false] 4)) (by simp)
  have F2 := (((Fr.refl [] w).alloc (.cells #[.int .i64 0] 3)).alloc (.cells #[.bool false] 4)).trans f2
  simp only [World.size_alloc] at hI hlt2 hc0
  have HG := Lib.hid hg; have HI := Lib.hid hI; have HC := Lib.hid hc0; have HW := Lib.hid hw0; clear hg hI hc0 f2 hw0
  have hb := F2.size
  obtain ⟨b, hbe⟩ : ∃ b, b = w.heap.size := ⟨_, rfl⟩
  rw [← hbe] at HI HC HW hlt2 ⊢
  have hbw : w.heap.size ≤ b := by omega
  clear hbe
  have hs2 : ∀ (x : Nat), (x = b ∨ x = b + 1) → x = b ∨ x = b + 1 := fun _ h => h
  go_wp2
  refine wp_rangeE (xs := digP n) (enc := encP) rfl HG.out HI.out (fun x => rfl)
    (fun k W O => k = 0 ∧ BoxInv w2 (fun x => x = b + 1 + 1) (fun x => x = b ∨ x = b + 1) (twoOb b 0 false) k W O)
    (fun c k W O => (c = .ret ∧ k = 1 ∧ L ≠ []) ∧ BoxInv w2 (fun x => x = b + 1 + 1) (fun x => x = b ∨ x = b + 1) (twoOb b (headI L) true) k W O)
    ((BoxInv.stable _ _ _ _ (Nat.le_refl _)).and (fun k => k = 0)) (fun c => (BoxInv.stable _ _ _ _ (Nat.le_refl _)).and (fun k => c = .ret ∧ k = 1 ∧ L ≠ []))
    (fun x => x = b ∨ x = b + 1) (fun x hx => by show x < w2.heap.size; have := hs2 x hx; omega) (fun x hb h => by rcases hb with hb | hb; exact hb.elim; have := hs2 x h; have : x = b + 1 + 1 := hb; omega)
    ⟨rfl, rfl, fun x hb => by
      rcases hs2 x hb with rfl | rfl
      · simpa [twoOb] using HW.out
      · simpa [twoOb] using HC.out, Stp.refl _ _⟩ ?round ?done ?stop
  case round =>
    intro l' k x W1 O1 hx
    obtain ⟨hx1, hx2⟩ := get_of_digP hx
    rw [← HL.out] at hx2
    obtain ⟨xp, xw⟩ := x
    simp only at hx1 hx2
    subst hx1
    clear hx
    have HX := Lib.hid hx2; clear hx2
    simp only [encP, List.zip_toArray, List.zip_cons_cons, List.zip_nil_right, List.foldl_toArray', List.foldl_cons, List.foldl_nil, List.setIfInBounds_toArray, List.set_cons_zero, List.set_cons_succ]
    gi_wp2
    refine ⟨rfl, ?_⟩
    rintro W2 ⟨hk0, hJ⟩ hb2 hsz2
    subst hk0
    obtain rfl := hJ.1
    have hc1 : W2.heap[b]? = some (.cells #[.int .i64 0] 3) := by have := hJ.2.1 b (.inl rfl); simpa [twoOb] using this
    have hc2 : W2.heap[b + 1]? = some (.cells #[.bool false] 4) := by have := hJ.2.1 (b + 1) (.inr rfl); simpa [twoOb] using this
    have q1 : W2.cell? ⟨b, 0, none⟩ = some (.int .i64 0) := cell_of (i := 0) hc1 rfl
    have q2 : W2.frozen? ⟨b, 0, none⟩ = false := frozen_of hc1
    have q3 : W2.cell? ⟨b + 1, 0, none⟩ = some (.bool false) := cell_of (i := 0) hc2 rfl
    have q4 : W2.frozen? ⟨b + 1, 0, none⟩ = false := frozen_of hc2
    have hh : headI L = xw ∧ L ≠ [] := by
      have := HX.out
      cases L with
      | nil => simp at this
      | cons a t => simp at this; simp [headI, this]
    have fin := hJ.next (W3 := (W2.setCell ⟨b, 0, none⟩ (.int .i64 xw)).setCell ⟨b + 1, 0, none⟩ (.bool true)) (ob' := twoOb b (headI L) true) (k' := 0 + 1)
      (((Stp.refl (fun x => x = b ∨ x = b + 1) W2).setCell (p := ⟨b, 0, none⟩) (.inl (.inl rfl)) _).setCell (p := ⟨b + 1, 0, none⟩) (.inl (.inr rfl)) _) (fun x hb => by
        rcases hs2 x hb with rfl | rfl
        · rw [Below.heap_setCell _ _ _ _ (show x ≠ x + 1 by omega)]
          have := heap_setCell_same (i := 0) hc1 (.int .i64 xw)
          simpa [twoOb, hh.1] using this
        · have h2 : (W2.setCell ⟨b, 0, none⟩ (.int .i64 xw)).heap[b + 1]? = some (.cells #[.bool false] 4) := (Below.heap_setCell _ _ _ _ (show b + 1 ≠ b by omega)).trans hc2
          have := heap_setCell_same (i := 0) h2 (.bool true)
          simpa [twoOb] using this)
    have FIN := Lib.hid fin; have HH := Lib.hid hh; clear fin hJ hc1 hc2 hh hs2
    gi_wp2
    obtain ⟨O', s1, s2, s3⟩ := FIN.out
    exact ⟨O', s1, s2, ⟨rfl, rfl, HH.out.2⟩, s3⟩
  case done =>
    rintro D W' O' hD ⟨hk0, hJ⟩ _ hst _ hK hnD
    obtain rfl := hJ.1
    have hc1 : W'.heap[b]? = some (.cells #[.int .i64 0] 3) := by have := hJ.2.1 b (.inl rfl); simpa [twoOb] using this
    have hc2 : W'.heap[b + 1]? = some (.cells #[.bool false] 4) := by have := hJ.2.1 (b + 1) (.inr rfl); simpa [twoOb] using this
    have q1 : W'.cell? ⟨b, 0, none⟩ = some (.int .i64 0) := cell_of (i := 0) hc1 rfl
    have q2 : W'.frozen? ⟨b, 0, none⟩ = false := frozen_of hc1
    have q3 : W'.cell? ⟨b + 1, 0, none⟩ = some (.bool false) := cell_of (i := 0) hc2 rfl
    have q4 : W'.frozen? ⟨b + 1, 0, none⟩ = false := frozen_of hc2
    have hL0 : L = [] := by rw [length_digP, ← HL.out] at hk0; exact List.eq_nil_of_length_eq_zero hk0
    have hD1 : D ≠ b := fun e => hnD (.inl e)
    have hD2 : D ≠ b + 1 := fun e => hnD (.inr e)
    have h2 : (W'.setCell ⟨b, 0, none⟩ (.int .i64 0)).heap[b + 1]? = some (.cells #[.bool false] 4) := (Below.heap_setCell _ _ _ _ (show b + 1 ≠ b by omega)).trans hc2
    have r1 : (((W'.setCell ⟨b, 0, none⟩ (.int .i64 0)).setCell ⟨b + 1, 0, none⟩ (.bool false)).putObj D (.deferred none)).cell? ⟨b, 0, none⟩ = some (.int .i64 0) := by
      refine cell_of (i := 0) (c := #[.int .i64 0]) (t := 3) (z := (0, 0)) ?_ rfl
      rw [World.putObj_heap_other (fun e => hD1 e.symm), Below.heap_setCell _ _ _ _ (show b ≠ b + 1 by omega)]
      have := heap_setCell_same (i := 0) hc1 (.int .i64 0)
      simpa using this
    have r2 : (((W'.setCell ⟨b, 0, none⟩ (.int .i64 0)).setCell ⟨b + 1, 0, none⟩ (.bool false)).putObj D (.deferred none)).cell? ⟨b + 1, 0, none⟩ = some (.bool false) := by
      refine cell_of (i := 0) (c := #[.bool false]) (t := 4) (z := (0, 0)) ?_ rfl
      rw [World.putObj_heap_other (fun e => hD2 e.symm)]
      have := heap_setCell_same (i := 0) h2 (.bool false)
      simpa using this
    have hK2 : ((W'.setCell ⟨b, 0, none⟩ (.int .i64 0)).setCell ⟨b + 1, 0, none⟩ (.bool false)).heap[D]? = some (.deferred (some [])) := (Below.heap_setCell _ _ _ _ hD2).trans ((Below.heap_setCell _ _ _ _ hD1).trans hK)
    have fin : Fr [] w (((W'.setCell ⟨b, 0, none⟩ (.int .i64 0)).setCell ⟨b + 1, 0, none⟩ (.bool false)).putObj D (.deferred none)) := (((((Stp.of_fr F2).then hst (fun x hx => by right; have hx2 : (x = b ∨ x = b + 1) ∨ x = b + 1 + 1 := hx; omega)).setCell (p := ⟨b, 0, none⟩) (.inr (by show w.heap.size ≤ b; omega)) _).setCell (p := ⟨b + 1, 0, none⟩) (.inr (by show w.heap.size ≤ b + 1; omega)) _).putObj (.inr (by omega)) _).to_fr (fun x hx => by simp at hx)
    have FIN := Lib.hid fin; have R1 := Lib.hid r1; have R2 := Lib.hid r2; have HK2 := Lib.hid hK2; clear fin r1 r2 hK2 hst hJ hc1 hc2 h2 hs2 hk0
    have HL0 := Lib.hid hL0; clear hL0
    go_wp2
    refine leave_ret_at (.tuple #[.int .i64 0, .bool false]) HK2.out ?_ ?_
    · have r1 := R1.out
      have r2 := R2.out
      simp [results, Try.f56, go_sem, r1, r2]
    · exact ⟨by rw [HL0.out]; rfl, FIN.out⟩
  case stop =>
    rintro D c k W' O' hD hk ⟨⟨rfl, hk1, hm⟩, hJ⟩ _ hst _ hK hnD
    obtain rfl := hJ.1
    have hc1 : W'.heap[b]? = some (.cells #[.int .i64 (headI L)] 3) := by have := hJ.2.1 b (.inl rfl); simpa [twoOb] using this
    have hc2 : W'.heap[b + 1]? = some (.cells #[.bool true] 4) := by have := hJ.2.1 (b + 1) (.inr rfl); simpa [twoOb] using this
    have hD1 : D ≠ b := fun e => hnD (.inl e)
    have hD2 : D ≠ b + 1 := fun e => hnD (.inr e)
    have r1 : (W'.putObj D (.deferred none)).cell? ⟨b, 0, none⟩ = some (.int .i64 (headI L)) := by
      refine cell_of (i := 0) (c := #[.int .i64 (headI L)]) (t := 3) (z := (0, 0)) ?_ rfl
      rw [World.putObj_heap_other (fun e => hD1 e.symm)]; exact hc1
    have r2 : (W'.putObj D (.deferred none)).cell? ⟨b + 1, 0, none⟩ = some (.bool true) := by
      refine cell_of (i := 0) (c := #[.bool true]) (t := 4) (z := (0, 0)) ?_ rfl
      rw [World.putObj_heap_other (fun e => hD2 e.symm)]; exact hc2
    have fin : Fr [] w (W'.putObj D (.deferred none)) := (((Stp.of_fr F2).then hst (fun x hx => by right; have hx2 : (x = b ∨ x = b + 1) ∨ x = b + 1 + 1 := hx; omega)).putObj (.inr (by omega)) _).to_fr (fun x hx => by simp at hx)
    have FIN := Lib.hid fin; have R1 := Lib.hid r1; have R2 := Lib.hid r2; have HM := Lib.hid hm; clear fin r1 r2 hst hJ hc1 hc2 hs2 hm hk1
    go_wp2
    refine leave_ret_at (.tuple #[.int .i64 (headI L), .bool true]) hK ?_ ?_
    · have r1 := R1.out
      have r2 := R2.out
      simp [results, Try.f56, go_sem, r1, r2]
    · exact ⟨by unfold headV; rw [decide_eq_true HM.out], FIN.out⟩

end Go.Proofs.Ytdpefnebghljoaa
