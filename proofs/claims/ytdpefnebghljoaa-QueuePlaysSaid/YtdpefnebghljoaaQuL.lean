/- The queue of workers: one step as a function of what the Queue and the memory hold; its contract. -/
import Derived.Test.YtdpefnebghljoaaQuK
namespace Go.Proofs.Ytdpefnebghljoaa
open Go.RowKit

/-- The line that stands in the memory. -/
def mQ (M : List Int) : List Int := refLi (loadV M 1)
theorem mQ_wd {M Q : List Int} (hQ : Ln Q) (h : loadV M 1 = (wd Q : Int)) : mQ M = Q := by unfold mQ; rw [h, refLi_wd hQ]
/-- The memory has a right line. -/
def MOk (M : List Int) : Prop := 2 ≤ M.length ∧ Ln (mQ M) ∧ loadV M 1 = (wd (mQ M) : Int)
theorem MOk.of {M Q : List Int} (hm : 2 ≤ M.length) (hQ : Ln Q) (h : loadV M 1 = (wd Q : Int)) : MOk M ∧ mQ M = Q := by
  have e := mQ_wd hQ h
  exact ⟨⟨hm, by rw [e]; exact hQ, by rw [e]; exact h⟩, e⟩
theorem MOk.set {M Q : List Int} (hm : 2 ≤ M.length) (hQ : Ln Q) : MOk (M.set 1 (wd Q : Int)) ∧ mQ (M.set 1 (wd Q : Int)) = Q :=
  MOk.of (by rw [List.length_set]; exact hm) hQ (loadq_set hm)
/-- A swap goes through where the line is the one that was loaded. -/
theorem casq_iff {M L : List Int} (h : MOk M) (hL : Ln L) : casB M 1 (wd L : Int) = decide (mQ M = L) := by
  have hin : isIn M 1 = true := isIn_yes (by omega) (by have := h.1; omega)
  have h1 := h.2.2
  unfold loadV at h1
  rw [if_pos hin] at h1
  unfold casB
  rw [hin, Bool.true_and, h1]
  by_cases e : mQ M = L
  · rw [e]; simp
  · rw [decide_eq_false e]
    refine decide_eq_false fun hh => e (wd_inj h.2.1 hL (by omega))
theorem cell1 {M : List Int} (h : 2 ≤ M.length) (L : List Int) (n : Int) : casL M 1 (wd L : Int) n = if casB M 1 (wd L : Int) = true then M.set 1 n else M := rfl

/-! what stands in a memory behind a store -/
theorem isIn_storeL (L : List Int) (i v j : Int) : isIn (storeL L i v) j = isIn L j := by unfold isIn; rw [length_storeL]
theorem loadV_storeL_same {L : List Int} {i v : Int} (h : isIn L i = true) : loadV (storeL L i v) i = v := by
  unfold loadV
  rw [isIn_storeL, if_pos h]
  unfold storeL
  rw [if_pos h]
  have := of_decide_eq_true h
  rw [List.getD_eq_getElem?_getD, List.getElem?_set_self (by omega)]
  rfl
theorem loadV_storeL_ne {L : List Int} {i j v : Int} (h0 : 0 ≤ i) (h : i ≠ j) : loadV (storeL L i v) j = loadV L j := by
  unfold loadV
  rw [isIn_storeL]
  by_cases hj : isIn L j = true
  · rw [if_pos hj, if_pos hj]
    unfold storeL
    split
    · have := of_decide_eq_true hj
      rw [List.getD_eq_getElem?_getD, List.getElem?_set_ne (by omega), List.getD_eq_getElem?_getD]
    · rfl
  · rw [if_neg hj, if_neg hj]
theorem loadV_set1_ne {M : List Int} {n j : Int} (hm : 2 ≤ M.length) (hj : j ≠ 1) : loadV (M.set 1 n) j = loadV M j := by
  have e : M.set 1 n = storeL M 1 n := by unfold storeL; rw [if_pos (isIn_yes (by omega) (by omega))]; rfl
  rw [e]; exact loadV_storeL_ne (by omega) (Ne.symm hj)
theorem loadV_zeros (n : Nat) (i : Int) : loadV (List.replicate n 0) i = 0 := by
  unfold loadV
  split
  · rw [List.getD_eq_getElem?_getD, List.getElem?_replicate]; split <;> rfl
  · rfl
theorem laid_0 {c : ConfV} (hc : c.fits) (closed : Int) (L : List Int) : loadV (laidM c closed L) 0 = closed := by
  have := hc.1; have := hc.2.1
  unfold laidM
  rw [loadV_storeL_ne (by omega) (by omega), loadV_storeL_same]
  exact isIn_yes (by omega) (by rw [List.length_replicate]; unfold ConfV.cells; omega)
theorem laid_1 {c : ConfV} (hc : c.fits) (closed : Int) (L : List Int) : loadV (laidM c closed L) 1 = (wd L : Int) := by
  have := hc.1; have := hc.2.1
  unfold laidM
  rw [loadV_storeL_same]
  exact isIn_yes (by omega) (by rw [length_storeL, List.length_replicate]; unfold ConfV.cells; omega)
theorem laid_2 (c : ConfV) (closed : Int) (L : List Int) {i : Int} (hi : 2 ≤ i) : loadV (laidM c closed L) i = 0 := by
  unfold laidM
  rw [loadV_storeL_ne (by omega) (by omega), loadV_storeL_ne (by omega) (by omega), loadV_zeros]
theorem laid_ok {c : ConfV} (hc : c.fits) (closed : Int) {L : List Int} (hL : Ln L) : MOk (laidM c closed L) ∧ mQ (laidM c closed L) = L :=
  MOk.of (by have := hc.1; have := hc.2.1; rw [length_laidM]; unfold ConfV.cells; omega) hL (laid_1 hc closed L)

/-- One step. -/
def qNext (c : ConfV) (s : QuS) (M : List Int) : QuS × List Int :=
  match s.nx with
  | .come => (if c.wa ≤ ((mQ M).length : Int) ∨ s.w ∈ mQ M then { s with line := mQ M, e := 7, nx := .done } else { s with line := mQ M, nx := .push }, M)
  | .push => if mQ M = s.line then ({ s with nx := .closed }, M.set 1 (wd (s.line ++ [s.w]) : Int)) else ({ s with nx := .come }, M)
  | .closed => (if loadV M 0 = 0 then { s with e := 0, nx := .done } else { s with why := 5, nx := .look }, M)
  | .look => (if s.w ∈ mQ M then { s with line := mQ M, nx := .drop } else { s with line := mQ M, e := 8, nx := .done }, M)
  | .drop => if mQ M = s.line then ({ s with e := s.why, nx := .done }, M.set 1 (wd (rm s.line s.w) : Int)) else ({ s with nx := .look }, M)
  | .head => (if mQ M = [] then { s with line := mQ M, e := 0, nx := .done } else { s with line := mQ M, first := headI (mQ M), nx := .pop }, M)
  | .pop => if mQ M = s.line then ({ s with nx := .tell }, M.set 1 (wd s.line.tail : Int)) else ({ s with nx := .head }, M)
  | .tell => ({ s with nx := .head }, storeL M (3 + c.wo + s.first) (-1))
  | .done => (s, M)
/-- How often it touches the memory. -/
def qT (s : QuS) : Int := match s.nx with
  | .done => 0
  | _ => 1
/-- What a Queue may rest on. -/
def QuS.ok (c : ConfV) (s : QuS) : Prop := Ln s.line ∧ (s.nx = .push → Ln (s.line ++ [s.w])) ∧ (s.nx = .drop → s.w ∈ s.line) ∧ (s.nx = .tell → 0 ≤ s.first ∧ s.first < c.wo)

theorem qs_push_not (w : World) (p pm qm : Nat) (c : ConfV) (s : QuS) (M : List Int) (t : Int) (h : QuAt w p c s) (hM : MemAt 83 w pm qm M t) (ht0 : 0 ≤ t) (ht1 : t ≤ 1000000) (hp : p ≠ pm ∧ p ≠ qm) (hL : Ln s.line) (hn : s.nx = .push) (hok : Ln (s.line ++ [s.w])) (hcs : casB M 1 (wd s.line) = false) :
    Calls Try.prog 13 #[.pointer (some ⟨p, 0, none⟩), .pointer (some ⟨pm, 0, none⟩)] w
      (QStep w p pm qm c { s with nx := .come } M (t + tch M 1)) := by
  have hC := qpush_any w p pm qm c s M t h hM ht0 ht1 hp hL
  have hne : ¬ (Ln (s.line ++ [s.w]) ∧ casB M 1 (wd s.line) = true) := fun e => by rw [hcs] at e; cases e.2
  rw [if_neg hne, if_neg hne, if_pos hok, if_pos hok, show casL M 1 (wd s.line) (wd (pushL s.line s.w) : Int) = M by unfold casL; rw [if_neg (by rw [hcs]; simp)]] at hC
  exact qstep_any w p pm qm c s _ _ _ _ _ h hp (by rw [hn]; rfl) hC
theorem qs_pop_not (w : World) (p pm qm : Nat) (c : ConfV) (s : QuS) (M : List Int) (t : Int) (h : QuAt w p c s) (hM : MemAt 83 w pm qm M t) (ht0 : 0 ≤ t) (ht1 : t ≤ 1000000) (hp : p ≠ pm ∧ p ≠ qm) (hL : Ln s.line) (hn : s.nx = .pop) (hcs : casB M 1 (wd s.line) = false) :
    Calls Try.prog 13 #[.pointer (some ⟨p, 0, none⟩), .pointer (some ⟨pm, 0, none⟩)] w
      (QStep w p pm qm c { s with nx := .head } M (t + tch M 1)) := by
  have hC := qpop_any w p pm qm c s M t h hM ht0 ht1 hp hL
  rw [if_neg (by rw [hcs]; simp), show casL M 1 (wd s.line) (wd s.line.tail : Int) = M by unfold casL; rw [if_neg (by rw [hcs]; simp)]] at hC
  exact qstep_any w p pm qm c s _ _ _ _ _ h hp (by rw [hn]; rfl) hC

/-- The contract of one step. -/
theorem qstep_fn (w : World) (p pm qm : Nat) (c : ConfV) (s : QuS) (M : List Int) (t : Int) (h : QuAt w p c s) (hM : MemAt 83 w pm qm M t) (ht0 : 0 ≤ t) (ht1 : t ≤ 1000000) (hp : p ≠ pm ∧ p ≠ qm) (hc : c.fits) (hs : s.ok c) (hm : MOk M) (hlen : 3 + 2 * c.wo ≤ (M.length : Int)) :
    Calls Try.prog 13 #[.pointer (some ⟨p, 0, none⟩), .pointer (some ⟨pm, 0, none⟩)] w
      (QStep w p pm qm c (qNext c s M).1 (qNext c s M).2 (t + qT s)) := by
  obtain ⟨hl, hpu, hdr, hte⟩ := hs
  have t1 : tch M 1 = 1 := by unfold tch; rw [if_pos (isIn_yes (by omega) (by have := hm.1; omega))]
  have t0 : tch M 0 = 1 := by unfold tch; rw [if_pos (isIn_yes (by omega) (by have := hm.1; omega))]
  have hcq := casq_iff hm hl
  obtain ⟨sw, sl, sf, nx, why, er⟩ := s
  simp only at hl hpu hdr hte hcq
  cases nx with
  | come =>
    have := qs_come w p pm qm c _ M t (mQ M) h hM ht0 ht1 hp hm.2.1 hm.2.2 rfl
    rw [t1] at this; exact this
  | push =>
    by_cases e : mQ M = sl
    · have := qs_push w p pm qm c _ M t h hM ht0 ht1 hp hl rfl (hpu rfl) (by show casB M 1 (wd sl) = true; rw [hcq]; exact decide_eq_true e)
      have hcs : casB M 1 (wd sl : Int) = true := by rw [hcq]; exact decide_eq_true e
      rw [t1, cell1 hm.1, if_pos hcs] at this
      have e2 : qNext c ⟨sw, sl, sf, .push, why, er⟩ M = (⟨sw, sl, sf, .closed, why, er⟩, M.set 1 (wd (sl ++ [sw]) : Int)) := by unfold qNext; simp only; rw [if_pos e]
      rw [e2]; exact this
    · have hcs : casB M 1 (wd sl : Int) = false := by rw [hcq]; exact decide_eq_false e
      have := qs_push_not w p pm qm c _ M t h hM ht0 ht1 hp hl rfl (hpu rfl) hcs
      rw [t1] at this
      have e2 : qNext c ⟨sw, sl, sf, .push, why, er⟩ M = (⟨sw, sl, sf, .come, why, er⟩, M) := by unfold qNext; simp only; rw [if_neg e]
      rw [e2]; exact this
  | closed =>
    by_cases e : loadV M 0 = 0
    · have := qs_open w p pm qm c _ M t h hM ht0 ht1 hp rfl e
      rw [t0] at this
      have e2 : qNext c ⟨sw, sl, sf, .closed, why, er⟩ M = (⟨sw, sl, sf, .done, why, 0⟩, M) := by unfold qNext; simp only; rw [if_pos e]
      rw [e2]; exact this
    · have := qs_closed w p pm qm c _ M t h hM ht0 ht1 hp rfl e
      rw [t0] at this
      have e2 : qNext c ⟨sw, sl, sf, .closed, why, er⟩ M = (⟨sw, sl, sf, .look, 5, er⟩, M) := by unfold qNext; simp only; rw [if_neg e]
      rw [e2]; exact this
  | look =>
    have := qs_look w p pm qm c _ M t (mQ M) h hM ht0 ht1 hp hm.2.1 hm.2.2 rfl
    rw [t1] at this; exact this
  | drop =>
    by_cases e : mQ M = sl
    · have hcs : casB M 1 (wd sl : Int) = true := by rw [hcq]; exact decide_eq_true e
      have := qs_drop w p pm qm c _ M t h hM ht0 ht1 hp hl rfl (hdr rfl) hcs
      rw [t1, cell1 hm.1, if_pos hcs] at this
      have e2 : qNext c ⟨sw, sl, sf, .drop, why, er⟩ M = (⟨sw, sl, sf, .done, why, why⟩, M.set 1 (wd (rm sl sw) : Int)) := by unfold qNext; simp only; rw [if_pos e]
      rw [e2]; exact this
    · have hcs : casB M 1 (wd sl : Int) = false := by rw [hcq]; exact decide_eq_false e
      have := qs_drop_not w p pm qm c _ M t h hM ht0 ht1 hp hl rfl (hdr rfl) hcs
      rw [t1] at this
      have e2 : qNext c ⟨sw, sl, sf, .drop, why, er⟩ M = (⟨sw, sl, sf, .look, why, er⟩, M) := by unfold qNext; simp only; rw [if_neg e]
      rw [e2]; exact this
  | head =>
    have := qs_head w p pm qm c _ M t (mQ M) h hM ht0 ht1 hp hm.2.1 hm.2.2 rfl
    rw [t1] at this; exact this
  | pop =>
    by_cases e : mQ M = sl
    · have hcs : casB M 1 (wd sl : Int) = true := by rw [hcq]; exact decide_eq_true e
      have := qs_pop w p pm qm c _ M t h hM ht0 ht1 hp hl rfl hcs
      rw [t1, cell1 hm.1, if_pos hcs] at this
      have e2 : qNext c ⟨sw, sl, sf, .pop, why, er⟩ M = (⟨sw, sl, sf, .tell, why, er⟩, M.set 1 (wd sl.tail : Int)) := by unfold qNext; simp only; rw [if_pos e]
      rw [e2]; exact this
    · have hcs : casB M 1 (wd sl : Int) = false := by rw [hcq]; exact decide_eq_false e
      have := qs_pop_not w p pm qm c _ M t h hM ht0 ht1 hp hl rfl hcs
      rw [t1] at this
      have e2 : qNext c ⟨sw, sl, sf, .pop, why, er⟩ M = (⟨sw, sl, sf, .head, why, er⟩, M) := by unfold qNext; simp only; rw [if_neg e]
      rw [e2]; exact this
  | tell =>
    obtain ⟨f0, f1⟩ := hte rfl
    have := qs_tell w p pm qm c _ M t h hM ht0 ht1 hp hc f0 f1 rfl
    have tt : tch M (3 + c.wo + sf) = 1 := by unfold tch; rw [if_pos (isIn_yes (by have := hc.1; omega) (by have := hc.1; omega))]
    rw [show tch M (3 + c.wo + (QuS.mk sw sl sf .tell why er).first) = 1 from tt] at this
    exact this
  | done =>
    refine (qstep_done w p pm c _ h rfl).mono fun en w' ⟨he, hw⟩ => ?_
    subst hw
    exact ⟨he, h, by show MemAt _ _ _ _ _ (t + 0); rw [Int.add_zero]; exact hM, Fr.refl _ _⟩

end Go.Proofs.Ytdpefnebghljoaa
