/- The queue of workers: more of its steps. -/
import Derived.Test.YtdpefnebghljoaaQuH
namespace Go.Proofs.Ytdpefnebghljoaa
open Go.RowKit

theorem qs_look (w : World) (p pm qm : Nat) (c : ConfV) (s : QuS) (M : List Int) (t : Int) (Q : List Int) (h : QuAt w p c s) (hM : MemAt 83 w pm qm M t) (ht0 : 0 ≤ t) (ht1 : t ≤ 1000000) (hp : p ≠ pm ∧ p ≠ qm) (hQ : Ln Q) (hl : loadV M 1 = (wd Q : Int)) (hn : s.nx = .look) :
    Calls Try.prog 13 #[.pointer (some ⟨p, 0, none⟩), .pointer (some ⟨pm, 0, none⟩)] w
      (QStep w p pm qm c (if s.w ∈ Q then { s with line := Q, nx := .drop } else { s with line := Q, e := 8, nx := .done }) M (t + tch M 1)) := by
  have hC := look_any w p pm qm c s M t Q h hM ht0 ht1 hp hQ hl
  have := qstep_any w p pm qm c s _ _ M _ _ h hp (by rw [hn]; rfl) hC
  by_cases hf : s.w ∈ Q
  · rw [if_pos hf] at this ⊢; rw [if_pos hf] at this; exact this
  · rw [if_neg hf] at this ⊢; rw [if_neg hf] at this; exact this
theorem qs_drop (w : World) (p pm qm : Nat) (c : ConfV) (s : QuS) (M : List Int) (t : Int) (h : QuAt w p c s) (hM : MemAt 83 w pm qm M t) (ht0 : 0 ≤ t) (ht1 : t ≤ 1000000) (hp : p ≠ pm ∧ p ≠ qm) (hL : Ln s.line) (hn : s.nx = .drop) (hok : s.w ∈ s.line) (hcs : casB M 1 (wd s.line) = true) :
    Calls Try.prog 13 #[.pointer (some ⟨p, 0, none⟩), .pointer (some ⟨pm, 0, none⟩)] w
      (QStep w p pm qm c { s with e := s.why, nx := .done } (casL M 1 (wd s.line) (wd (rm s.line s.w) : Int)) (t + tch M 1)) := by
  have hC := qdrop_any w p pm qm c s M t h hM ht0 ht1 hp hL
  rw [if_pos ⟨hok, hcs⟩, if_pos ⟨hok, hcs⟩, if_pos hok, if_pos hok] at hC
  exact qstep_any w p pm qm c s _ _ _ _ _ h hp (by rw [hn]; rfl) hC
/-- Somebody else's line stands there: it looks again. -/
theorem qs_drop_not (w : World) (p pm qm : Nat) (c : ConfV) (s : QuS) (M : List Int) (t : Int) (h : QuAt w p c s) (hM : MemAt 83 w pm qm M t) (ht0 : 0 ≤ t) (ht1 : t ≤ 1000000) (hp : p ≠ pm ∧ p ≠ qm) (hL : Ln s.line) (hn : s.nx = .drop) (hok : s.w ∈ s.line) (hcs : casB M 1 (wd s.line) = false) :
    Calls Try.prog 13 #[.pointer (some ⟨p, 0, none⟩), .pointer (some ⟨pm, 0, none⟩)] w
      (QStep w p pm qm c { s with nx := .look } M (t + tch M 1)) := by
  have hC := qdrop_any w p pm qm c s M t h hM ht0 ht1 hp hL
  have hne : ¬ (s.w ∈ s.line ∧ casB M 1 (wd s.line) = true) := fun e => by rw [hcs] at e; cases e.2
  rw [if_neg hne, if_neg hne, if_pos hok, if_pos hok, show casL M 1 (wd s.line) (wd (rm s.line s.w) : Int) = M by unfold casL; rw [if_neg (by rw [hcs]; simp)]] at hC
  exact qstep_any w p pm qm c s _ _ _ _ _ h hp (by rw [hn]; rfl) hC
theorem qs_closed (w : World) (p pm qm : Nat) (c : ConfV) (s : QuS) (M : List Int) (t : Int) (h : QuAt w p c s) (hM : MemAt 83 w pm qm M t) (ht0 : 0 ≤ t) (ht1 : t ≤ 1000000) (hp : p ≠ pm ∧ p ≠ qm) (hn : s.nx = .closed) (h0 : loadV M 0 ≠ 0) :
    Calls Try.prog 13 #[.pointer (some ⟨p, 0, none⟩), .pointer (some ⟨pm, 0, none⟩)] w
      (QStep w p pm qm c { s with why := 5, nx := .look } M (t + tch M 0)) := by
  have hC := qclosed_any w p pm qm c s M t h hM ht0 ht1 hp
  rw [if_neg h0, if_neg h0] at hC
  exact qstep_any w p pm qm c s _ _ _ _ _ h hp (by rw [hn]; rfl) hC
theorem qs_head (w : World) (p pm qm : Nat) (c : ConfV) (s : QuS) (M : List Int) (t : Int) (Q : List Int) (h : QuAt w p c s) (hM : MemAt 83 w pm qm M t) (ht0 : 0 ≤ t) (ht1 : t ≤ 1000000) (hp : p ≠ pm ∧ p ≠ qm) (hQ : Ln Q) (hl : loadV M 1 = (wd Q : Int)) (hn : s.nx = .head) :
    Calls Try.prog 13 #[.pointer (some ⟨p, 0, none⟩), .pointer (some ⟨pm, 0, none⟩)] w
      (QStep w p pm qm c (if Q = [] then { s with line := Q, e := 0, nx := .done } else { s with line := Q, first := headI Q, nx := .pop }) M (t + tch M 1)) := by
  have hC := qhead_any w p pm qm c s M t Q h hM ht0 ht1 hp hQ hl
  have := qstep_any w p pm qm c s _ _ M _ _ h hp (by rw [hn]; rfl) hC
  by_cases hf : Q = []
  · rw [if_pos hf] at this ⊢; rw [if_pos hf] at this; exact this
  · rw [if_neg hf] at this ⊢; rw [if_neg hf] at this; exact this
theorem qs_pop (w : World) (p pm qm : Nat) (c : ConfV) (s : QuS) (M : List Int) (t : Int) (h : QuAt w p c s) (hM : MemAt 83 w pm qm M t) (ht0 : 0 ≤ t) (ht1 : t ≤ 1000000) (hp : p ≠ pm ∧ p ≠ qm) (hL : Ln s.line) (hn : s.nx = .pop) (hcs : casB M 1 (wd s.line) = true) :
    Calls Try.prog 13 #[.pointer (some ⟨p, 0, none⟩), .pointer (some ⟨pm, 0, none⟩)] w
      (QStep w p pm qm c { s with nx := .tell } (casL M 1 (wd s.line) (wd s.line.tail : Int)) (t + tch M 1)) := by
  have hC := qpop_any w p pm qm c s M t h hM ht0 ht1 hp hL
  rw [if_pos hcs] at hC
  exact qstep_any w p pm qm c s _ _ _ _ _ h hp (by rw [hn]; rfl) hC

end Go.Proofs.Ytdpefnebghljoaa
