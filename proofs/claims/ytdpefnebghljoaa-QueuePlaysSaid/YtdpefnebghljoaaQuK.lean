/- The queue of workers: what is known behind so many steps, if nobody else stores. -/
import Derived.Test.YtdpefnebghljoaaQuJ
namespace Go.Proofs.Ytdpefnebghljoaa
open Go.RowKit

def QStepT (w : World) (p pm qm : Nat) (c : ConfV) (s' : QuS) (M' : List Int) (t : Int) (en : Ending) (w' : World) : Prop := ∃ t', (t ≤ t' ∧ t' ≤ t + 1) ∧ QStep w p pm qm c s' M' t' en w'
theorem casq_yes {M : List Int} {o n : Int} (hl : 2 ≤ M.length) (h : loadV M 1 = o) : casB M 1 o = true ∧ casL M 1 o n = M.set 1 n := by
  have hin : isIn M 1 = true := isIn_yes (by omega) (by omega)
  have h1 : casB M 1 o = true := by
    unfold casB
    unfold loadV at h
    rw [if_pos hin] at h
    rw [hin, Bool.true_and]
    exact decide_eq_true h
  exact ⟨h1, by unfold casL; rw [if_pos h1]; rfl⟩
theorem loadq_set {M : List Int} {n : Int} (hl : 2 ≤ M.length) : loadV (M.set 1 n) 1 = n := by
  have hin : isIn (M.set 1 n) 1 = true := isIn_yes (by omega) (by rw [List.length_set]; omega)
  unfold loadV
  rw [if_pos hin]
  show (M.set 1 n).getD 1 0 = n
  rw [List.getD_eq_getElem?_getD, List.getElem?_set_self (by omega)]
  rfl
theorem loadq_set0 {M : List Int} {n : Int} (hl : 2 ≤ M.length) : loadV (M.set 1 n) 0 = loadV M 0 := by
  have hin : isIn M 0 = true := isIn_yes (by omega) (by omega)
  have hin2 : isIn (M.set 1 n) 0 = true := isIn_yes (by omega) (by rw [List.length_set]; omega)
  unfold loadV
  rw [if_pos hin, if_pos hin2]
  show (M.set 1 n).getD 0 0 = M.getD 0 0
  rw [List.getD_eq_getElem?_getD, List.getElem?_set_ne (by omega), List.getD_eq_getElem?_getD]

/-- One that leaves, behind j steps: Q the line, with it in it. -/
def leaveS (k : Int) (Q : List Int) (j : Nat) : QuS := if j = 0 then ⟨k, [], 0, .look, 4, 0⟩ else if j = 1 then ⟨k, Q, 0, .drop, 4, 0⟩ else ⟨k, Q, 0, .done, 4, 4⟩
def leaveM (k : Int) (Q M : List Int) (j : Nat) : List Int := if j < 2 then M else M.set 1 (wd (rm Q k) : Int)
theorem leave_step (w : World) (p pm qm : Nat) (c : ConfV) (k : Int) (Q M : List Int) (j : Nat) (t : Int) (h : QuAt w p c (leaveS k Q j)) (hM : MemAt 83 w pm qm (leaveM k Q M j) t) (ht0 : 0 ≤ t) (ht1 : t ≤ 1000000) (hp : p ≠ pm ∧ p ≠ qm) (hQ : Ln Q) (hl : loadV M 1 = (wd Q : Int)) (hm : 2 ≤ M.length) (hk : k ∈ Q) :
    Calls Try.prog 13 #[.pointer (some ⟨p, 0, none⟩), .pointer (some ⟨pm, 0, none⟩)] w (QStepT w p pm qm c (leaveS k Q (j + 1)) (leaveM k Q M (j + 1)) t) := by
  match j, h, hM with
  | 0, h, hM =>
    have hS := qs_look w p pm qm c _ _ t Q h hM ht0 ht1 hp hQ hl rfl
    have ht := tch_0 M 1
    rw [show leaveM k Q M 0 = M from rfl, show (leaveS k Q 0).w = k from rfl, if_pos hk] at hS
    exact hS.mono fun e w' hq => ⟨_, ⟨by omega, by omega⟩, hq⟩
  | 1, h, hM =>
    have hc := casq_yes (n := (wd (rm Q k) : Int)) hm hl
    have hS := qs_drop w p pm qm c _ _ t h hM ht0 ht1 hp hQ rfl hk hc.1
    have ht := tch_0 M 1
    rw [show casL (leaveM k Q M 1) 1 (wd (leaveS k Q 1).line : Int) (wd (rm (leaveS k Q 1).line (leaveS k Q 1).w) : Int) = M.set 1 (wd (rm Q k) : Int) from hc.2] at hS
    exact hS.mono fun e w' hq => ⟨_, ⟨by show t ≤ t + tch M 1; omega, by show t + tch M 1 ≤ t + 1; omega⟩, hq⟩
  | j + 2, h, hM =>
    refine (qstep_done w p pm c _ h rfl).mono fun e w' ⟨he, hw⟩ => ?_
    subst hw
    exact ⟨t, ⟨by omega, by omega⟩, he, h, hM, Fr.refl _ _⟩

/-- One that comes into a line with room, behind j steps. -/
def comeS (k : Int) (Q : List Int) (j : Nat) : QuS := if j = 0 then ⟨k, [], 0, .come, 0, 0⟩ else if j = 1 then ⟨k, Q, 0, .push, 0, 0⟩ else if j = 2 then ⟨k, Q, 0, .closed, 0, 0⟩ else ⟨k, Q, 0, .done, 0, 0⟩
def comeM (k : Int) (Q M : List Int) (j : Nat) : List Int := if j < 2 then M else M.set 1 (wd (Q ++ [k]) : Int)
theorem come_step (w : World) (p pm qm : Nat) (c : ConfV) (k : Int) (Q M : List Int) (j : Nat) (t : Int) (h : QuAt w p c (comeS k Q j)) (hM : MemAt 83 w pm qm (comeM k Q M j) t) (ht0 : 0 ≤ t) (ht1 : t ≤ 1000000) (hp : p ≠ pm ∧ p ≠ qm) (hQ : Ln Q) (hl : loadV M 1 = (wd Q : Int)) (hm : 2 ≤ M.length) (hk : k ∉ Q) (hroom : (Q.length : Int) < c.wa) (hok : Ln (Q ++ [k])) (h0 : loadV M 0 = 0) :
    Calls Try.prog 13 #[.pointer (some ⟨p, 0, none⟩), .pointer (some ⟨pm, 0, none⟩)] w (QStepT w p pm qm c (comeS k Q (j + 1)) (comeM k Q M (j + 1)) t) := by
  match j, h, hM with
  | 0, h, hM =>
    have hS := qs_come w p pm qm c _ _ t Q h hM ht0 ht1 hp hQ hl rfl
    have ht := tch_0 M 1
    have hno : ¬ (c.wa ≤ (Q.length : Int) ∨ (comeS k Q 0).w ∈ Q) := fun e => e.elim (fun e => by omega) hk
    rw [show comeM k Q M 0 = M from rfl, if_neg hno] at hS
    exact hS.mono fun e w' hq => ⟨_, ⟨by omega, by omega⟩, hq⟩
  | 1, h, hM =>
    have hc := casq_yes (n := (wd (Q ++ [k]) : Int)) hm hl
    have hS := qs_push w p pm qm c _ _ t h hM ht0 ht1 hp hQ rfl hok hc.1
    have ht := tch_0 M 1
    rw [show casL (comeM k Q M 1) 1 (wd (comeS k Q 1).line : Int) (wd ((comeS k Q 1).line ++ [(comeS k Q 1).w]) : Int) = M.set 1 (wd (Q ++ [k]) : Int) from hc.2] at hS
    exact hS.mono fun e w' hq => ⟨_, ⟨by show t ≤ t + tch M 1; omega, by show t + tch M 1 ≤ t + 1; omega⟩, hq⟩
  | 2, h, hM =>
    have hS := qs_open w p pm qm c _ _ t h hM ht0 ht1 hp rfl (by show loadV (M.set 1 _) 0 = 0; rw [loadq_set0 hm]; exact h0)
    have ht := tch_0 (comeM k Q M 2) 0
    exact hS.mono fun e w' hq => ⟨_, ⟨by omega, by omega⟩, hq⟩
  | j + 3, h, hM =>
    refine (qstep_done w p pm c _ h rfl).mono fun e w' ⟨he, hw⟩ => ?_
    subst hw
    exact ⟨t, ⟨by omega, by omega⟩, he, h, hM, Fr.refl _ _⟩
/-- One that waits already, or finds no room, behind j steps. -/
def againS (k : Int) (Q : List Int) (j : Nat) : QuS := if j = 0 then ⟨k, [], 0, .come, 0, 0⟩ else ⟨k, Q, 0, .done, 0, 7⟩
theorem again_step (w : World) (p pm qm : Nat) (c : ConfV) (k : Int) (Q M : List Int) (j : Nat) (t : Int) (h : QuAt w p c (againS k Q j)) (hM : MemAt 83 w pm qm M t) (ht0 : 0 ≤ t) (ht1 : t ≤ 1000000) (hp : p ≠ pm ∧ p ≠ qm) (hQ : Ln Q) (hl : loadV M 1 = (wd Q : Int)) (hk : c.wa ≤ (Q.length : Int) ∨ k ∈ Q) :
    Calls Try.prog 13 #[.pointer (some ⟨p, 0, none⟩), .pointer (some ⟨pm, 0, none⟩)] w (QStepT w p pm qm c (againS k Q (j + 1)) M t) := by
  match j, h with
  | 0, h =>
    have hS := qs_come w p pm qm c _ _ t Q h hM ht0 ht1 hp hQ hl rfl
    have ht := tch_0 M 1
    rw [if_pos (show c.wa ≤ (Q.length : Int) ∨ (againS k Q 0).w ∈ Q from hk)] at hS
    exact hS.mono fun e w' hq => ⟨_, ⟨by omega, by omega⟩, hq⟩
  | j + 1, h =>
    refine (qstep_done w p pm c _ h rfl).mono fun e w' ⟨he, hw⟩ => ?_
    subst hw
    exact ⟨t, ⟨by omega, by omega⟩, he, h, hM, Fr.refl _ _⟩

end Go.Proofs.Ytdpefnebghljoaa
