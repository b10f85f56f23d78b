/- The document's Queue (coachhouseref21): what it holds; who comes, who leaves, who drains; its end. -/
import Derived.Test.YtdpefnebghljoaaQuR
import Derived.Test.YtdpefnebghljoaaRef02Q
namespace Go.Proofs.Ytdpefnebghljoaa
open Go.RowKit

/-- A state's name in the chapter. -/
def QSt.str : QSt → ByteArray
  | .come => ⟨#[67, 79, 77, 69]⟩
  | .push => ⟨#[80, 85, 83, 72]⟩
  | .closed => ⟨#[67, 76, 79, 83, 69, 68]⟩
  | .look => ⟨#[76, 79, 79, 75]⟩
  | .drop => ⟨#[68, 82, 79, 80]⟩
  | .head => ⟨#[70, 73, 82, 83, 84]⟩
  | .pop => ⟨#[80, 79, 80]⟩
  | .tell => ⟨#[84, 69, 76, 76]⟩
  | .done => ⟨#[68, 79, 78, 69]⟩
def RqAt (w : World) (p : Nat) (c : ConfV) (s : QuS) : Prop :=
  w.heap[p]? = some (.cells #[.int .i64 c.wo, .int .i64 c.sl, .int .i64 c.st, .int .i64 c.wa, .int .i64 c.us, .int .i64 s.w, .int .i64 (wd s.line : Int), .int .i64 s.why, .string s.nx.str, .int .i64 s.e] 67)
theorem RqAt.fr {w w' : World} {p : Nat} {c : ConfV} {s : QuS} (h : RqAt w p c s) {S : List Nat} (f : Fr S w w') (hp : p ∉ S) : RqAt w' p c s := f.at h hp
theorem RqAt.setLine {w : World} {p : Nat} {c : ConfV} {s : QuS} (h : RqAt w p c s) (L : List Int) : RqAt (w.setCell ⟨p, 6, none⟩ (.int .i64 (wd L : Int))) p c { s with line := L } := by
  have hb := heap_setCell_same (i := 6) h (.int .i64 (wd L : Int))
  simp only [List.setIfInBounds_toArray, List.set_cons_zero, List.set_cons_succ] at hb
  exact hb
theorem RqAt.setNx {w : World} {p : Nat} {c : ConfV} {s : QuS} (h : RqAt w p c s) (n : QSt) : RqAt (w.setCell ⟨p, 8, none⟩ (.string n.str)) p c { s with nx := n } := by
  have hb := heap_setCell_same (i := 8) h (.string n.str)
  simp only [List.setIfInBounds_toArray, List.set_cons_zero, List.set_cons_succ] at hb
  exact hb
theorem RqAt.setE {w : World} {p : Nat} {c : ConfV} {s : QuS} (h : RqAt w p c s) (e : Int) : RqAt (w.setCell ⟨p, 9, none⟩ (.int .i64 e)) p c { s with e := e } := by
  have hb := heap_setCell_same (i := 9) h (.int .i64 e)
  simp only [List.setIfInBounds_toArray, List.set_cons_zero, List.set_cons_succ] at hb
  exact hb
def RNew (w : World) (c : ConfV) (s : QuS) (en : Ending) (w' : World) : Prop := ∃ p, en = .returned (.pointer (some ⟨p, 0, none⟩)) ∧ w.heap.size ≤ p ∧ RqAt w' p c s ∧ Fr [] w w'

set_option maxHeartbeats 4000000 in
set_option maxRecDepth 100000 in
theorem renter_any (w : World) (c : ConfV) (who : Int) : Calls Try.prog 27 #[c.val, .int .i64 who] w (RNew w c ⟨who, [], 0, .come, 5, 0⟩) := by
  obtain ⟨wo, sl, st, wa, us⟩ := c
  unfold ConfV.val
  go_enter Try.func27, Try.ntmps27
  go_wp2
  go_ret
  exact ⟨_, rfl, by omega, heap_new_atq (by simp), ((Fr.refl [] w).alloc _).alloc _⟩
set_option maxHeartbeats 4000000 in
set_option maxRecDepth 100000 in
theorem rleave_any (w : World) (c : ConfV) (who : Int) : Calls Try.prog 28 #[c.val, .int .i64 who] w (RNew w c ⟨who, [], 0, .look, 4, 0⟩) := by
  obtain ⟨wo, sl, st, wa, us⟩ := c
  unfold ConfV.val
  go_enter Try.func28, Try.ntmps28
  go_wp2
  go_ret
  exact ⟨_, rfl, by omega, heap_new_atq (by simp), ((Fr.refl [] w).alloc _).alloc _⟩
set_option maxHeartbeats 4000000 in
set_option maxRecDepth 100000 in
theorem rdrain_any (w : World) (c : ConfV) : Calls Try.prog 29 #[c.val] w (RNew w c ⟨0, [], 0, .head, 0, 0⟩) := by
  obtain ⟨wo, sl, st, wa, us⟩ := c
  unfold ConfV.val
  go_enter Try.func29, Try.ntmps29
  go_wp2
  go_ret
  exact ⟨_, rfl, by omega, heap_new_atq (by simp), ((Fr.refl [] w).alloc _).alloc _⟩
set_option maxHeartbeats 4000000 in
set_option maxRecDepth 100000 in
theorem rend_any (w : World) (p : Nat) (c : ConfV) (s : QuS) (e : Int) (h : RqAt w p c s) :
    Calls Try.prog 44 #[.pointer (some ⟨p, 0, none⟩), .int .i64 e] w fun en w' => en = .returned (.tuple #[]) ∧ RqAt w' p c { s with e := e, nx := .done } ∧ Fr [p] w w' := by
  have q8 := cell_of (i := 8) h rfl
  have z8 := frozen_of (i := 8) h
  have q9 := cell_of (i := 9) h rfl
  have z9 := frozen_of (i := 9) h
  have h2 := (h.setNx .done).setE e
  have HB := Lib.hid h2
  have HF := Lib.hid (((Fr.refl [p] w).setCell (p := ⟨p, 8, none⟩) (.inl (by simp)) (.string QSt.done.str)).setCell (p := ⟨p, 9, none⟩) (.inl (by simp)) (.int .i64 e))
  clear h h2
  go_enter Try.func44, Try.ntmps44
  go_wp2
  go_end0
  exact ⟨rfl, HB.out, HF.out⟩

/-- One step of the document's. -/
def rNext (c : ConfV) (s : QuS) (M : List Int) : QuS × List Int :=
  match s.nx with
  | .come => (if c.wa ≤ ((mQ M).length : Int) ∨ s.w ∈ mQ M then { s with line := mQ M, e := 7, nx := .done } else { s with line := mQ M, nx := .push }, M)
  | .push => if mQ M = s.line then ({ s with nx := .closed }, M.set 1 (wd (s.line ++ [s.w]) : Int)) else ({ s with nx := .come }, M)
  | .closed => (if loadV M 0 = 0 then { s with e := 0, nx := .done } else { s with nx := .look }, M)
  | .look => (if s.w ∈ mQ M then { s with line := mQ M, nx := .drop } else { s with line := mQ M, e := 8, nx := .done }, M)
  | .drop => if mQ M = s.line then ({ s with e := s.why, nx := .done }, M.set 1 (wd (rm s.line s.w) : Int)) else ({ s with nx := .look }, M)
  | .head => (if mQ M = [] then { s with line := mQ M, e := 0, nx := .done } else { s with line := mQ M, nx := .pop }, M)
  | .pop => if mQ M = s.line then ({ s with nx := .tell }, M.set 1 (wd s.line.tail : Int)) else ({ s with nx := .head }, M)
  | .tell => ({ s with nx := .head }, storeL M (3 + c.wo + headI s.line) (-1))
  | .done => (s, M)
def QSt.isDone : QSt → Bool
  | .done => true
  | _ => false
def RStep (w : World) (p pm qm : Nat) (c : ConfV) (s' : QuS) (M' : List Int) (t' : Int) (en : Ending) (w' : World) : Prop :=
  en = .returned (.bool s'.nx.isDone) ∧ RqAt w' p c s' ∧ MemAt 60 w' pm qm M' t' ∧ Fr [p, pm, qm] w w'


end Go.Proofs.Ytdpefnebghljoaa
