/- The queue of workers (queue.Queue): what it holds; its end; the loads and swaps of one step. -/
import Derived.Test.YtdpefnebghljoaaLineSQ
import Derived.Test.YtdpefnebghljoaaTwCQ
import Derived.Deep.RegionHeld3
namespace Go.Proofs.Ytdpefnebghljoaa
open Go.RowKit

/-- Which state is next. -/
inductive QSt where
  | come | push | closed | look | drop | head | pop | tell | done
def QSt.val (p : Nat) : QSt → Value
  | .come => .func (.func 34) #[.pointer (some ⟨p, 0, none⟩)] #[]
  | .push => .func (.func 54) #[.pointer (some ⟨p, 0, none⟩)] #[]
  | .closed => .func (.func 64) #[.pointer (some ⟨p, 0, none⟩)] #[]
  | .look => .func (.func 38) #[.pointer (some ⟨p, 0, none⟩)] #[]
  | .drop => .func (.func 55) #[.pointer (some ⟨p, 0, none⟩)] #[]
  | .head => .func (.func 41) #[.pointer (some ⟨p, 0, none⟩)] #[]
  | .pop => .func (.func 57) #[.pointer (some ⟨p, 0, none⟩)] #[]
  | .tell => .func (.func 67) #[.pointer (some ⟨p, 0, none⟩)] #[]
  | .done => .nilFunc
/-- What a Queue knows: the worker, the line's word that was loaded, the first one, what is next, what it leaves for, its answer. -/
structure QuS where
  w : Int
  line : List Int
  first : Int
  nx : QSt
  why : Int
  e : Int
def QuAt (w : World) (p : Nat) (c : ConfV) (s : QuS) : Prop :=
  w.heap[p]? = some (.cells #[.int .i64 c.wo, .int .i64 c.sl, .int .i64 c.st, .int .i64 c.wa, .int .i64 c.us, .int .i64 s.w, .int .i64 (wd s.line : Int), .int .i64 s.first, s.nx.val p, .int .i64 s.why, .int .i64 s.e] 75)

set_option maxHeartbeats 400000 in
theorem qend_any (w : World) (p : Nat) (c : ConfV) (s : QuS) (e : Int) (h : QuAt w p c s) :
    Calls Try.prog 53 #[.pointer (some ⟨p, 0, none⟩), .int .i64 e] w fun en w' => en = .returned .nilFunc ∧ QuAt w' p c { s with e := e } ∧ Fr [p] w w' := by
  have q10 : w.cell? ⟨p, 10, none⟩ = some (.int .i64 s.e) := cell_of h rfl
  have f10 := frozen_of (i := 10) h
  have hb := heap_setCell_same (i := 10) h (.int .i64 e)
  simp only [List.setIfInBounds_toArray, List.set_cons_zero, List.set_cons_succ] at hb
  have HB := Lib.hid (show QuAt (w.setCell ⟨p, 10, none⟩ (.int .i64 e)) p c { s with e := e } from hb)
  have HF := Lib.hid ((Fr.refl [p] w).setCell (p := ⟨p, 10, none⟩) (.inl (by simp)) (.int .i64 e))
  clear h hb
  go_enter Try.func53, Try.ntmps53
  go_wp2
  go_ret
  exact ⟨rfl, HB.out, HF.out⟩

/-- What a state leaves: which one is next; the Queue (its 'next' as it was); the memory. -/
def QPost (w : World) (p pm qm : Nat) (c : ConfV) (s' : QuS) (nx : QSt) (M' : List Int) (t' : Int) (en : Ending) (w' : World) : Prop :=
  en = .returned (nx.val p) ∧ QuAt w' p c s' ∧ MemAt 83 w' pm qm M' t' ∧ Fr [p, pm, qm] w w'
theorem QuAt.fr {w w' : World} {p : Nat} {c : ConfV} {s : QuS} (h : QuAt w p c s) {S : List Nat} (f : Fr S w w') (hp : p ∉ S) : QuAt w' p c s := f.at h hp
theorem QuAt.setLine {w : World} {p : Nat} {c : ConfV} {s : QuS} (h : QuAt w p c s) (L : List Int) : QuAt (w.setCell ⟨p, 6, none⟩ (.int .i64 (wd L : Int))) p c { s with line := L } := by
  have hb := heap_setCell_same (i := 6) h (.int .i64 (wd L : Int))
  simp only [List.setIfInBounds_toArray, List.set_cons_zero, List.set_cons_succ] at hb
  exact hb

set_option maxHeartbeats 4000000 in
set_option maxRecDepth 100000 in
theorem look_any (w : World) (p pm qm : Nat) (c : ConfV) (s : QuS) (M : List Int) (t : Int) (Q : List Int) (h : QuAt w p c s) (hM : MemAt 83 w pm qm M t) (ht0 : 0 ≤ t) (ht1 : t ≤ 1000000) (hp : p ≠ pm ∧ p ≠ qm) (hQ : Ln Q) (hl : loadV M 1 = (wd Q : Int)) :
    Calls Try.prog 38 #[.pointer (some ⟨p, 0, none⟩), .pointer (some ⟨pm, 0, none⟩)] w
      (QPost w p pm qm c (if s.w ∈ Q then { s with line := Q } else { s with line := Q, e := 8 }) (if s.w ∈ Q then .drop else .done) M (t + tch M 1)) := by
  by_cases hin : s.w ∈ Q
  · rw [if_pos hin, if_pos hin]
    have HIN := Lib.hid hin
    clear hin
    have hld := load_any w pm qm M t 1 hM ht0 (by omega)
    rw [hl] at hld
    have HLD := Lib.hid hld; have H := Lib.hid h; have HP := Lib.hid hp
    clear hld h hM hl
    go_enter Try.func38, Try.ntmps38
    go_wp2_with fail
    refine HLD.out.mono ?_
    rintro en w1 ⟨rfl, hm1, f1⟩
    have h1 := H.out.fr f1 (by simp; exact HP.out)
    have q6 := cell_of (i := 6) h1 rfl
    have z6 := frozen_of (i := 6) h1
    have h2 := h1.setLine Q
    have HM1 := Lib.hid hm1; have HF1 := Lib.hid f1; have H2 := Lib.hid h2
    have HM2 := Lib.hid (hm1.fr ((Fr.refl [p] w1).setCell (p := ⟨p, 6, none⟩) (.inl (by simp)) (.int .i64 (wd Q : Int))) (by simp; exact Ne.symm HP.out.1) (by simp; exact Ne.symm HP.out.2))
    have HF2 := Lib.hid (((f1.mono (S' := [p, pm, qm]) (by simp +contextual)).setCell (p := ⟨p, 6, none⟩) (.inl (by simp)) (.int .i64 (wd Q : Int))))
    clear h1 hm1 f1 h2
    go_wp2_with fail
    have r6 := cell_of (i := 6) H2.out rfl
    have r5 := cell_of (i := 5) H2.out rfl
    generalize w1.setCell ⟨p, 6, none⟩ (.int .i64 (wd Q : Int)) = w2 at H2 HM2 HF2 r6 r5 ⊢
    have HHAS := Lib.hid (has_L w2.drew Q s.w hQ)
    rw [decide_eq_true HIN.out] at HHAS
    go_region_held3 (fun w' => w'.cell? ⟨p, 6, none⟩ = some (.int .i64 (wd Q : Int)) ∧ w'.cell? ⟨p, 5, none⟩ = some (.int .i64 s.w)) (first | go_keep | exact ⟨f3.cell r6 (by simp), f3.cell r5 (by simp)⟩)
      (first | (go_at_call 52; refine HHAS.out.mono ?_; rintro en w3 ⟨rfl, f3⟩))
    have HE := Lib.hid (show QPost w p pm qm c { s with line := Q } .drop M (t + tch M 1) (.returned (QSt.drop.val p)) w3 from ⟨rfl, H2.out.fr ((Fr.refl [] w2).drew.trans f3) (by simp), HM2.out.fr ((Fr.refl [] w2).drew.trans f3) (by simp) (by simp), HF2.out.trans (((Fr.refl [] w2).drew.trans f3).mono (by simp))⟩)
    go_wp2
    go_ret
    exact HE.out
  · rw [if_neg hin, if_neg hin]
    have HIN := Lib.hid hin
    clear hin
    have hld := load_any w pm qm M t 1 hM ht0 (by omega)
    rw [hl] at hld
    have HLD := Lib.hid hld; have H := Lib.hid h; have HP := Lib.hid hp
    clear hld h hM hl
    go_enter Try.func38, Try.ntmps38
    go_wp2_with fail
    refine HLD.out.mono ?_
    rintro en w1 ⟨rfl, hm1, f1⟩
    have h1 := H.out.fr f1 (by simp; exact HP.out)
    have q6 := cell_of (i := 6) h1 rfl
    have z6 := frozen_of (i := 6) h1
    have h2 := h1.setLine Q
    have HM1 := Lib.hid hm1; have HF1 := Lib.hid f1; have H2 := Lib.hid h2
    have HM2 := Lib.hid (hm1.fr ((Fr.refl [p] w1).setCell (p := ⟨p, 6, none⟩) (.inl (by simp)) (.int .i64 (wd Q : Int))) (by simp; exact Ne.symm HP.out.1) (by simp; exact Ne.symm HP.out.2))
    have HF2 := Lib.hid (((f1.mono (S' := [p, pm, qm]) (by simp +contextual)).setCell (p := ⟨p, 6, none⟩) (.inl (by simp)) (.int .i64 (wd Q : Int))))
    clear h1 hm1 f1 h2
    go_wp2_with fail
    have r6 := cell_of (i := 6) H2.out rfl
    have r5 := cell_of (i := 5) H2.out rfl
    generalize w1.setCell ⟨p, 6, none⟩ (.int .i64 (wd Q : Int)) = w2 at H2 HM2 HF2 r6 r5 ⊢
    have HHAS := Lib.hid (has_L w2.drew Q s.w hQ)
    rw [decide_eq_false HIN.out] at HHAS
    go_region_held3 (fun w' => w'.cell? ⟨p, 6, none⟩ = some (.int .i64 (wd Q : Int)) ∧ w'.cell? ⟨p, 5, none⟩ = some (.int .i64 s.w)) (first | go_keep | exact ⟨f3.cell r6 (by simp), f3.cell r5 (by simp)⟩)
      (first | (go_at_call 52; refine HHAS.out.mono ?_; rintro en w3 ⟨rfl, f3⟩))
    have f23 := (Fr.refl [] w2).drew.trans f3
    have HE3 := Lib.hid (qend_any w3 p c { s with line := Q } 8 (H2.out.fr f23 (by simp)))
    have HM3 := Lib.hid (HM2.out.fr f23 (by simp) (by simp)); have HF3 := Lib.hid (HF2.out.trans (f23.mono (by simp)))
    clear f23 f3
    go_wp2_with fail
    refine HE3.out.mono ?_
    rintro en w4 ⟨rfl, h4, f4⟩
    have HE := Lib.hid (show QPost w p pm qm c { s with line := Q, e := 8 } .done M (t + tch M 1) (.returned .nilFunc) w4 from ⟨rfl, h4, HM3.out.fr f4 (by simp; exact Ne.symm HP.out.1) (by simp; exact Ne.symm HP.out.2), HF3.out.trans (f4.mono (by simp))⟩)
    clear h4 f4
    go_wp2
    go_ret
    exact HE.out

end Go.Proofs.Ytdpefnebghljoaa
