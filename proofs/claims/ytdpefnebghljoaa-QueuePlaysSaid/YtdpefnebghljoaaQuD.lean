/- The queue of workers: a step; who comes, who leaves; the answer. -/
import Derived.Test.YtdpefnebghljoaaQuC
import Derived.Laws.EntriesVeiled
namespace Go.Proofs.Ytdpefnebghljoaa
open Go.RowKit

/-- Which function a state is. -/
def QSt.fn : QSt → Option FuncId
  | .come => some 34
  | .push => some 54
  | .closed => some 64
  | .look => some 38
  | .drop => some 55
  | .head => some 41
  | .pop => some 57
  | .tell => some 67
  | .done => none
theorem QSt.val_fn {n : QSt} {f : FuncId} (h : n.fn = some f) (p : Nat) : n.val p = .func (.func f) #[.pointer (some ⟨p, 0, none⟩)] #[] := by
  cases n <;> first | (injection h with h; subst h; rfl) | cases h
theorem QSt.val_done {n : QSt} (h : n.fn = none) (p : Nat) : n.val p = .nilFunc := by
  cases n <;> first | rfl | cases h
theorem run_neq_func_nil {P : Program} (w : World) {t : TypeId} {ps rs : Array TypeId} {v : Bool} (h : P.underlying t = some (.func ps rs v)) (f : Fn) (a b : Array Value) :
    (binOp .neq t (.func f a b) .nilFunc).run P w = .ok (.bool true) w := by
  have hd : ∀ d : Nat, (Op.equalIn (d + 1) t (.func f a b) .nilFunc).run P w = .ok false w := fun d => by simp [Op.equalIn, run_underlying h]
  simp only [binOp]
  simp [Op.equal, Op.maxDepth, hd 9999]
theorem run_eql_nil_nil {P : Program} (w : World) {t : TypeId} {ps rs : Array TypeId} {v : Bool} (h : P.underlying t = some (.func ps rs v)) :
    (binOp .eql t .nilFunc .nilFunc).run P w = .ok (.bool true) w := by
  have hd : ∀ d : Nat, (Op.equalIn (d + 1) t .nilFunc .nilFunc).run P w = .ok true w := fun d => by simp [Op.equalIn, run_underlying h]
  simp only [binOp]
  simp [Op.equal, Op.maxDepth, hd 9999]
theorem run_neq_nil_nil {P : Program} (w : World) {t : TypeId} {ps rs : Array TypeId} {v : Bool} (h : P.underlying t = some (.func ps rs v)) :
    (binOp .neq t .nilFunc .nilFunc).run P w = .ok (.bool false) w := by
  have hd : ∀ d : Nat, (Op.equalIn (d + 1) t .nilFunc .nilFunc).run P w = .ok true w := fun d => by simp [Op.equalIn, run_underlying h]
  simp only [binOp]
  simp [Op.equal, Op.maxDepth, hd 9999]
/-- What a step leaves. -/
def QStep (w : World) (p pm qm : Nat) (c : ConfV) (s' : QuS) (M' : List Int) (t' : Int) (en : Ending) (w' : World) : Prop :=
  en = .returned (.bool s'.nx.fn.isNone) ∧ QuAt w' p c s' ∧ MemAt 83 w' pm qm M' t' ∧ Fr [p, pm, qm] w w'

set_option maxHeartbeats 4000000 in
set_option maxRecDepth 100000 in
theorem qstep_done (w : World) (p pm : Nat) (c : ConfV) (s : QuS) (h : QuAt w p c s) (hn : s.nx.fn = none) :
    Calls Try.prog 13 #[.pointer (some ⟨p, 0, none⟩), .pointer (some ⟨pm, 0, none⟩)] w fun en w' => en = .returned (.bool true) ∧ w' = w := by
  have q8 : w.cell? ⟨p, 8, none⟩ = some .nilFunc := by
    have := cell_of (i := 8) h rfl
    rw [← QSt.val_done hn p]
    exact this
  clear h
  have e1 := fun (wx : World) => run_neq_nil_nil (P := Try.prog) wx Try.underlying73
  have e2 := fun (wx : World) => run_eql_nil_nil (P := Try.prog) wx Try.underlying73
  go_enter Try.func13, Try.ntmps13
  go_wp2
  go_ret
  exact ⟨rfl, rfl⟩

set_option maxHeartbeats 8000000 in
set_option maxRecDepth 100000 in
theorem qstep_come (w : World) (p pm qm : Nat) (c : ConfV) (s s' : QuS) (nx : QSt) (M' : List Int) (t' : Int) (h : QuAt w p c s) (hp : p ≠ pm ∧ p ≠ qm) (hn : s.nx = .come)
    (hC : Calls Try.prog 34 #[.pointer (some ⟨p, 0, none⟩), .pointer (some ⟨pm, 0, none⟩)] w (QPost w p pm qm c s' nx M' t')) :
    Calls Try.prog 13 #[.pointer (some ⟨p, 0, none⟩), .pointer (some ⟨pm, 0, none⟩)] w (QStep w p pm qm c { s' with nx := nx } M' t') := by
  have q8 : w.cell? ⟨p, 8, none⟩ = some (.func (.func 34) #[.pointer (some ⟨p, 0, none⟩)] #[]) := by
    have := cell_of (i := 8) h rfl
    rw [hn] at this
    exact this
  have HC := Lib.hid hC; have HP := Lib.hid hp
  clear hC h
  have e1 := fun (wx : World) => run_neq_func_nil (P := Try.prog) wx Try.underlying73 (.func 34) #[.pointer (some ⟨p, 0, none⟩)] #[]
  have e2 := fun (wx : World) => run_eql_nil_nil (P := Try.prog) wx Try.underlying73
  have e3 := fun (wx : World) (f' : FuncId) => run_eql_func_nil (P := Try.prog) wx Try.underlying73 (.func f') #[.pointer (some ⟨p, 0, none⟩)] #[]
  go_enter Try.func13, Try.ntmps13
  go_wp2_with fail
  refine HC.out.mono ?_
  rintro en w1 ⟨rfl, h1, hm1, f1⟩
  have r8 := cell_of (i := 8) h1 rfl
  have z8 := frozen_of (i := 8) h1
  have hs := h1.setNx nx
  have HS := Lib.hid hs
  have HM := Lib.hid (hm1.fr ((Fr.refl [p] w1).setCell (p := ⟨p, 8, none⟩) (.inl (by simp)) (nx.val p)) (by simp; exact Ne.symm HP.out.1) (by simp; exact Ne.symm HP.out.2))
  have HF := Lib.hid (f1.setCell (p := ⟨p, 8, none⟩) (.inl (by simp)) (nx.val p))
  have v8 : (w1.setCell ⟨p, 8, none⟩ (nx.val p)).cell? ⟨p, 8, none⟩ = some (nx.val p) := cell_of (i := 8) hs rfl
  clear h1 hm1 f1 hs q8
  cases hf : nx.fn with
  | none =>
    have HQ := Lib.hid (show QStep w p pm qm c { s' with nx := nx } M' t' (.returned (.bool true)) (w1.setCell ⟨p, 8, none⟩ (nx.val p)) from ⟨by show _ = Ending.returned (.bool nx.fn.isNone); rw [hf]; rfl, HS.out, HM.out, HF.out⟩)
    rw [QSt.val_done hf p] at v8 HQ ⊢
    go_wp2
    go_ret
    exact HQ.out
  | some f' =>
    have HQ := Lib.hid (show QStep w p pm qm c { s' with nx := nx } M' t' (.returned (.bool false)) (w1.setCell ⟨p, 8, none⟩ (nx.val p)) from ⟨by show _ = Ending.returned (.bool nx.fn.isNone); rw [hf]; rfl, HS.out, HM.out, HF.out⟩)
    rw [QSt.val_fn hf p] at v8 HQ ⊢
    go_wp2
    go_ret
    exact HQ.out

set_option maxHeartbeats 8000000 in
set_option maxRecDepth 100000 in
theorem qstep_push (w : World) (p pm qm : Nat) (c : ConfV) (s s' : QuS) (nx : QSt) (M' : List Int) (t' : Int) (h : QuAt w p c s) (hp : p ≠ pm ∧ p ≠ qm) (hn : s.nx = .push)
    (hC : Calls Try.prog 54 #[.pointer (some ⟨p, 0, none⟩), .pointer (some ⟨pm, 0, none⟩)] w (QPost w p pm qm c s' nx M' t')) :
    Calls Try.prog 13 #[.pointer (some ⟨p, 0, none⟩), .pointer (some ⟨pm, 0, none⟩)] w (QStep w p pm qm c { s' with nx := nx } M' t') := by
  have q8 : w.cell? ⟨p, 8, none⟩ = some (.func (.func 54) #[.pointer (some ⟨p, 0, none⟩)] #[]) := by
    have := cell_of (i := 8) h rfl
    rw [hn] at this
    exact this
  have HC := Lib.hid hC; have HP := Lib.hid hp
  clear hC h
  have e1 := fun (wx : World) => run_neq_func_nil (P := Try.prog) wx Try.underlying73 (.func 54) #[.pointer (some ⟨p, 0, none⟩)] #[]
  have e2 := fun (wx : World) => run_eql_nil_nil (P := Try.prog) wx Try.underlying73
  have e3 := fun (wx : World) (f' : FuncId) => run_eql_func_nil (P := Try.prog) wx Try.underlying73 (.func f') #[.pointer (some ⟨p, 0, none⟩)] #[]
  go_enter Try.func13, Try.ntmps13
  go_wp2_with fail
  refine HC.out.mono ?_
  rintro en w1 ⟨rfl, h1, hm1, f1⟩
  have r8 := cell_of (i := 8) h1 rfl
  have z8 := frozen_of (i := 8) h1
  have hs := h1.setNx nx
  have HS := Lib.hid hs
  have HM := Lib.hid (hm1.fr ((Fr.refl [p] w1).setCell (p := ⟨p, 8, none⟩) (.inl (by simp)) (nx.val p)) (by simp; exact Ne.symm HP.out.1) (by simp; exact Ne.symm HP.out.2))
  have HF := Lib.hid (f1.setCell (p := ⟨p, 8, none⟩) (.inl (by simp)) (nx.val p))
  have v8 : (w1.setCell ⟨p, 8, none⟩ (nx.val p)).cell? ⟨p, 8, none⟩ = some (nx.val p) := cell_of (i := 8) hs rfl
  clear h1 hm1 f1 hs q8
  cases hf : nx.fn with
  | none =>
    have HQ := Lib.hid (show QStep w p pm qm c { s' with nx := nx } M' t' (.returned (.bool true)) (w1.setCell ⟨p, 8, none⟩ (nx.val p)) from ⟨by show _ = Ending.returned (.bool nx.fn.isNone); rw [hf]; rfl, HS.out, HM.out, HF.out⟩)
    rw [QSt.val_done hf p] at v8 HQ ⊢
    go_wp2
    go_ret
    exact HQ.out
  | some f' =>
    have HQ := Lib.hid (show QStep w p pm qm c { s' with nx := nx } M' t' (.returned (.bool false)) (w1.setCell ⟨p, 8, none⟩ (nx.val p)) from ⟨by show _ = Ending.returned (.bool nx.fn.isNone); rw [hf]; rfl, HS.out, HM.out, HF.out⟩)
    rw [QSt.val_fn hf p] at v8 HQ ⊢
    go_wp2
    go_ret
    exact HQ.out

set_option maxHeartbeats 8000000 in
set_option maxRecDepth 100000 in
theorem qstep_closed (w : World) (p pm qm : Nat) (c : ConfV) (s s' : QuS) (nx : QSt) (M' : List Int) (t' : Int) (h : QuAt w p c s) (hp : p ≠ pm ∧ p ≠ qm) (hn : s.nx = .closed)
    (hC : Calls Try.prog 64 #[.pointer (some ⟨p, 0, none⟩), .pointer (some ⟨pm, 0, none⟩)] w (QPost w p pm qm c s' nx M' t')) :
    Calls Try.prog 13 #[.pointer (some ⟨p, 0, none⟩), .pointer (some ⟨pm, 0, none⟩)] w (QStep w p pm qm c { s' with nx := nx } M' t') := by
  have q8 : w.cell? ⟨p, 8, none⟩ = some (.func (.func 64) #[.pointer (some ⟨p, 0, none⟩)] #[]) := by
    have := cell_of (i := 8) h rfl
    rw [hn] at this
    exact this
  have HC := Lib.hid hC; have HP := Lib.hid hp
  clear hC h
  have e1 := fun (wx : World) => run_neq_func_nil (P := Try.prog) wx Try.underlying73 (.func 64) #[.pointer (some ⟨p, 0, none⟩)] #[]
  have e2 := fun (wx : World) => run_eql_nil_nil (P := Try.prog) wx Try.underlying73
  have e3 := fun (wx : World) (f' : FuncId) => run_eql_func_nil (P := Try.prog) wx Try.underlying73 (.func f') #[.pointer (some ⟨p, 0, none⟩)] #[]
  go_enter Try.func13, Try.ntmps13
  go_wp2_with fail
  refine HC.out.mono ?_
  rintro en w1 ⟨rfl, h1, hm1, f1⟩
  have r8 := cell_of (i := 8) h1 rfl
  have z8 := frozen_of (i := 8) h1
  have hs := h1.setNx nx
  have HS := Lib.hid hs
  have HM := Lib.hid (hm1.fr ((Fr.refl [p] w1).setCell (p := ⟨p, 8, none⟩) (.inl (by simp)) (nx.val p)) (by simp; exact Ne.symm HP.out.1) (by simp; exact Ne.symm HP.out.2))
  have HF := Lib.hid (f1.setCell (p := ⟨p, 8, none⟩) (.inl (by simp)) (nx.val p))
  have v8 : (w1.setCell ⟨p, 8, none⟩ (nx.val p)).cell? ⟨p, 8, none⟩ = some (nx.val p) := cell_of (i := 8) hs rfl
  clear h1 hm1 f1 hs q8
  cases hf : nx.fn with
  | none =>
    have HQ := Lib.hid (show QStep w p pm qm c { s' with nx := nx } M' t' (.returned (.bool true)) (w1.setCell ⟨p, 8, none⟩ (nx.val p)) from ⟨by show _ = Ending.returned (.bool nx.fn.isNone); rw [hf]; rfl, HS.out, HM.out, HF.out⟩)
    rw [QSt.val_done hf p] at v8 HQ ⊢
    go_wp2
    go_ret
    exact HQ.out
  | some f' =>
    have HQ := Lib.hid (show QStep w p pm qm c { s' with nx := nx } M' t' (.returned (.bool false)) (w1.setCell ⟨p, 8, none⟩ (nx.val p)) from ⟨by show _ = Ending.returned (.bool nx.fn.isNone); rw [hf]; rfl, HS.out, HM.out, HF.out⟩)
    rw [QSt.val_fn hf p] at v8 HQ ⊢
    go_wp2
    go_ret
    exact HQ.out

set_option maxHeartbeats 8000000 in
set_option maxRecDepth 100000 in
theorem qstep_look (w : World) (p pm qm : Nat) (c : ConfV) (s s' : QuS) (nx : QSt) (M' : List Int) (t' : Int) (h : QuAt w p c s) (hp : p ≠ pm ∧ p ≠ qm) (hn : s.nx = .look)
    (hC : Calls Try.prog 38 #[.pointer (some ⟨p, 0, none⟩), .pointer (some ⟨pm, 0, none⟩)] w (QPost w p pm qm c s' nx M' t')) :
    Calls Try.prog 13 #[.pointer (some ⟨p, 0, none⟩), .pointer (some ⟨pm, 0, none⟩)] w (QStep w p pm qm c { s' with nx := nx } M' t') := by
  have q8 : w.cell? ⟨p, 8, none⟩ = some (.func (.func 38) #[.pointer (some ⟨p, 0, none⟩)] #[]) := by
    have := cell_of (i := 8) h rfl
    rw [hn] at this
    exact this
  have HC := Lib.hid hC; have HP := Lib.hid hp
  clear hC h
  have e1 := fun (wx : World) => run_neq_func_nil (P := Try.prog) wx Try.underlying73 (.func 38) #[.pointer (some ⟨p, 0, none⟩)] #[]
  have e2 := fun (wx : World) => run_eql_nil_nil (P := Try.prog) wx Try.underlying73
  have e3 := fun (wx : World) (f' : FuncId) => run_eql_func_nil (P := Try.prog) wx Try.underlying73 (.func f') #[.pointer (some ⟨p, 0, none⟩)] #[]
  go_enter Try.func13, Try.ntmps13
  go_wp2_with fail
  refine HC.out.mono ?_
  rintro en w1 ⟨rfl, h1, hm1, f1⟩
  have r8 := cell_of (i := 8) h1 rfl
  have z8 := frozen_of (i := 8) h1
  have hs := h1.setNx nx
  have HS := Lib.hid hs
  have HM := Lib.hid (hm1.fr ((Fr.refl [p] w1).setCell (p := ⟨p, 8, none⟩) (.inl (by simp)) (nx.val p)) (by simp; exact Ne.symm HP.out.1) (by simp; exact Ne.symm HP.out.2))
  have HF := Lib.hid (f1.setCell (p := ⟨p, 8, none⟩) (.inl (by simp)) (nx.val p))
  have v8 : (w1.setCell ⟨p, 8, none⟩ (nx.val p)).cell? ⟨p, 8, none⟩ = some (nx.val p) := cell_of (i := 8) hs rfl
  clear h1 hm1 f1 hs q8
  cases hf : nx.fn with
  | none =>
    have HQ := Lib.hid (show QStep w p pm qm c { s' with nx := nx } M' t' (.returned (.bool true)) (w1.setCell ⟨p, 8, none⟩ (nx.val p)) from ⟨by show _ = Ending.returned (.bool nx.fn.isNone); rw [hf]; rfl, HS.out, HM.out, HF.out⟩)
    rw [QSt.val_done hf p] at v8 HQ ⊢
    go_wp2
    go_ret
    exact HQ.out
  | some f' =>
    have HQ := Lib.hid (show QStep w p pm qm c { s' with nx := nx } M' t' (.returned (.bool false)) (w1.setCell ⟨p, 8, none⟩ (nx.val p)) from ⟨by show _ = Ending.returned (.bool nx.fn.isNone); rw [hf]; rfl, HS.out, HM.out, HF.out⟩)
    rw [QSt.val_fn hf p] at v8 HQ ⊢
    go_wp2
    go_ret
    exact HQ.out

set_option maxHeartbeats 8000000 in
set_option maxRecDepth 100000 in
theorem qstep_drop (w : World) (p pm qm : Nat) (c : ConfV) (s s' : QuS) (nx : QSt) (M' : List Int) (t' : Int) (h : QuAt w p c s) (hp : p ≠ pm ∧ p ≠ qm) (hn : s.nx = .drop)
    (hC : Calls Try.prog 55 #[.pointer (some ⟨p, 0, none⟩), .pointer (some ⟨pm, 0, none⟩)] w (QPost w p pm qm c s' nx M' t')) :
    Calls Try.prog 13 #[.pointer (some ⟨p, 0, none⟩), .pointer (some ⟨pm, 0, none⟩)] w (QStep w p pm qm c { s' with nx := nx } M' t') := by
  have q8 : w.cell? ⟨p, 8, none⟩ = some (.func (.func 55) #[.pointer (some ⟨p, 0, none⟩)] #[]) := by
    have := cell_of (i := 8) h rfl
    rw [hn] at this
    exact this
  have HC := Lib.hid hC; have HP := Lib.hid hp
  clear hC h
  have e1 := fun (wx : World) => run_neq_func_nil (P := Try.prog) wx Try.underlying73 (.func 55) #[.pointer (some ⟨p, 0, none⟩)] #[]
  have e2 := fun (wx : World) => run_eql_nil_nil (P := Try.prog) wx Try.underlying73
  have e3 := fun (wx : World) (f' : FuncId) => run_eql_func_nil (P := Try.prog) wx Try.underlying73 (.func f') #[.pointer (some ⟨p, 0, none⟩)] #[]
  go_enter Try.func13, Try.ntmps13
  go_wp2_with fail
  refine HC.out.mono ?_
  rintro en w1 ⟨rfl, h1, hm1, f1⟩
  have r8 := cell_of (i := 8) h1 rfl
  have z8 := frozen_of (i := 8) h1
  have hs := h1.setNx nx
  have HS := Lib.hid hs
  have HM := Lib.hid (hm1.fr ((Fr.refl [p] w1).setCell (p := ⟨p, 8, none⟩) (.inl (by simp)) (nx.val p)) (by simp; exact Ne.symm HP.out.1) (by simp; exact Ne.symm HP.out.2))
  have HF := Lib.hid (f1.setCell (p := ⟨p, 8, none⟩) (.inl (by simp)) (nx.val p))
  have v8 : (w1.setCell ⟨p, 8, none⟩ (nx.val p)).cell? ⟨p, 8, none⟩ = some (nx.val p) := cell_of (i := 8) hs rfl
  clear h1 hm1 f1 hs q8
  cases hf : nx.fn with
  | none =>
    have HQ := Lib.hid (show QStep w p pm qm c { s' with nx := nx } M' t' (.returned (.bool true)) (w1.setCell ⟨p, 8, none⟩ (nx.val p)) from ⟨by show _ = Ending.returned (.bool nx.fn.isNone); rw [hf]; rfl, HS.out, HM.out, HF.out⟩)
    rw [QSt.val_done hf p] at v8 HQ ⊢
    go_wp2
    go_ret
    exact HQ.out
  | some f' =>
    have HQ := Lib.hid (show QStep w p pm qm c { s' with nx := nx } M' t' (.returned (.bool false)) (w1.setCell ⟨p, 8, none⟩ (nx.val p)) from ⟨by show _ = Ending.returned (.bool nx.fn.isNone); rw [hf]; rfl, HS.out, HM.out, HF.out⟩)
    rw [QSt.val_fn hf p] at v8 HQ ⊢
    go_wp2
    go_ret
    exact HQ.out

set_option maxHeartbeats 8000000 in
set_option maxRecDepth 100000 in
theorem qstep_head (w : World) (p pm qm : Nat) (c : ConfV) (s s' : QuS) (nx : QSt) (M' : List Int) (t' : Int) (h : QuAt w p c s) (hp : p ≠ pm ∧ p ≠ qm) (hn : s.nx = .head)
    (hC : Calls Try.prog 41 #[.pointer (some ⟨p, 0, none⟩), .pointer (some ⟨pm, 0, none⟩)] w (QPost w p pm qm c s' nx M' t')) :
    Calls Try.prog 13 #[.pointer (some ⟨p, 0, none⟩), .pointer (some ⟨pm, 0, none⟩)] w (QStep w p pm qm c { s' with nx := nx } M' t') := by
  have q8 : w.cell? ⟨p, 8, none⟩ = some (.func (.func 41) #[.pointer (some ⟨p, 0, none⟩)] #[]) := by
    have := cell_of (i := 8) h rfl
    rw [hn] at this
    exact this
  have HC := Lib.hid hC; have HP := Lib.hid hp
  clear hC h
  have e1 := fun (wx : World) => run_neq_func_nil (P := Try.prog) wx Try.underlying73 (.func 41) #[.pointer (some ⟨p, 0, none⟩)] #[]
  have e2 := fun (wx : World) => run_eql_nil_nil (P := Try.prog) wx Try.underlying73
  have e3 := fun (wx : World) (f' : FuncId) => run_eql_func_nil (P := Try.prog) wx Try.underlying73 (.func f') #[.pointer (some ⟨p, 0, none⟩)] #[]
  go_enter Try.func13, Try.ntmps13
  go_wp2_with fail
  refine HC.out.mono ?_
  rintro en w1 ⟨rfl, h1, hm1, f1⟩
  have r8 := cell_of (i := 8) h1 rfl
  have z8 := frozen_of (i := 8) h1
  have hs := h1.setNx nx
  have HS := Lib.hid hs
  have HM := Lib.hid (hm1.fr ((Fr.refl [p] w1).setCell (p := ⟨p, 8, none⟩) (.inl (by simp)) (nx.val p)) (by simp; exact Ne.symm HP.out.1) (by simp; exact Ne.symm HP.out.2))
  have HF := Lib.hid (f1.setCell (p := ⟨p, 8, none⟩) (.inl (by simp)) (nx.val p))
  have v8 : (w1.setCell ⟨p, 8, none⟩ (nx.val p)).cell? ⟨p, 8, none⟩ = some (nx.val p) := cell_of (i := 8) hs rfl
  clear h1 hm1 f1 hs q8
  cases hf : nx.fn with
  | none =>
    have HQ := Lib.hid (show QStep w p pm qm c { s' with nx := nx } M' t' (.returned (.bool true)) (w1.setCell ⟨p, 8, none⟩ (nx.val p)) from ⟨by show _ = Ending.returned (.bool nx.fn.isNone); rw [hf]; rfl, HS.out, HM.out, HF.out⟩)
    rw [QSt.val_done hf p] at v8 HQ ⊢
    go_wp2
    go_ret
    exact HQ.out
  | some f' =>
    have HQ := Lib.hid (show QStep w p pm qm c { s' with nx := nx } M' t' (.returned (.bool false)) (w1.setCell ⟨p, 8, none⟩ (nx.val p)) from ⟨by show _ = Ending.returned (.bool nx.fn.isNone); rw [hf]; rfl, HS.out, HM.out, HF.out⟩)
    rw [QSt.val_fn hf p] at v8 HQ ⊢
    go_wp2
    go_ret
    exact HQ.out

set_option maxHeartbeats 8000000 in
set_option maxRecDepth 100000 in
theorem qstep_pop (w : World) (p pm qm : Nat) (c : ConfV) (s s' : QuS) (nx : QSt) (M' : List Int) (t' : Int) (h : QuAt w p c s) (hp : p ≠ pm ∧ p ≠ qm) (hn : s.nx = .pop)
    (hC : Calls Try.prog 57 #[.pointer (some ⟨p, 0, none⟩), .pointer (some ⟨pm, 0, none⟩)] w (QPost w p pm qm c s' nx M' t')) :
    Calls Try.prog 13 #[.pointer (some ⟨p, 0, none⟩), .pointer (some ⟨pm, 0, none⟩)] w (QStep w p pm qm c { s' with nx := nx } M' t') := by
  have q8 : w.cell? ⟨p, 8, none⟩ = some (.func (.func 57) #[.pointer (some ⟨p, 0, none⟩)] #[]) := by
    have := cell_of (i := 8) h rfl
    rw [hn] at this
    exact this
  have HC := Lib.hid hC; have HP := Lib.hid hp
  clear hC h
  have e1 := fun (wx : World) => run_neq_func_nil (P := Try.prog) wx Try.underlying73 (.func 57) #[.pointer (some ⟨p, 0, none⟩)] #[]
  have e2 := fun (wx : World) => run_eql_nil_nil (P := Try.prog) wx Try.underlying73
  have e3 := fun (wx : World) (f' : FuncId) => run_eql_func_nil (P := Try.prog) wx Try.underlying73 (.func f') #[.pointer (some ⟨p, 0, none⟩)] #[]
  go_enter Try.func13, Try.ntmps13
  go_wp2_with fail
  refine HC.out.mono ?_
  rintro en w1 ⟨rfl, h1, hm1, f1⟩
  have r8 := cell_of (i := 8) h1 rfl
  have z8 := frozen_of (i := 8) h1
  have hs := h1.setNx nx
  have HS := Lib.hid hs
  have HM := Lib.hid (hm1.fr ((Fr.refl [p] w1).setCell (p := ⟨p, 8, none⟩) (.inl (by simp)) (nx.val p)) (by simp; exact Ne.symm HP.out.1) (by simp; exact Ne.symm HP.out.2))
  have HF := Lib.hid (f1.setCell (p := ⟨p, 8, none⟩) (.inl (by simp)) (nx.val p))
  have v8 : (w1.setCell ⟨p, 8, none⟩ (nx.val p)).cell? ⟨p, 8, none⟩ = some (nx.val p) := cell_of (i := 8) hs rfl
  clear h1 hm1 f1 hs q8
  cases hf : nx.fn with
  | none =>
    have HQ := Lib.hid (show QStep w p pm qm c { s' with nx := nx } M' t' (.returned (.bool true)) (w1.setCell ⟨p, 8, none⟩ (nx.val p)) from ⟨by show _ = Ending.returned (.bool nx.fn.isNone); rw [hf]; rfl, HS.out, HM.out, HF.out⟩)
    rw [QSt.val_done hf p] at v8 HQ ⊢
    go_wp2
    go_ret
    exact HQ.out
  | some f' =>
    have HQ := Lib.hid (show QStep w p pm qm c { s' with nx := nx } M' t' (.returned (.bool false)) (w1.setCell ⟨p, 8, none⟩ (nx.val p)) from ⟨by show _ = Ending.returned (.bool nx.fn.isNone); rw [hf]; rfl, HS.out, HM.out, HF.out⟩)
    rw [QSt.val_fn hf p] at v8 HQ ⊢
    go_wp2
    go_ret
    exact HQ.out

set_option maxHeartbeats 8000000 in
set_option maxRecDepth 100000 in
theorem qstep_tell (w : World) (p pm qm : Nat) (c : ConfV) (s s' : QuS) (nx : QSt) (M' : List Int) (t' : Int) (h : QuAt w p c s) (hp : p ≠ pm ∧ p ≠ qm) (hn : s.nx = .tell)
    (hC : Calls Try.prog 67 #[.pointer (some ⟨p, 0, none⟩), .pointer (some ⟨pm, 0, none⟩)] w (QPost w p pm qm c s' nx M' t')) :
    Calls Try.prog 13 #[.pointer (some ⟨p, 0, none⟩), .pointer (some ⟨pm, 0, none⟩)] w (QStep w p pm qm c { s' with nx := nx } M' t') := by
  have q8 : w.cell? ⟨p, 8, none⟩ = some (.func (.func 67) #[.pointer (some ⟨p, 0, none⟩)] #[]) := by
    have := cell_of (i := 8) h rfl
    rw [hn] at this
    exact this
  have HC := Lib.hid hC; have HP := Lib.hid hp
  clear hC h
  have e1 := fun (wx : World) => run_neq_func_nil (P := Try.prog) wx Try.underlying73 (.func 67) #[.pointer (some ⟨p, 0, none⟩)] #[]
  have e2 := fun (wx : World) => run_eql_nil_nil (P := Try.prog) wx Try.underlying73
  have e3 := fun (wx : World) (f' : FuncId) => run_eql_func_nil (P := Try.prog) wx Try.underlying73 (.func f') #[.pointer (some ⟨p, 0, none⟩)] #[]
  go_enter Try.func13, Try.ntmps13
  go_wp2_with fail
  refine HC.out.mono ?_
  rintro en w1 ⟨rfl, h1, hm1, f1⟩
  have r8 := cell_of (i := 8) h1 rfl
  have z8 := frozen_of (i := 8) h1
  have hs := h1.setNx nx
  have HS := Lib.hid hs
  have HM := Lib.hid (hm1.fr ((Fr.refl [p] w1).setCell (p := ⟨p, 8, none⟩) (.inl (by simp)) (nx.val p)) (by simp; exact Ne.symm HP.out.1) (by simp; exact Ne.symm HP.out.2))
  have HF := Lib.hid (f1.setCell (p := ⟨p, 8, none⟩) (.inl (by simp)) (nx.val p))
  have v8 : (w1.setCell ⟨p, 8, none⟩ (nx.val p)).cell? ⟨p, 8, none⟩ = some (nx.val p) := cell_of (i := 8) hs rfl
  clear h1 hm1 f1 hs q8
  cases hf : nx.fn with
  | none =>
    have HQ := Lib.hid (show QStep w p pm qm c { s' with nx := nx } M' t' (.returned (.bool true)) (w1.setCell ⟨p, 8, none⟩ (nx.val p)) from ⟨by show _ = Ending.returned (.bool nx.fn.isNone); rw [hf]; rfl, HS.out, HM.out, HF.out⟩)
    rw [QSt.val_done hf p] at v8 HQ ⊢
    go_wp2
    go_ret
    exact HQ.out
  | some f' =>
    have HQ := Lib.hid (show QStep w p pm qm c { s' with nx := nx } M' t' (.returned (.bool false)) (w1.setCell ⟨p, 8, none⟩ (nx.val p)) from ⟨by show _ = Ending.returned (.bool nx.fn.isNone); rw [hf]; rfl, HS.out, HM.out, HF.out⟩)
    rw [QSt.val_fn hf p] at v8 HQ ⊢
    go_wp2
    go_ret
    exact HQ.out

theorem qstep_any (w : World) (p pm qm : Nat) (c : ConfV) (s s' : QuS) (nx : QSt) (M' : List Int) (t' : Int) (f : FuncId) (h : QuAt w p c s) (hp : p ≠ pm ∧ p ≠ qm) (hn : s.nx.fn = some f)
    (hC : Calls Try.prog f #[.pointer (some ⟨p, 0, none⟩), .pointer (some ⟨pm, 0, none⟩)] w (QPost w p pm qm c s' nx M' t')) :
    Calls Try.prog 13 #[.pointer (some ⟨p, 0, none⟩), .pointer (some ⟨pm, 0, none⟩)] w (QStep w p pm qm c { s' with nx := nx } M' t') := by
  cases hx : s.nx with
  | come => rw [hx] at hn; injection hn with hn; subst hn; exact qstep_come w p pm qm c s s' nx M' t' h hp hx hC
  | push => rw [hx] at hn; injection hn with hn; subst hn; exact qstep_push w p pm qm c s s' nx M' t' h hp hx hC
  | closed => rw [hx] at hn; injection hn with hn; subst hn; exact qstep_closed w p pm qm c s s' nx M' t' h hp hx hC
  | look => rw [hx] at hn; injection hn with hn; subst hn; exact qstep_look w p pm qm c s s' nx M' t' h hp hx hC
  | drop => rw [hx] at hn; injection hn with hn; subst hn; exact qstep_drop w p pm qm c s s' nx M' t' h hp hx hC
  | head => rw [hx] at hn; injection hn with hn; subst hn; exact qstep_head w p pm qm c s s' nx M' t' h hp hx hC
  | pop => rw [hx] at hn; injection hn with hn; subst hn; exact qstep_pop w p pm qm c s s' nx M' t' h hp hx hC
  | tell => rw [hx] at hn; injection hn with hn; subst hn; exact qstep_tell w p pm qm c s s' nx M' t' h hp hx hC
  | done => rw [hx] at hn; cases hn

end Go.Proofs.Ytdpefnebghljoaa
