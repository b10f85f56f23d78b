/- A part of the proof: QuDP to QuGP. -/
import Derived.Test.YtgjklfmnmljilaaGreatDoorZT03
import Derived.Test.YtgjklfmnmljilaaGreatDoorZT06
import Derived.Laws.EntriesVeiled
import Derived.Maps.AppendAt
namespace Go.Proofs.YtgjklfmnmljilaaGreatDoor
set_option linter.unusedVariables false
set_option linter.unusedSimpArgs false
set_option linter.unusedSectionVars false
set_option linter.unnecessarySimpa false
set_option maxRecDepth 100000
set_option maxHeartbeats 8000000
section
open Go.RowKit
def QSt.fn:QSt→Option FuncId
 |.come=>some 234
 |.push=>some 259
 |.closed=>some 269
 |.look=>some 122
 |.drop=>some 198
 |.head=>some 217
 |.pop=>some 251
 |.tell=>some 267
 |.done=>none
theorem QSt.V5 {n:QSt} {f:FuncId} (h:n.fn=some f) (p:Nat):n.val p=.func (.func f) #[.pointer (some ⟨p,0,none⟩)] #[]:=by
 cases n<;>first|(injection h with h;subst h;rfl)|cases h
theorem QSt.XY {n:QSt} (h:n.fn=none) (p:Nat):n.val p=.nilFunc:=by
 cases n<;>first|rfl|cases h
theorem Jg {P:Program} (w:World) {t:TypeId} {ps rs:Array TypeId} {v:Bool} (h:P.underlying t=some (.func ps rs v)) (f:Fn) (a b:Array Value):
 (binOp .neq t (.func f a b) .nilFunc).run P w=.ok (.bool true) w:=by
 have hd:∀d:Nat,(Op.equalIn (d+1) t (.func f a b) .nilFunc).run P w=.ok false w:=fun d=>by simp [Op.equalIn,run_underlying h]
 simp only [binOp]
 simp [Op.equal,Op.maxDepth,hd 9999]
theorem run_eql_nil_nil {P:Program} (w:World) {t:TypeId} {ps rs:Array TypeId} {v:Bool} (h:P.underlying t=some (.func ps rs v)):
 (binOp .eql t .nilFunc .nilFunc).run P w=.ok (.bool true) w:=by
 have hd:∀d:Nat,(Op.equalIn (d+1) t .nilFunc .nilFunc).run P w=.ok true w:=fun d=>by simp [Op.equalIn,run_underlying h]
 simp only [binOp]
 simp [Op.equal,Op.maxDepth,hd 9999]
theorem run_neq_nil_nil {P:Program} (w:World) {t:TypeId} {ps rs:Array TypeId} {v:Bool} (h:P.underlying t=some (.func ps rs v)):
 (binOp .neq t .nilFunc .nilFunc).run P w=.ok (.bool false) w:=by
 have hd:∀d:Nat,(Op.equalIn (d+1) t .nilFunc .nilFunc).run P w=.ok true w:=fun d=>by simp [Op.equalIn,run_underlying h]
 simp only [binOp]
 simp [Op.equal,Op.maxDepth,hd 9999]
def Jl (w:World) (p pm qm:Nat) (c:Q0) (s':QuS) (M':List Int) (t':Int) (en:Ending) (w':World):Prop:=
 en=.returned (.bool s'.nx.fn.isNone)∧J9 w' p c s'∧QD 112 w' pm qm M' t'∧Fr [p,pm,qm] w w'
theorem Q2u (w:World) (p pm:Nat) (c:Q0) (s:QuS) (h:J9 w p c s) (hn:s.nx.fn=none):
 Calls Tryz.prog 82 #[.pointer (some ⟨p,0,none⟩),.pointer (some ⟨pm,0,none⟩)] w fun en w'=>en=.returned (.bool true)∧w'=w:=by
 have q8:w.cell? ⟨p,8,none⟩=some .nilFunc:=by
  have:=cell_of (i:=8) h rfl
  rw [←QSt.XY hn p]
  exact this
 clear h
 have e1:=fun (wx:World)=>run_neq_nil_nil (P:=Tryz.prog) wx Tryz.underlying178
 have e2:=fun (wx:World)=>run_eql_nil_nil (P:=Tryz.prog) wx Tryz.underlying178
 go_in
 go_wp2
 go_ret
 exact ⟨rfl,rfl⟩
theorem Q2v (w:World) (p pm qm:Nat) (c:Q0) (s s':QuS) (nx:QSt) (M':List Int) (t':Int) (h:J9 w p c s) (hp:p≠pm∧p≠qm) (hn:s.nx=.come)
 (hC:Calls Tryz.prog 234 #[.pointer (some ⟨p,0,none⟩),.pointer (some ⟨pm,0,none⟩)] w (JB w p pm qm c s' nx M' t')):
 Calls Tryz.prog 82 #[.pointer (some ⟨p,0,none⟩),.pointer (some ⟨pm,0,none⟩)] w (Jl w p pm qm c {s' with nx:=nx} M' t'):=by
 have q8:w.cell? ⟨p,8,none⟩=some (.func (.func 234) #[.pointer (some ⟨p,0,none⟩)] #[]):=by
  have:=cell_of (i:=8) h rfl
  rw [hn] at this
  exact this
 have HC:=Lib.hid hC;have HP:=Lib.hid hp
 clear hC h
 have e1:=fun (wx:World)=>Jg (P:=Tryz.prog) wx Tryz.underlying178 (.func 234) #[.pointer (some ⟨p,0,none⟩)] #[]
 have e2:=fun (wx:World)=>run_eql_nil_nil (P:=Tryz.prog) wx Tryz.underlying178
 have e3:=fun (wx:World) (f':FuncId)=>QZ (P:=Tryz.prog) wx Tryz.underlying178 (.func f') #[.pointer (some ⟨p,0,none⟩)] #[]
 go_in
 go_wp2_with fail
 refine HC.out.mono ?_
 rintro en w1 ⟨rfl,h1,hm1,f1⟩
 have r8:=cell_of (i:=8) h1 rfl
 have z8:=Q9 (i:=8) h1
 have hs:=h1.GK nx
 have HS:=Lib.hid hs
 have HM:=Lib.hid (hm1.fr ((Fr.refl [p] w1).sc p 8 (nx.val p)) (by simp;exact Ne.symm HP.out.1) (by simp;exact Ne.symm HP.out.2))
 have HF:=Lib.hid (f1.sc p 8 (nx.val p))
 have v8:(w1.setCell ⟨p,8,none⟩ (nx.val p)).cell? ⟨p,8,none⟩=some (nx.val p):=cell_of (i:=8) hs rfl
 clear h1 hm1 f1 hs q8
 cases hf:nx.fn with
 |none=>
  have HQ:=Lib.hid (show Jl w p pm qm c {s' with nx:=nx} M' t' (.returned (.bool true)) (w1.setCell ⟨p,8,none⟩ (nx.val p)) from ⟨by show _=Ending.returned (.bool nx.fn.isNone);rw [hf];rfl,HS.out,HM.out,HF.out⟩)
  rw [QSt.XY hf p] at v8 HQ ⊢
  go_wp2
  go_ret
  exact HQ.out
 |some f'=>
  have HQ:=Lib.hid (show Jl w p pm qm c {s' with nx:=nx} M' t' (.returned (.bool false)) (w1.setCell ⟨p,8,none⟩ (nx.val p)) from ⟨by show _=Ending.returned (.bool nx.fn.isNone);rw [hf];rfl,HS.out,HM.out,HF.out⟩)
  rw [QSt.V5 hf p] at v8 HQ ⊢
  go_wp2
  go_ret
  exact HQ.out
theorem Q2q (w:World) (p pm qm:Nat) (c:Q0) (s s':QuS) (nx:QSt) (M':List Int) (t':Int) (h:J9 w p c s) (hp:p≠pm∧p≠qm) (hn:s.nx=.push)
 (hC:Calls Tryz.prog 259 #[.pointer (some ⟨p,0,none⟩),.pointer (some ⟨pm,0,none⟩)] w (JB w p pm qm c s' nx M' t')):
 Calls Tryz.prog 82 #[.pointer (some ⟨p,0,none⟩),.pointer (some ⟨pm,0,none⟩)] w (Jl w p pm qm c {s' with nx:=nx} M' t'):=by
 have q8:w.cell? ⟨p,8,none⟩=some (.func (.func 259) #[.pointer (some ⟨p,0,none⟩)] #[]):=by
  have:=cell_of (i:=8) h rfl
  rw [hn] at this
  exact this
 have HC:=Lib.hid hC;have HP:=Lib.hid hp
 clear hC h
 have e1:=fun (wx:World)=>Jg (P:=Tryz.prog) wx Tryz.underlying178 (.func 259) #[.pointer (some ⟨p,0,none⟩)] #[]
 have e2:=fun (wx:World)=>run_eql_nil_nil (P:=Tryz.prog) wx Tryz.underlying178
 have e3:=fun (wx:World) (f':FuncId)=>QZ (P:=Tryz.prog) wx Tryz.underlying178 (.func f') #[.pointer (some ⟨p,0,none⟩)] #[]
 go_in
 go_wp2_with fail
 refine HC.out.mono ?_
 rintro en w1 ⟨rfl,h1,hm1,f1⟩
 have r8:=cell_of (i:=8) h1 rfl
 have z8:=Q9 (i:=8) h1
 have hs:=h1.GK nx
 have HS:=Lib.hid hs
 have HM:=Lib.hid (hm1.fr ((Fr.refl [p] w1).sc p 8 (nx.val p)) (by simp;exact Ne.symm HP.out.1) (by simp;exact Ne.symm HP.out.2))
 have HF:=Lib.hid (f1.sc p 8 (nx.val p))
 have v8:(w1.setCell ⟨p,8,none⟩ (nx.val p)).cell? ⟨p,8,none⟩=some (nx.val p):=cell_of (i:=8) hs rfl
 clear h1 hm1 f1 hs q8
 cases hf:nx.fn with
 |none=>
  have HQ:=Lib.hid (show Jl w p pm qm c {s' with nx:=nx} M' t' (.returned (.bool true)) (w1.setCell ⟨p,8,none⟩ (nx.val p)) from ⟨by show _=Ending.returned (.bool nx.fn.isNone);rw [hf];rfl,HS.out,HM.out,HF.out⟩)
  rw [QSt.XY hf p] at v8 HQ ⊢
  go_wp2
  go_ret
  exact HQ.out
 |some f'=>
  have HQ:=Lib.hid (show Jl w p pm qm c {s' with nx:=nx} M' t' (.returned (.bool false)) (w1.setCell ⟨p,8,none⟩ (nx.val p)) from ⟨by show _=Ending.returned (.bool nx.fn.isNone);rw [hf];rfl,HS.out,HM.out,HF.out⟩)
  rw [QSt.V5 hf p] at v8 HQ ⊢
  go_wp2
  go_ret
  exact HQ.out
theorem EF (w:World) (p pm qm:Nat) (c:Q0) (s s':QuS) (nx:QSt) (M':List Int) (t':Int) (h:J9 w p c s) (hp:p≠pm∧p≠qm) (hn:s.nx=.closed)
 (hC:Calls Tryz.prog 269 #[.pointer (some ⟨p,0,none⟩),.pointer (some ⟨pm,0,none⟩)] w (JB w p pm qm c s' nx M' t')):
 Calls Tryz.prog 82 #[.pointer (some ⟨p,0,none⟩),.pointer (some ⟨pm,0,none⟩)] w (Jl w p pm qm c {s' with nx:=nx} M' t'):=by
 have q8:w.cell? ⟨p,8,none⟩=some (.func (.func 269) #[.pointer (some ⟨p,0,none⟩)] #[]):=by
  have:=cell_of (i:=8) h rfl
  rw [hn] at this
  exact this
 have HC:=Lib.hid hC;have HP:=Lib.hid hp
 clear hC h
 have e1:=fun (wx:World)=>Jg (P:=Tryz.prog) wx Tryz.underlying178 (.func 269) #[.pointer (some ⟨p,0,none⟩)] #[]
 have e2:=fun (wx:World)=>run_eql_nil_nil (P:=Tryz.prog) wx Tryz.underlying178
 have e3:=fun (wx:World) (f':FuncId)=>QZ (P:=Tryz.prog) wx Tryz.underlying178 (.func f') #[.pointer (some ⟨p,0,none⟩)] #[]
 go_in
 go_wp2_with fail
 refine HC.out.mono ?_
 rintro en w1 ⟨rfl,h1,hm1,f1⟩
 have r8:=cell_of (i:=8) h1 rfl
 have z8:=Q9 (i:=8) h1
 have hs:=h1.GK nx
 have HS:=Lib.hid hs
 have HM:=Lib.hid (hm1.fr ((Fr.refl [p] w1).sc p 8 (nx.val p)) (by simp;exact Ne.symm HP.out.1) (by simp;exact Ne.symm HP.out.2))
 have HF:=Lib.hid (f1.sc p 8 (nx.val p))
 have v8:(w1.setCell ⟨p,8,none⟩ (nx.val p)).cell? ⟨p,8,none⟩=some (nx.val p):=cell_of (i:=8) hs rfl
 clear h1 hm1 f1 hs q8
 cases hf:nx.fn with
 |none=>
  have HQ:=Lib.hid (show Jl w p pm qm c {s' with nx:=nx} M' t' (.returned (.bool true)) (w1.setCell ⟨p,8,none⟩ (nx.val p)) from ⟨by show _=Ending.returned (.bool nx.fn.isNone);rw [hf];rfl,HS.out,HM.out,HF.out⟩)
  rw [QSt.XY hf p] at v8 HQ ⊢
  go_wp2
  go_ret
  exact HQ.out
 |some f'=>
  have HQ:=Lib.hid (show Jl w p pm qm c {s' with nx:=nx} M' t' (.returned (.bool false)) (w1.setCell ⟨p,8,none⟩ (nx.val p)) from ⟨by show _=Ending.returned (.bool nx.fn.isNone);rw [hf];rfl,HS.out,HM.out,HF.out⟩)
  rw [QSt.V5 hf p] at v8 HQ ⊢
  go_wp2
  go_ret
  exact HQ.out
theorem Q2r (w:World) (p pm qm:Nat) (c:Q0) (s s':QuS) (nx:QSt) (M':List Int) (t':Int) (h:J9 w p c s) (hp:p≠pm∧p≠qm) (hn:s.nx=.look)
 (hC:Calls Tryz.prog 122 #[.pointer (some ⟨p,0,none⟩),.pointer (some ⟨pm,0,none⟩)] w (JB w p pm qm c s' nx M' t')):
 Calls Tryz.prog 82 #[.pointer (some ⟨p,0,none⟩),.pointer (some ⟨pm,0,none⟩)] w (Jl w p pm qm c {s' with nx:=nx} M' t'):=by
 have q8:w.cell? ⟨p,8,none⟩=some (.func (.func 122) #[.pointer (some ⟨p,0,none⟩)] #[]):=by
  have:=cell_of (i:=8) h rfl
  rw [hn] at this
  exact this
 have HC:=Lib.hid hC;have HP:=Lib.hid hp
 clear hC h
 have e1:=fun (wx:World)=>Jg (P:=Tryz.prog) wx Tryz.underlying178 (.func 122) #[.pointer (some ⟨p,0,none⟩)] #[]
 have e2:=fun (wx:World)=>run_eql_nil_nil (P:=Tryz.prog) wx Tryz.underlying178
 have e3:=fun (wx:World) (f':FuncId)=>QZ (P:=Tryz.prog) wx Tryz.underlying178 (.func f') #[.pointer (some ⟨p,0,none⟩)] #[]
 go_in
 go_wp2_with fail
 refine HC.out.mono ?_
 rintro en w1 ⟨rfl,h1,hm1,f1⟩
 have r8:=cell_of (i:=8) h1 rfl
 have z8:=Q9 (i:=8) h1
 have hs:=h1.GK nx
 have HS:=Lib.hid hs
 have HM:=Lib.hid (hm1.fr ((Fr.refl [p] w1).sc p 8 (nx.val p)) (by simp;exact Ne.symm HP.out.1) (by simp;exact Ne.symm HP.out.2))
 have HF:=Lib.hid (f1.sc p 8 (nx.val p))
 have v8:(w1.setCell ⟨p,8,none⟩ (nx.val p)).cell? ⟨p,8,none⟩=some (nx.val p):=cell_of (i:=8) hs rfl
 clear h1 hm1 f1 hs q8
 cases hf:nx.fn with
 |none=>
  have HQ:=Lib.hid (show Jl w p pm qm c {s' with nx:=nx} M' t' (.returned (.bool true)) (w1.setCell ⟨p,8,none⟩ (nx.val p)) from ⟨by show _=Ending.returned (.bool nx.fn.isNone);rw [hf];rfl,HS.out,HM.out,HF.out⟩)
  rw [QSt.XY hf p] at v8 HQ ⊢
  go_wp2
  go_ret
  exact HQ.out
 |some f'=>
  have HQ:=Lib.hid (show Jl w p pm qm c {s' with nx:=nx} M' t' (.returned (.bool false)) (w1.setCell ⟨p,8,none⟩ (nx.val p)) from ⟨by show _=Ending.returned (.bool nx.fn.isNone);rw [hf];rfl,HS.out,HM.out,HF.out⟩)
  rw [QSt.V5 hf p] at v8 HQ ⊢
  go_wp2
  go_ret
  exact HQ.out
theorem Q2t (w:World) (p pm qm:Nat) (c:Q0) (s s':QuS) (nx:QSt) (M':List Int) (t':Int) (h:J9 w p c s) (hp:p≠pm∧p≠qm) (hn:s.nx=.drop)
 (hC:Calls Tryz.prog 198 #[.pointer (some ⟨p,0,none⟩),.pointer (some ⟨pm,0,none⟩)] w (JB w p pm qm c s' nx M' t')):
 Calls Tryz.prog 82 #[.pointer (some ⟨p,0,none⟩),.pointer (some ⟨pm,0,none⟩)] w (Jl w p pm qm c {s' with nx:=nx} M' t'):=by
 have q8:w.cell? ⟨p,8,none⟩=some (.func (.func 198) #[.pointer (some ⟨p,0,none⟩)] #[]):=by
  have:=cell_of (i:=8) h rfl
  rw [hn] at this
  exact this
 have HC:=Lib.hid hC;have HP:=Lib.hid hp
 clear hC h
 have e1:=fun (wx:World)=>Jg (P:=Tryz.prog) wx Tryz.underlying178 (.func 198) #[.pointer (some ⟨p,0,none⟩)] #[]
 have e2:=fun (wx:World)=>run_eql_nil_nil (P:=Tryz.prog) wx Tryz.underlying178
 have e3:=fun (wx:World) (f':FuncId)=>QZ (P:=Tryz.prog) wx Tryz.underlying178 (.func f') #[.pointer (some ⟨p,0,none⟩)] #[]
 go_in
 go_wp2_with fail
 refine HC.out.mono ?_
 rintro en w1 ⟨rfl,h1,hm1,f1⟩
 have r8:=cell_of (i:=8) h1 rfl
 have z8:=Q9 (i:=8) h1
 have hs:=h1.GK nx
 have HS:=Lib.hid hs
 have HM:=Lib.hid (hm1.fr ((Fr.refl [p] w1).sc p 8 (nx.val p)) (by simp;exact Ne.symm HP.out.1) (by simp;exact Ne.symm HP.out.2))
 have HF:=Lib.hid (f1.sc p 8 (nx.val p))
 have v8:(w1.setCell ⟨p,8,none⟩ (nx.val p)).cell? ⟨p,8,none⟩=some (nx.val p):=cell_of (i:=8) hs rfl
 clear h1 hm1 f1 hs q8
 cases hf:nx.fn with
 |none=>
  have HQ:=Lib.hid (show Jl w p pm qm c {s' with nx:=nx} M' t' (.returned (.bool true)) (w1.setCell ⟨p,8,none⟩ (nx.val p)) from ⟨by show _=Ending.returned (.bool nx.fn.isNone);rw [hf];rfl,HS.out,HM.out,HF.out⟩)
  rw [QSt.XY hf p] at v8 HQ ⊢
  go_wp2
  go_ret
  exact HQ.out
 |some f'=>
  have HQ:=Lib.hid (show Jl w p pm qm c {s' with nx:=nx} M' t' (.returned (.bool false)) (w1.setCell ⟨p,8,none⟩ (nx.val p)) from ⟨by show _=Ending.returned (.bool nx.fn.isNone);rw [hf];rfl,HS.out,HM.out,HF.out⟩)
  rw [QSt.V5 hf p] at v8 HQ ⊢
  go_wp2
  go_ret
  exact HQ.out
theorem Q2s (w:World) (p pm qm:Nat) (c:Q0) (s s':QuS) (nx:QSt) (M':List Int) (t':Int) (h:J9 w p c s) (hp:p≠pm∧p≠qm) (hn:s.nx=.head)
 (hC:Calls Tryz.prog 217 #[.pointer (some ⟨p,0,none⟩),.pointer (some ⟨pm,0,none⟩)] w (JB w p pm qm c s' nx M' t')):
 Calls Tryz.prog 82 #[.pointer (some ⟨p,0,none⟩),.pointer (some ⟨pm,0,none⟩)] w (Jl w p pm qm c {s' with nx:=nx} M' t'):=by
 have q8:w.cell? ⟨p,8,none⟩=some (.func (.func 217) #[.pointer (some ⟨p,0,none⟩)] #[]):=by
  have:=cell_of (i:=8) h rfl
  rw [hn] at this
  exact this
 have HC:=Lib.hid hC;have HP:=Lib.hid hp
 clear hC h
 have e1:=fun (wx:World)=>Jg (P:=Tryz.prog) wx Tryz.underlying178 (.func 217) #[.pointer (some ⟨p,0,none⟩)] #[]
 have e2:=fun (wx:World)=>run_eql_nil_nil (P:=Tryz.prog) wx Tryz.underlying178
 have e3:=fun (wx:World) (f':FuncId)=>QZ (P:=Tryz.prog) wx Tryz.underlying178 (.func f') #[.pointer (some ⟨p,0,none⟩)] #[]
 go_in
 go_wp2_with fail
 refine HC.out.mono ?_
 rintro en w1 ⟨rfl,h1,hm1,f1⟩
 have r8:=cell_of (i:=8) h1 rfl
 have z8:=Q9 (i:=8) h1
 have hs:=h1.GK nx
 have HS:=Lib.hid hs
 have HM:=Lib.hid (hm1.fr ((Fr.refl [p] w1).sc p 8 (nx.val p)) (by simp;exact Ne.symm HP.out.1) (by simp;exact Ne.symm HP.out.2))
 have HF:=Lib.hid (f1.sc p 8 (nx.val p))
 have v8:(w1.setCell ⟨p,8,none⟩ (nx.val p)).cell? ⟨p,8,none⟩=some (nx.val p):=cell_of (i:=8) hs rfl
 clear h1 hm1 f1 hs q8
 cases hf:nx.fn with
 |none=>
  have HQ:=Lib.hid (show Jl w p pm qm c {s' with nx:=nx} M' t' (.returned (.bool true)) (w1.setCell ⟨p,8,none⟩ (nx.val p)) from ⟨by show _=Ending.returned (.bool nx.fn.isNone);rw [hf];rfl,HS.out,HM.out,HF.out⟩)
  rw [QSt.XY hf p] at v8 HQ ⊢
  go_wp2
  go_ret
  exact HQ.out
 |some f'=>
  have HQ:=Lib.hid (show Jl w p pm qm c {s' with nx:=nx} M' t' (.returned (.bool false)) (w1.setCell ⟨p,8,none⟩ (nx.val p)) from ⟨by show _=Ending.returned (.bool nx.fn.isNone);rw [hf];rfl,HS.out,HM.out,HF.out⟩)
  rw [QSt.V5 hf p] at v8 HQ ⊢
  go_wp2
  go_ret
  exact HQ.out
theorem Q4K (w:World) (p pm qm:Nat) (c:Q0) (s s':QuS) (nx:QSt) (M':List Int) (t':Int) (h:J9 w p c s) (hp:p≠pm∧p≠qm) (hn:s.nx=.pop)
 (hC:Calls Tryz.prog 251 #[.pointer (some ⟨p,0,none⟩),.pointer (some ⟨pm,0,none⟩)] w (JB w p pm qm c s' nx M' t')):
 Calls Tryz.prog 82 #[.pointer (some ⟨p,0,none⟩),.pointer (some ⟨pm,0,none⟩)] w (Jl w p pm qm c {s' with nx:=nx} M' t'):=by
 have q8:w.cell? ⟨p,8,none⟩=some (.func (.func 251) #[.pointer (some ⟨p,0,none⟩)] #[]):=by
  have:=cell_of (i:=8) h rfl
  rw [hn] at this
  exact this
 have HC:=Lib.hid hC;have HP:=Lib.hid hp
 clear hC h
 have e1:=fun (wx:World)=>Jg (P:=Tryz.prog) wx Tryz.underlying178 (.func 251) #[.pointer (some ⟨p,0,none⟩)] #[]
 have e2:=fun (wx:World)=>run_eql_nil_nil (P:=Tryz.prog) wx Tryz.underlying178
 have e3:=fun (wx:World) (f':FuncId)=>QZ (P:=Tryz.prog) wx Tryz.underlying178 (.func f') #[.pointer (some ⟨p,0,none⟩)] #[]
 go_in
 go_wp2_with fail
 refine HC.out.mono ?_
 rintro en w1 ⟨rfl,h1,hm1,f1⟩
 have r8:=cell_of (i:=8) h1 rfl
 have z8:=Q9 (i:=8) h1
 have hs:=h1.GK nx
 have HS:=Lib.hid hs
 have HM:=Lib.hid (hm1.fr ((Fr.refl [p] w1).sc p 8 (nx.val p)) (by simp;exact Ne.symm HP.out.1) (by simp;exact Ne.symm HP.out.2))
 have HF:=Lib.hid (f1.sc p 8 (nx.val p))
 have v8:(w1.setCell ⟨p,8,none⟩ (nx.val p)).cell? ⟨p,8,none⟩=some (nx.val p):=cell_of (i:=8) hs rfl
 clear h1 hm1 f1 hs q8
 cases hf:nx.fn with
 |none=>
  have HQ:=Lib.hid (show Jl w p pm qm c {s' with nx:=nx} M' t' (.returned (.bool true)) (w1.setCell ⟨p,8,none⟩ (nx.val p)) from ⟨by show _=Ending.returned (.bool nx.fn.isNone);rw [hf];rfl,HS.out,HM.out,HF.out⟩)
  rw [QSt.XY hf p] at v8 HQ ⊢
  go_wp2
  go_ret
  exact HQ.out
 |some f'=>
  have HQ:=Lib.hid (show Jl w p pm qm c {s' with nx:=nx} M' t' (.returned (.bool false)) (w1.setCell ⟨p,8,none⟩ (nx.val p)) from ⟨by show _=Ending.returned (.bool nx.fn.isNone);rw [hf];rfl,HS.out,HM.out,HF.out⟩)
  rw [QSt.V5 hf p] at v8 HQ ⊢
  go_wp2
  go_ret
  exact HQ.out
theorem Q2p (w:World) (p pm qm:Nat) (c:Q0) (s s':QuS) (nx:QSt) (M':List Int) (t':Int) (h:J9 w p c s) (hp:p≠pm∧p≠qm) (hn:s.nx=.tell)
 (hC:Calls Tryz.prog 267 #[.pointer (some ⟨p,0,none⟩),.pointer (some ⟨pm,0,none⟩)] w (JB w p pm qm c s' nx M' t')):
 Calls Tryz.prog 82 #[.pointer (some ⟨p,0,none⟩),.pointer (some ⟨pm,0,none⟩)] w (Jl w p pm qm c {s' with nx:=nx} M' t'):=by
 have q8:w.cell? ⟨p,8,none⟩=some (.func (.func 267) #[.pointer (some ⟨p,0,none⟩)] #[]):=by
  have:=cell_of (i:=8) h rfl
  rw [hn] at this
  exact this
 have HC:=Lib.hid hC;have HP:=Lib.hid hp
 clear hC h
 have e1:=fun (wx:World)=>Jg (P:=Tryz.prog) wx Tryz.underlying178 (.func 267) #[.pointer (some ⟨p,0,none⟩)] #[]
 have e2:=fun (wx:World)=>run_eql_nil_nil (P:=Tryz.prog) wx Tryz.underlying178
 have e3:=fun (wx:World) (f':FuncId)=>QZ (P:=Tryz.prog) wx Tryz.underlying178 (.func f') #[.pointer (some ⟨p,0,none⟩)] #[]
 go_in
 go_wp2_with fail
 refine HC.out.mono ?_
 rintro en w1 ⟨rfl,h1,hm1,f1⟩
 have r8:=cell_of (i:=8) h1 rfl
 have z8:=Q9 (i:=8) h1
 have hs:=h1.GK nx
 have HS:=Lib.hid hs
 have HM:=Lib.hid (hm1.fr ((Fr.refl [p] w1).sc p 8 (nx.val p)) (by simp;exact Ne.symm HP.out.1) (by simp;exact Ne.symm HP.out.2))
 have HF:=Lib.hid (f1.sc p 8 (nx.val p))
 have v8:(w1.setCell ⟨p,8,none⟩ (nx.val p)).cell? ⟨p,8,none⟩=some (nx.val p):=cell_of (i:=8) hs rfl
 clear h1 hm1 f1 hs q8
 cases hf:nx.fn with
 |none=>
  have HQ:=Lib.hid (show Jl w p pm qm c {s' with nx:=nx} M' t' (.returned (.bool true)) (w1.setCell ⟨p,8,none⟩ (nx.val p)) from ⟨by show _=Ending.returned (.bool nx.fn.isNone);rw [hf];rfl,HS.out,HM.out,HF.out⟩)
  rw [QSt.XY hf p] at v8 HQ ⊢
  go_wp2
  go_ret
  exact HQ.out
 |some f'=>
  have HQ:=Lib.hid (show Jl w p pm qm c {s' with nx:=nx} M' t' (.returned (.bool false)) (w1.setCell ⟨p,8,none⟩ (nx.val p)) from ⟨by show _=Ending.returned (.bool nx.fn.isNone);rw [hf];rfl,HS.out,HM.out,HF.out⟩)
  rw [QSt.V5 hf p] at v8 HQ ⊢
  go_wp2
  go_ret
  exact HQ.out
theorem X3 (w:World) (p pm qm:Nat) (c:Q0) (s s':QuS) (nx:QSt) (M':List Int) (t':Int) (f:FuncId) (h:J9 w p c s) (hp:p≠pm∧p≠qm) (hn:s.nx.fn=some f)
 (hC:Calls Tryz.prog f #[.pointer (some ⟨p,0,none⟩),.pointer (some ⟨pm,0,none⟩)] w (JB w p pm qm c s' nx M' t')):
 Calls Tryz.prog 82 #[.pointer (some ⟨p,0,none⟩),.pointer (some ⟨pm,0,none⟩)] w (Jl w p pm qm c {s' with nx:=nx} M' t'):=by
 cases hx:s.nx with
 |come=>rw [hx] at hn;injection hn with hn;subst hn;exact Q2v w p pm qm c s s' nx M' t' h hp hx hC
 |push=>rw [hx] at hn;injection hn with hn;subst hn;exact Q2q w p pm qm c s s' nx M' t' h hp hx hC
 |closed=>rw [hx] at hn;injection hn with hn;subst hn;exact EF w p pm qm c s s' nx M' t' h hp hx hC
 |look=>rw [hx] at hn;injection hn with hn;subst hn;exact Q2r w p pm qm c s s' nx M' t' h hp hx hC
 |drop=>rw [hx] at hn;injection hn with hn;subst hn;exact Q2t w p pm qm c s s' nx M' t' h hp hx hC
 |head=>rw [hx] at hn;injection hn with hn;subst hn;exact Q2s w p pm qm c s s' nx M' t' h hp hx hC
 |pop=>rw [hx] at hn;injection hn with hn;subst hn;exact Q4K w p pm qm c s s' nx M' t' h hp hx hC
 |tell=>rw [hx] at hn;injection hn with hn;subst hn;exact Q2p w p pm qm c s s' nx M' t' h hp hx hC
 |done=>rw [hx] at hn;cases hn
theorem Y9 {w:World} {o:Obj} {b:Nat} (h:b=w.heap.size):(w.alloc o).heap[b]?=some o:=by subst h;exact heap_alloc_new w o
def QNew (w:World) (c:Q0) (s:QuS) (en:Ending) (w':World):Prop:=∃p,en=.returned (.pointer (some ⟨p,0,none⟩))∧w.heap.size≤p∧J9 w' p c s∧Fr [] w w'
theorem Q5x (w:World) (c:Q0) (who:Int):Calls Tryz.prog 177 #[c.val,.int .i64 who] w (QNew w c ⟨who,[],0,.come,0,0⟩):=by
 obtain ⟨wo,sl,st,wa,us⟩:=c
 unfold Q0.val
 have hb1:=heap_alloc_new (w.alloc (.cells #[.int .i64 wo,.int .i64 sl,.int .i64 st,.int .i64 wa,.int .i64 us] 30)) (.cells #[.int .i64 wo,.int .i64 sl,.int .i64 st,.int .i64 wa,.int .i64 us,.int .i64 who,.int .i64 0,.int .i64 0,.nilFunc,.int .i64 0,.int .i64 0] 180)
 have q8:=cell_of (i:=8) hb1 rfl
 have z8:=Q9 (i:=8) hb1
 rw [World.size_alloc] at q8 z8
 clear hb1
 go_in
 go_wp2
 go_ret
 exact ⟨_,rfl,by omega,Y9 (by simp),((Fr.refl [] w).alloc _).alloc _⟩
theorem Q5k (w:World) (c:Q0) (who:Int):Calls Tryz.prog 86 #[c.val,.int .i64 who] w (QNew w c ⟨who,[],0,.look,4,0⟩):=by
 obtain ⟨wo,sl,st,wa,us⟩:=c
 unfold Q0.val
 have hb1:=heap_alloc_new (w.alloc (.cells #[.int .i64 wo,.int .i64 sl,.int .i64 st,.int .i64 wa,.int .i64 us] 30)) (.cells #[.int .i64 wo,.int .i64 sl,.int .i64 st,.int .i64 wa,.int .i64 us,.int .i64 who,.int .i64 0,.int .i64 0,.nilFunc,.int .i64 4,.int .i64 0] 180)
 have q8:=cell_of (i:=8) hb1 rfl
 have z8:=Q9 (i:=8) hb1
 rw [World.size_alloc] at q8 z8
 clear hb1
 go_in
 go_wp2
 go_ret
 exact ⟨_,rfl,by omega,Y9 (by simp),((Fr.refl [] w).alloc _).alloc _⟩
theorem E8 (w:World) (c:Q0):Calls Tryz.prog 164 #[c.val] w (QNew w c ⟨0,[],0,.head,0,0⟩):=by
 obtain ⟨wo,sl,st,wa,us⟩:=c
 unfold Q0.val
 have hb1:=heap_alloc_new (w.alloc (.cells #[.int .i64 wo,.int .i64 sl,.int .i64 st,.int .i64 wa,.int .i64 us] 30)) (.cells #[.int .i64 wo,.int .i64 sl,.int .i64 st,.int .i64 wa,.int .i64 us,.int .i64 0,.int .i64 0,.int .i64 0,.nilFunc,.int .i64 0,.int .i64 0] 180)
 have q8:=cell_of (i:=8) hb1 rfl
 have z8:=Q9 (i:=8) hb1
 rw [World.size_alloc] at q8 z8
 clear hb1
 go_in
 go_wp2
 go_ret
 exact ⟨_,rfl,by omega,Y9 (by simp),((Fr.refl [] w).alloc _).alloc _⟩
theorem UM (w:World) (p:Nat) (c:Q0) (s:QuS) (h:J9 w p c s):
 Calls Tryz.prog 83 #[.pointer (some ⟨p,0,none⟩)] w fun en w'=>en=.returned (.tuple #[.int .i64 s.e,.bool s.nx.fn.isNone])∧Fr [] w w':=by
 have q10:=cell_of (i:=10) h rfl
 have q8:w.cell? ⟨p,8,none⟩=some (s.nx.val p):=cell_of (i:=8) h rfl
 have e2:=fun (wx:World)=>run_eql_nil_nil (P:=Tryz.prog) wx Tryz.underlying178
 have e3:=fun (wx:World) (f':FuncId)=>QZ (P:=Tryz.prog) wx Tryz.underlying178 (.func f') #[.pointer (some ⟨p,0,none⟩)] #[]
 clear h
 cases hf:s.nx.fn with
 |none=>
  rw [QSt.XY hf p] at q8
  go_in
  go_wp2_with fail
  refine wp_region_held_drew (S:=fun w'=>w'.cell? ⟨p,10,none⟩=some (.int .i64 s.e)∧w'.cell? ⟨p,8,none⟩=some (.nilFunc)) (by kernel_rfl) ⟨q10,q8⟩ (fun hHeld=> ?_)
  refine tk 0 ?_
  refine tk 1 ?_
  refine tk 2 ?_
  refine tk 3 ?_
  refine tk 4 ?_
  refine tk 5 ?_
  refine tk 6 ?_
  refine tk 7 ?_
  refine tk 8 ?_
  refine tk 9 ?_
  refine tk 10 ?_
  refine wpAnyH_done (by kernel_rfl) ?_ _
  go_wp2
  go_ret2
  exact ⟨rfl,(Fr.refl [] w).drew⟩
 |some f'=>
  rw [QSt.V5 hf p] at q8
  go_in
  go_wp2_with fail
  refine wp_region_held_drew (S:=fun w'=>w'.cell? ⟨p,10,none⟩=some (.int .i64 s.e)∧w'.cell? ⟨p,8,none⟩=some ((.func (.func f') #[.pointer (some ⟨p,0,none⟩)] #[]))) (by kernel_rfl) ⟨q10,q8⟩ (fun hHeld=> ?_)
  refine tk 0 ?_
  refine tk 1 ?_
  refine tk 2 ?_
  refine tk 3 ?_
  refine tk 4 ?_
  refine tk 5 ?_
  refine tk 6 ?_
  refine tk 7 ?_
  refine tk 8 ?_
  refine tk 9 ?_
  refine tk 10 ?_
  refine wpAnyH_done (by kernel_rfl) ?_ _
  go_wp2
  go_ret2
  exact ⟨rfl,(Fr.refl [] w).drew⟩
theorem Q0Q (w:World) (p pm qm:Nat) (c:Q0) (s:QuS) (M:List Int) (t:Int) (h:J9 w p c s) (hM:QD 112 w pm qm M t) (ht0:0≤t) (ht1:t≤1000000000) (hp:p≠pm∧p≠qm) (hL:Ln s.line):
 Calls Tryz.prog 251 #[.pointer (some ⟨p,0,none⟩),.pointer (some ⟨pm,0,none⟩)] w
  (JB w p pm qm c s (if Qv M 1 (wd s.line)=true then .tell else .head) (QL M 1 (wd s.line) (wd s.line.tail:Int)) (t+tch M 1)):=by
 by_cases hcs:Qv M 1 (wd s.line)=true
 · rw [if_pos hcs]
   have HCS:=Lib.hid hcs
   clear hcs
   have q6:=cell_of (i:=6) h rfl
   have H:=Lib.hid h;have HP:=Lib.hid hp;have HM:=Lib.hid hM
   clear h hM hp
   go_in
   go_wp2_with fail
   refine wp_region_held_drew (S:=fun w'=>w'.cell? ⟨p,6,none⟩=some (.int .i64 (wd s.line:Int))) (by kernel_rfl) q6 (fun hHeld=> ?_)
   refine tk 0 ?_
   refine tk 1 ?_
   refine tk 2 ?_
   refine tk 3 ?_
   refine tk 4 ?_
   refine tk 5 ?_
   refine tk 6 ?_
   refine tk 7 ?_
   refine tk 8 ?_
   refine tc 9 (fun K hK=> ?_)
   go_simp
   refine (Q6S w.drew s.line hL).mono ?_
   rintro en w3 ⟨rfl,f3⟩
   have F3:=(Fr.refl [] w).drew.trans f3
   have hcas:=Vj w3 pm qm M t 1 (wd s.line) (wd s.line.tail:Int) (HM.out.fr F3 (by simp) (by simp)) ht0 (by omega)
   rw [HCS.out] at hcas
   have HCAS:=Lib.hid hcas
   clear hcas
   go_wp2_with fail
   refine hK.out _ _ (F3.cell q6 (by simp)) (fun hHeld=> ?_)
   clear hK K
   try go_frame
   refine tc 10 (fun K hK=> ?_)
   go_simp
   refine (HCAS.out).mono ?_
   rintro en w4 ⟨rfl,hm4,f4⟩
   go_wp2_with fail
   refine hK.out _ _ (f4.cell (F3.cell q6 (by simp)) (by simp;exact HP.out)) (fun hHeld=> ?_)
   clear hK K
   try go_frame
   refine wpAnyH_done (by kernel_rfl) ?_ _
   have HQ:=Lib.hid (show JB w p pm qm c s .tell _ _ (.returned (QSt.val p .tell)) w4 from ⟨rfl,(H.out.fr F3 (by simp)).fr f4 (by simp;exact HP.out),hm4,(F3.mono (by simp)).trans (f4.mono (by simp+contextual))⟩)
   go_wp2
   go_ret
   exact HQ.out
 · rw [if_neg hcs]
   have HCS:=Lib.hid (show Qv M 1 (wd s.line)=false by simpa using hcs)
   clear hcs
   have q6:=cell_of (i:=6) h rfl
   have H:=Lib.hid h;have HP:=Lib.hid hp;have HM:=Lib.hid hM
   clear h hM hp
   go_in
   go_wp2_with fail
   refine wp_region_held_drew (S:=fun w'=>w'.cell? ⟨p,6,none⟩=some (.int .i64 (wd s.line:Int))) (by kernel_rfl) q6 (fun hHeld=> ?_)
   refine tk 0 ?_
   refine tk 1 ?_
   refine tk 2 ?_
   refine tk 3 ?_
   refine tk 4 ?_
   refine tk 5 ?_
   refine tk 6 ?_
   refine tk 7 ?_
   refine tk 8 ?_
   refine tc 9 (fun K hK=> ?_)
   go_simp
   refine (Q6S w.drew s.line hL).mono ?_
   rintro en w3 ⟨rfl,f3⟩
   have F3:=(Fr.refl [] w).drew.trans f3
   have hcas:=Vj w3 pm qm M t 1 (wd s.line) (wd s.line.tail:Int) (HM.out.fr F3 (by simp) (by simp)) ht0 (by omega)
   rw [HCS.out] at hcas
   have HCAS:=Lib.hid hcas
   clear hcas
   go_wp2_with fail
   refine hK.out _ _ (F3.cell q6 (by simp)) (fun hHeld=> ?_)
   clear hK K
   try go_frame
   refine tc 10 (fun K hK=> ?_)
   go_simp
   refine (HCAS.out).mono ?_
   rintro en w4 ⟨rfl,hm4,f4⟩
   go_wp2_with fail
   refine hK.out _ _ (f4.cell (F3.cell q6 (by simp)) (by simp;exact HP.out)) (fun hHeld=> ?_)
   clear hK K
   try go_frame
   refine wpAnyH_done (by kernel_rfl) ?_ _
   have HQ:=Lib.hid (show JB w p pm qm c s .head _ _ (.returned (QSt.val p .head)) w4 from ⟨rfl,(H.out.fr F3 (by simp)).fr f4 (by simp;exact HP.out),hm4,(F3.mono (by simp)).trans (f4.mono (by simp+contextual))⟩)
   go_wp2
   go_ret
   exact HQ.out
def Q0.fits (c:Q0):Prop:=(1≤c.wo∧c.wo≤8)∧(1≤c.sl∧c.sl≤16)∧(0≤c.st∧c.st≤8)∧(0≤c.wa∧c.wa≤8)∧(1≤c.us∧c.us≤60)
theorem Q0.small.fits {c:Q0} (h:c.small):c.fits:=by
 obtain ⟨h1,h2,h3,h4,h5⟩:=h
 exact ⟨by omega,by omega,by omega,by omega,by omega⟩
theorem Wp (w:World) (c:Q0) (hc:c.fits):Calls Tryz.prog 31 #[c.val] w fun e w'=>e=.returned (.bool true)∧Fr [] w w':=by
 obtain ⟨wo,sl,st,wa,us⟩:=c
 obtain ⟨⟨a0,a1⟩,⟨b0,b1⟩,⟨c0,c1⟩,⟨d0,d1⟩,⟨e0,e1⟩⟩:=hc
 unfold Q0.val
 simp only at a0 a1 b0 b1 c0 c1 d0 d1 e0 e1
 have hfr:=(Fr.refl [] w).alloc (.cells #[.int .i64 wo,.int .i64 sl,.int .i64 st,.int .i64 wa,.int .i64 us] 30)
 have HF:=Lib.hid hfr;clear hfr
 go_in
 go_wp2_with fail
 refine (ZN _ 1 wo 8 (by omega) (by omega)).mono ?_
 rintro e w1 ⟨rfl,rfl⟩
 go_wp2_with fail
 refine (ZN _ 1 sl 16 (by omega) (by omega)).mono ?_
 rintro e w1 ⟨rfl,rfl⟩
 go_wp2_with fail
 refine (ZN _ 0 st 8 (by omega) (by omega)).mono ?_
 rintro e w1 ⟨rfl,rfl⟩
 go_wp2_with fail
 refine (ZN _ 0 wa 8 (by omega) (by omega)).mono ?_
 rintro e w1 ⟨rfl,rfl⟩
 go_wp2_with fail
 refine (ZN _ 1 us 60 (by omega) (by omega)).mono ?_
 rintro e w1 ⟨rfl,rfl⟩
 go_wp2
 go_ret
 exact ⟨rfl,HF.out⟩
theorem Q1H (w:World) (c:Q0) (hc:c.fits):Calls Tryz.prog 49 #[c.val] w fun e w'=>e=.returned (.int .i64 c.cells)∧Fr [] w w':=by
 obtain ⟨wo,sl,st,wa,us⟩:=c
 obtain ⟨⟨a0,a1⟩,⟨b0,b1⟩, -⟩:=hc
 unfold Q0.val Q0.cells
 simp only at a0 a1 b0 b1
 have hfr:=(Fr.refl [] w).alloc (.cells #[.int .i64 wo,.int .i64 sl,.int .i64 st,.int .i64 wa,.int .i64 us] 30)
 have HF:=Lib.hid hfr;clear hfr
 go_in
 go_wp2
 go_ret
 exact ⟨rfl,HF.out⟩
theorem Q5K (w:World) (c:Q0) (hc:c.fits):
 Calls Tryz.prog 32 #[c.val] w fun e w'=>∃p q,e=.returned (.tuple #[.pointer (some ⟨p,0,none⟩),.int .i64 0])∧w.heap.size≤p∧w.heap.size≤q∧QD 112 w' p q (List.replicate c.cells.toNat 0) 0∧Fr [] w w':=by
 have hn1:1≤c.cells:=by have:=hc.1;have:=hc.2.1;unfold Q0.cells;omega
 have hn2:c.cells≤4096:=by have:=hc.1;have:=hc.2.1;unfold Q0.cells;omega
 have HS:=Lib.hid hc
 have HN:=Lib.hid (fun W:World=>Q93 c.cells W hn1 hn2)
 have h1:=Lib.hid (fun W:World=>Wp W c hc)
 have h2:=Lib.hid (fun W:World=>Q1H W c hc)
 clear hc
 obtain ⟨wo,sl,st,wa,us⟩:=c
 have hfr:=(Fr.refl [] w).alloc (.cells #[.int .i64 wo,.int .i64 sl,.int .i64 st,.int .i64 wa,.int .i64 us] 30)
 have hbk:=heap_alloc_new w (.cells #[.int .i64 wo,.int .i64 sl,.int .i64 st,.int .i64 wa,.int .i64 us] 30)
 have HF:=Lib.hid hfr;have HB:=Lib.hid hbk;clear hfr hbk
 unfold Q0.val at h1 h2 ⊢
 simp only at h1 h2
 generalize Q0.cells ⟨wo,sl,st,wa,us⟩=nn at*
 go_in
 go_wp2_with fail
 refine (h1.out _).mono ?_
 rintro e w1 ⟨rfl,f1⟩
 have hb1:=f1.at HB.out (by simp)
 have x0:w1.cell? ⟨w.heap.size,0,none⟩=some (.int .i64 wo):=cell_of hb1 rfl
 have x1:w1.cell? ⟨w.heap.size,1,none⟩=some (.int .i64 sl):=cell_of hb1 rfl
 have x2:w1.cell? ⟨w.heap.size,2,none⟩=some (.int .i64 st):=cell_of hb1 rfl
 have x3:w1.cell? ⟨w.heap.size,3,none⟩=some (.int .i64 wa):=cell_of hb1 rfl
 have x4:w1.cell? ⟨w.heap.size,4,none⟩=some (.int .i64 us):=cell_of hb1 rfl
 have F1:=HF.out.trans f1
 clear hb1 f1
 go_wp2_with fail
 refine (h2.out _).mono ?_
 rintro e w2 ⟨rfl,f2⟩
 have F2:=F1.trans f2
 clear F1 f2 x0 x1 x2 x3 x4
 go_wp2_with fail
 refine (HN.out _).mono ?_
 rintro e w3 ⟨p,q,rfl,hp,hq,hm,f3⟩
 have F3:=F2.trans f3
 have hs:=F2.size
 clear f3 F2
 have HM:=Lib.hid hm;clear hm
 go_wp2
 go_ret2
 exact ⟨p,q,rfl,by omega,by omega,HM.out,F3⟩
theorem info_parts {P:Program} {t:TypeId} {z:Option Value} {s b:Nat} (h:(P.info? t).map (fun i=>(i.zero,i.size,i.bytes))=some (z,s,b)):∃i,P.info? t=some i∧i.zero=z∧i.size=s∧i.bytes=b:=by
 cases hi:P.info? t with
 |none=>rw [hi] at h;cases h
 |some i=>
  rw [hi] at h
  simp only [Option.map_some,Option.some.injEq,Prod.mk.injEq] at h
  exact ⟨i,rfl,h.1,h.2.1,h.2.2⟩
def WH (w:World) (g:Option Addr) (L:List Int):Prop:=
 L.length≤9223372036854775807∧(∀n∈L,0≤n∧n≤255)∧∀(j:Nat) (y:Int),L[j]?=some y→∃b o,g=some ⟨b,o,none⟩∧w.cell? ⟨b,o+j,none⟩=some (.int .u8 y)
theorem WH.fr {w w':World} {g:Option Addr} {L:List Int} (h:WH w g L) (f:Fr [] w w'):WH w' g L:=
 ⟨h.1,h.2.1,fun j y hy=>let ⟨b,o,hg,hc⟩:=h.2.2 j y hy;⟨b,o,hg,f.cell hc (by simp)⟩⟩
end
end Go.Proofs.YtgjklfmnmljilaaGreatDoor
