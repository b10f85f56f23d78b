/- A part of the proof: TpZp to TpAa. -/
import Derived.Test.YtgjklfmnmljilaaGreatDoorZT03
import Derived.Test.YtgjklfmnmljilaaGreatDoorZT25
namespace Go.Proofs.YtgjklfmnmljilaaGreatDoor
set_option linter.unusedVariables false
set_option linter.unusedSimpArgs false
set_option linter.unusedSectionVars false
set_option linter.unnecessarySimpa false
set_option maxRecDepth 100000
set_option maxHeartbeats 8000000
section
open Go.RowKit Go.Shelf Go.Lib
attribute [local go_sem] Oper.semAt_some
variable (w:World) (pM pW pm pc pw n who:Nat) (ve:Value) (c:Q0) (ent mat:Int) (f:Nat→List Value) (k:Qa) (v:Ja)
abbrev Q1k:Array Value:=#[.func (.func 55) #[] #[],.func (.func 56) #[] #[],.func (.func 57) #[] #[],.func (.func 58) #[] #[],.func (.func 59) #[] #[],.func (.func 60) #[] #[],.func (.func 61) #[] #[],.func (.func 62) #[] #[],.func (.func 63) #[] #[]]
theorem GY (w:World):Calls Tryz.prog 40 #[] w fun e w'=>e=.returned (.agg Q1k)∧Fr [] w w':=by
 go_in
 go_wp2
 have hl:=run_loadVar_new (P:=Tryz.prog) w 100 Q1k 9 99 (by kernel_rfl) (by kernel_rfl)
 refine ⟨rfl,.agg Q1k, ?_,rfl,(Fr.refl [] w).alloc _⟩
 unfold Q1k at hl ⊢
 generalize (#[_,_,_,_,_,_,_,_,_]:Array Value)=A at hl ⊢
 have e:results Tryz.f40 #[.pointer (some {block:=w.heap.size,off:=0}),.agg A]=(do let v ←loadVar 100 ⟨w.heap.size,0,none⟩;pure v):=by
  simp [results,Tryz.f40,go_sem]
 rw [e]
 simp only [Sem.run_bind,hl,Result.andThen_ok,Sem.run_pure]
def Ut:List FuncId:=[55,56,57,58,59,60,61,62,63]
theorem Us (k:Nat) (hk:k<9) (args:Array Value) (w:World):(callFunc (Ut.getD k 0) args).run Tryz.prog w=.ok (.enter (Ut.getD k 0) args) w:=by
 match k,hk with
 |0,_=>exact Qr Tryz.func55 (by kernel_rfl) rfl args w
 |1,_=>exact Qr Tryz.func56 (by kernel_rfl) rfl args w
 |2,_=>exact Qr Tryz.func57 (by kernel_rfl) rfl args w
 |3,_=>exact Qr Tryz.func58 (by kernel_rfl) rfl args w
 |4,_=>exact Qr Tryz.func59 (by kernel_rfl) rfl args w
 |5,_=>exact Qr Tryz.func60 (by kernel_rfl) rfl args w
 |6,_=>exact Qr Tryz.func61 (by kernel_rfl) rfl args w
 |7,_=>exact Qr Tryz.func62 (by kernel_rfl) rfl args w
 |8,_=>exact Qr Tryz.func63 (by kernel_rfl) rfl args w
 |k+9,hk=>exact absurd hk (by omega)
theorem Q98 (k:Nat) (hk:k<9) (wx:World):(Instr.index 100 (.agg Q1k) (.int .i64 (k:Int))).run Tryz.prog wx=.ok (.func (.func (Ut.getD k 0)) #[] #[]) wx:=by
 match k,hk with
 |0,_=>exact (show _=_ by kernel_rfl)
 |1,_=>exact (show _=_ by kernel_rfl)
 |2,_=>exact (show _=_ by kernel_rfl)
 |3,_=>exact (show _=_ by kernel_rfl)
 |4,_=>exact (show _=_ by kernel_rfl)
 |5,_=>exact (show _=_ by kernel_rfl)
 |6,_=>exact (show _=_ by kernel_rfl)
 |7,_=>exact (show _=_ by kernel_rfl)
 |8,_=>exact (show _=_ by kernel_rfl)
 |k+9,hk=>exact absurd hk (by omega)
theorem Zm (w:World) (pM pW pm pc pw n:Nat) (ve:Value) (c:Q0) (ent mat:Int) (hMB:QB w pM pW pm pc pw n ve c ent mat) (x:Int):Calls Tryz.prog 24 #[.pointer (some ⟨pM,0,none⟩),.int .i64 x] w fun e w'=>e=.returned (.bool (decide (0≤x)&&decide (x<(n:Int))))∧Fr [] w w':=by
 have q9:=(Bag.one hMB).q 0
 by_cases h0:0≤x<;>by_cases h1:x<(n:Int)
 all_goals
  simp only [h0,h1,decide_true,decide_false,Bool.and_true,Bool.and_false]
  go_in
  go_wp2_with fail
  try go_region
  all_goals go_wp2
  all_goals go_ret
  all_goals exact ⟨rfl,by first|exact Fr.refl _ _|exact (Fr.refl [] w).drew⟩
theorem Q18 (hMB:QB w pM pW pm pc pw n ve c ent mat) (hW:QA w pW n (upd f who (k.cells v))) (hk:who<n) (hne:pM≠pW) (hst:k.st=0):
 Calls Tryz.prog 26 #[.pointer (some ⟨pM,0,none⟩),.int .i64 who] w fun e w'=>e=.returned (.bool false)∧Fr [] w w':=by
 have HHA:=hid (Zm w pM pW pm pc pw n ve c ent mat hMB who)
 rw [decide_eq_true (by omega),decide_eq_true (by omega)] at HHA
 have B:Bag [pW] w [tRo false pM _ _,tW pW n f who _] w:=Zn hMB hW hne
 rw [Qa.cells,hst] at B
 clear hMB hW hne
 have m:=B.q 0
 go_in
 go_wp2_with fail
 refine HHA.out.mono ?_
 rintro e w1 ⟨rfl,f1⟩
 replace B:=B.tm f1
 clear m
 have q:=B.wq 1 hk;have q0:=B.wq0 1 hk;have m:=B.q 0
 go_wp2_with fail
 go_ret
 exact ⟨rfl,f1⟩
theorem EJ (hMB:QB w pM pW pm pc pw n ve c ent mat) (hW:QA w pW n (upd f who (k.cells v))) (hk:who<n) (hne:pM≠pW) (hst:k.st=6) (HMW:∀w',Fr [] w w'→Calls Tryz.prog 39 #[.pointer (some ⟨pM,0,none⟩),.int .i64 who] w' fun e w2=>e=.returned (.bool false)∧Fr [] w' w2):
 Calls Tryz.prog 26 #[.pointer (some ⟨pM,0,none⟩),.int .i64 who] w fun e w'=>e=.returned (.bool false)∧Fr [] w w':=by
 have HHA:=hid (Zm w pM pW pm pc pw n ve c ent mat hMB who)
 rw [decide_eq_true (by omega),decide_eq_true (by omega)] at HHA
 have B:Bag [pW] w [tRo false pM _ _,tW pW n f who _] w:=Zn hMB hW hne
 rw [Qa.cells,hst] at B
 have HMX:=hid HMW
 clear HMW
 clear hMB hW hne
 have m:=B.q 0
 go_in
 go_wp2_with fail
 refine HHA.out.mono ?_
 rintro e w1 ⟨rfl,f1⟩
 replace B:=B.tm f1
 clear m
 have q:=B.wq 1 hk;have q0:=B.wq0 1 hk;have m:=B.q 0
 go_wp2_with fail
 refine (HMX.out _ f1).mono ?_
 rintro e w2 ⟨rfl,f2⟩
 go_wp2
 go_ret
 exact ⟨rfl,f1.trans f2⟩
theorem Q2N (hMB:QB w pM pW pm pc pw n ve c ent mat) (hW:QA w pW n (upd f who (k.cells v))) (hk:who<n) (hne:pM≠pW) (hst:k.st≠0∧k.st≠6) (fn:FuncId) (A:Array Value) (hA:∀w,Calls Tryz.prog 40 #[] w fun e w'=>e=.returned (.agg A)∧Fr [] w w') (hix:∀wx:World,(Instr.index 100 (.agg A) (.int .i64 k.st)).run Tryz.prog wx=.ok (.func (.func fn) #[] #[]) wx) (hcf:∀(args:Array Value) (wx:World),(callFunc fn args).run Tryz.prog wx=.ok (.enter fn args) wx) (X:World→Prop) (HC:∀w',Fr [] w w'→Calls Tryz.prog fn #[.pointer (some ⟨pM,0,none⟩),.int .i64 who] w' fun e w2=>e=.returned (.tuple #[])∧X w2):
 Calls Tryz.prog 26 #[.pointer (some ⟨pM,0,none⟩),.int .i64 who] w fun e w'=>e=.returned (.bool true)∧X w':=by
 have HHA:=hid (Zm w pM pW pm pc pw n ve c ent mat hMB who)
 rw [decide_eq_true (by omega),decide_eq_true (by omega)] at HHA
 have B:Bag [pW] w [tRo false pM _ _,tW pW n f who _] w:=Zn hMB hW hne
 dsimp only [Qa.cells] at B
 have e0:(k.st==0)=false:=by simp [hst.1]
 have e6:(k.st==6)=false:=by simp [hst.2]
 have HAA:=hid hA;have HCC:=hid HC
 clear hA HC
 clear hMB hW hne
 have m:=B.q 0
 go_in
 go_wp2_with fail
 refine HHA.out.mono ?_
 rintro e w1 ⟨rfl,f1⟩
 replace B:=B.tm f1
 clear m
 have q:=B.wq 1 hk;have q0:=B.wq0 1 hk;have m:=B.q 0
 go_wp2_with fail
 have f0:=f1
 clear q q0 m
 have f0:=f0.drew
 replace B:=B.drew
 refine wp_region_held_drew (S:=fun _=>True) (by kernel_rfl) trivial fun hHeld=> ?_
 refine tk 1 ?_
 refine tk 2 ?_
 refine tk 3 ?_
 refine tk 6 ?_
 refine tk 7 ?_
 have q0:=B.wq0 1 hk
 refine wpAnyH_ready (rs:=[0,4]) (by decide+kernel) (by simp) ?_
 refine AllReadyH.cons (o:=_) rfl (fun K hK=> ?_) (AllReadyH.cons (o:=_) rfl (fun K hK=> ?_) AllReadyH.nil)
 all_goals try simp only [List.getElem_toArray,List.getElem_cons_succ,List.getElem_cons_zero]
 go_simp
 refine (HAA.out _).mono ?_
 rintro e w3 ⟨rfl,f3⟩
 go_wp2_with fail
 refine hK.out _ _ trivial fun hHeld=> ?_
 clear hK K
 try go_frame
 have q0:=(B.tm f3).wq0 1 hk
 refine tc 4 fun K hK=> ?_
 go_simp
 refine hK.out _ _ trivial fun hHeld=> ?_
 clear hK K
 try go_frame
 rotate_left
 go_simp
 refine hK.out _ _ trivial fun hHeld=> ?_
 clear hK K
 try go_frame
 refine tc 0 fun K hK=> ?_
 go_simp
 refine (HAA.out _).mono ?_
 rintro e w3 ⟨rfl,f3⟩
 go_wp2_with fail
 refine hK.out _ _ trivial fun hHeld=> ?_
 clear hK K
 try go_frame
 all_goals
  refine tk 5 ?_
  refine tc 8 fun K hK=> ?_
  go_simp
  refine (HCC.out _ (f0.trans f3)).mono ?_
  rintro e w9 ⟨rfl,hX⟩
  go_wp2_with fail
  refine hK.out _ _ trivial fun hHeld=> ?_
  clear hK K
  try go_frame
  refine wpAnyH_done (by decide+kernel) ?_ _
  go_wp2_with fail
  go_ret
  exact ⟨rfl,hX⟩
theorem Q17 (hMB:QB w pM pW pm pc pw n ve c ent mat) (hW:QA w pW n (upd f who (k.cells v))) (hk:who<n) (hne:pM≠pW) (hst:k.st=6) (HMW:∀w',Fr [] w w'→Calls Tryz.prog 39 #[.pointer (some ⟨pM,0,none⟩),.int .i64 who] w' fun e w2=>e=.returned (.bool true)∧Fr [] w' w2) (fn:FuncId) (A:Array Value) (hA:∀w,Calls Tryz.prog 40 #[] w fun e w'=>e=.returned (.agg A)∧Fr [] w w') (hix:∀wx:World,(Instr.index 100 (.agg A) (.int .i64 k.st)).run Tryz.prog wx=.ok (.func (.func fn) #[] #[]) wx) (hcf:∀(args:Array Value) (wx:World),(callFunc fn args).run Tryz.prog wx=.ok (.enter fn args) wx) (X:World→Prop) (HC:∀w',Fr [] w w'→Calls Tryz.prog fn #[.pointer (some ⟨pM,0,none⟩),.int .i64 who] w' fun e w2=>e=.returned (.tuple #[])∧X w2):
 Calls Tryz.prog 26 #[.pointer (some ⟨pM,0,none⟩),.int .i64 who] w fun e w'=>e=.returned (.bool true)∧X w':=by
 have HHA:=hid (Zm w pM pW pm pc pw n ve c ent mat hMB who)
 rw [decide_eq_true (by omega),decide_eq_true (by omega)] at HHA
 have B:Bag [pW] w [tRo false pM _ _,tW pW n f who _] w:=Zn hMB hW hne
 rw [Qa.cells,hst] at B
 rw [hst] at hix
 have HAA:=hid hA;have HCC:=hid HC;have HMX:=hid HMW
 clear hA HC HMW hst
 clear hMB hW hne
 have m:=B.q 0
 go_in
 go_wp2_with fail
 refine HHA.out.mono ?_
 rintro e w1 ⟨rfl,f1⟩
 replace B:=B.tm f1
 clear m
 have q:=B.wq 1 hk;have q0:=B.wq0 1 hk;have m:=B.q 0
 go_wp2_with fail
 refine (HMX.out _ f1).mono ?_
 rintro e w2 ⟨rfl,f2⟩
 replace B:=B.tm f2
 have f0:=f1.trans f2
 clear q q0 m
 have q:=B.wq 1 hk;have q0:=B.wq0 1 hk;have m:=B.q 0
 go_wp2_with fail
 clear q q0 m
 have f0:=f0.drew
 replace B:=B.drew
 refine wp_region_held_drew (S:=fun _=>True) (by kernel_rfl) trivial fun hHeld=> ?_
 refine tk 1 ?_
 refine tk 2 ?_
 refine tk 3 ?_
 refine tk 6 ?_
 refine tk 7 ?_
 have q0:=B.wq0 1 hk
 refine wpAnyH_ready (rs:=[0,4]) (by decide+kernel) (by simp) ?_
 refine AllReadyH.cons (o:=_) rfl (fun K hK=> ?_) (AllReadyH.cons (o:=_) rfl (fun K hK=> ?_) AllReadyH.nil)
 all_goals try simp only [List.getElem_toArray,List.getElem_cons_succ,List.getElem_cons_zero]
 go_simp
 refine (HAA.out _).mono ?_
 rintro e w3 ⟨rfl,f3⟩
 go_wp2_with fail
 refine hK.out _ _ trivial fun hHeld=> ?_
 clear hK K
 try go_frame
 have q0:=(B.tm f3).wq0 1 hk
 refine tc 4 fun K hK=> ?_
 go_simp
 refine hK.out _ _ trivial fun hHeld=> ?_
 clear hK K
 try go_frame
 rotate_left
 go_simp
 refine hK.out _ _ trivial fun hHeld=> ?_
 clear hK K
 try go_frame
 refine tc 0 fun K hK=> ?_
 go_simp
 refine (HAA.out _).mono ?_
 rintro e w3 ⟨rfl,f3⟩
 go_wp2_with fail
 refine hK.out _ _ trivial fun hHeld=> ?_
 clear hK K
 try go_frame
 all_goals
  refine tk 5 ?_
  refine tc 8 fun K hK=> ?_
  go_simp
  refine (HCC.out _ (f0.trans f3)).mono ?_
  rintro e w9 ⟨rfl,hX⟩
  go_wp2_with fail
  refine hK.out _ _ trivial fun hHeld=> ?_
  clear hK K
  try go_frame
  refine wpAnyH_done (by decide+kernel) ?_ _
  go_wp2_with fail
  go_ret
  exact ⟨rfl,hX⟩
end
section
open Go.RowKit Go.Shelf Go.Lib
attribute [local go_sem] Oper.semAt_some
variable (w:World) (pM pW pm pc pw n who:Nat) (ve:Value) (c:Q0) (ent mat:Int) (f:Nat→List Value) (k:Qa) (v:Ja)
def QF.val (x:QF):Value:=.agg #[.int .i64 x.kind,.int .i64 x.who,.int .i64 x.ask.op,.int .i64 x.ask.dl,.bool x.ask.wait,.bool x.ask.force,.int .i64 x.ask.slot,.int .i64 x.ask.gen,.int .i64 x.ask.stream,.int .i64 x.n,.bool x.good]
theorem EM (w:World) (pM pW pm pc pw n:Nat) (ve:Value) (c:Q0) (ent mat:Int) (hMB:QB w pM pW pm pc pw n ve c ent mat) (x:QF) (hh:(decide (0≤x.who)&&decide (x.who<n))=false):Calls Tryz.prog 25 #[.pointer (some ⟨pM,0,none⟩),x.val] w fun e w'=>e=.returned (.bool false)∧Fr [] w w':=by
 have HHA:=hid fun w' h=>Zm w' pM pW pm pc pw n ve c ent mat h x.who
 rw [hh] at HHA
 unfold QF.val
 have B:=Bag.one hMB
 clear hMB hh
 obtain ⟨xk,xwho,⟨xop,xdl,xwt,xfc,xsl,xgn,xst⟩,xn,xgd⟩:=x
 dsimp only at HHA ⊢
 go_in
 go_wp2_with fail
 generalize hb:(World.heap _).size=pe,hw:World.alloc _ _=w1
 replace B:=B.al hw hb
 clear hw hb
 refine rg B fun _ B=> ?_
 refine tb ?_
 refine tb ?_
 refine tb ?_
 refine tc 3 fun K hK=> ?_
 go_simp
 refine (HHA.out _ (B.g 0)).mono ?_
 rintro e w2 ⟨rfl,f2⟩
 replace B:=B.tm f2
 go_wp2_with fail
 refine bk hK ?_
 clear hK K
 try go_frame
 repeat first|refine tb ?_|refine tv ?_
 refine wpAnyH_done (by decide+kernel) ?_ _
 go_wp2
 go_ret
 exact ⟨rfl,B.fr⟩
theorem Vb (hMB:QB w pM pW pm pc pw n ve c ent mat) (hW:QA w pW n (upd f who (k.cells v))) (hk:who<n) (hne:pM≠pW) (evs:List EvV) (hE:Xn w ve evs) (hlen:evs.length≤100000) (hve:∀b,ve.ownBlock=some b→b≠pM∧b≠pW) (x:QF) (hxw:x.who=(who:Int)) (h:k.st≠0∨k.st=0∧(1999≤evs.length∨¬1999≤evs.length∧(x.ask.op<0∨¬x.ask.op<0∧8≤x.ask.op))):Calls Tryz.prog 25 #[.pointer (some ⟨pM,0,none⟩),x.val] w fun e w'=>e=.returned (.bool false)∧Fr [] w w':=by
 have HHA:=hid fun w' h=>Zm w' pM pW pm pc pw n ve c ent mat h who
 rw [show (decide ((0:Int)≤(who:Int))&&decide ((who:Int)<(n:Int)))=true by simp [hk]] at HHA
 unfold QF.val
 obtain ⟨aE,capE,hvf⟩:=QX.form hE
 have B:=mbag0 hMB hW hne
 dsimp only [Qa.cells] at B
 rw [hvf] at B HHA
 clear hMB hW hne hE hve hvf
 obtain ⟨xk,xwho,⟨xop,xdl,xwt,xfc,xsl,xgn,xst⟩,xn,xgd⟩:=x
 dsimp only at hxw h ⊢
 subst hxw
 generalize k.st=st at B h
 rcases h with h|⟨rfl,h|⟨h,h2|⟨h2,h3⟩⟩⟩
 · have e1:(st==0)=false:=by simp [h]
   have e2:(st != 0)=true:=by simp [h]
   go_in
   go_wp2_with fail
   generalize hb:(World.heap _).size=pe,hw:World.alloc _ _=w1
   replace B:=B.al hw hb
   clear hw hb
   refine rg B fun _ B=> ?_
   refine tb ?_
   refine tb ?_
   refine tb ?_
   refine tc 3 fun K hK=> ?_
   go_simp
   refine (HHA.out _ (B.g 0)).mono ?_
   rintro e w2 ⟨rfl,f2⟩
   replace B:=B.tm f2
   go_wp2_with fail
   refine bk hK ?_
   clear hK K
   try go_frame
   repeat first|refine tb ?_|refine tv ?_
   refine wpAnyH_done (by decide+kernel) ?_ _
   go_wp2
   go_ret
   exact ⟨rfl,B.fr⟩
 · have e1:decide ((1999:Int)≤(evs.length:Int))=true:=decide_eq_true (by omega)
   go_in
   go_wp2_with fail
   generalize hb:(World.heap _).size=pe,hw:World.alloc _ _=w1
   replace B:=B.al hw hb
   clear hw hb
   refine rg B fun _ B=> ?_
   refine tb ?_
   refine tb ?_
   refine tb ?_
   refine tc 3 fun K hK=> ?_
   go_simp
   refine (HHA.out _ (B.g 0)).mono ?_
   rintro e w2 ⟨rfl,f2⟩
   replace B:=B.tm f2
   go_wp2_with fail
   refine bk hK ?_
   clear hK K
   try go_frame
   repeat first|refine tb ?_|refine tv ?_
   refine wpAnyH_done (by decide+kernel) ?_ _
   go_wp2
   go_ret
   exact ⟨rfl,B.fr⟩
 · have e1:decide ((1999:Int)≤(evs.length:Int))=false:=decide_eq_false (by omega)
   have e2:decide (xop<0)=true:=decide_eq_true h2
   go_in
   go_wp2_with fail
   generalize hb:(World.heap _).size=pe,hw:World.alloc _ _=w1
   replace B:=B.al hw hb
   clear hw hb
   refine rg B fun _ B=> ?_
   refine tb ?_
   refine tb ?_
   refine tb ?_
   refine tc 3 fun K hK=> ?_
   go_simp
   refine (HHA.out _ (B.g 0)).mono ?_
   rintro e w2 ⟨rfl,f2⟩
   replace B:=B.tm f2
   go_wp2_with fail
   refine bk hK ?_
   clear hK K
   try go_frame
   repeat first|refine tb ?_|refine tv ?_
   refine wpAnyH_done (by decide+kernel) ?_ _
   go_wp2
   go_ret
   exact ⟨rfl,B.fr⟩
 · have e1:decide ((1999:Int)≤(evs.length:Int))=false:=decide_eq_false (by omega)
   have e2:decide (xop<0)=false:=decide_eq_false h2
   have e3:decide (8≤xop)=true:=decide_eq_true h3
   go_in
   go_wp2_with fail
   generalize hb:(World.heap _).size=pe,hw:World.alloc _ _=w1
   replace B:=B.al hw hb
   clear hw hb
   refine rg B fun _ B=> ?_
   refine tb ?_
   refine tb ?_
   refine tb ?_
   refine tc 3 fun K hK=> ?_
   go_simp
   refine (HHA.out _ (B.g 0)).mono ?_
   rintro e w2 ⟨rfl,f2⟩
   replace B:=B.tm f2
   go_wp2_with fail
   refine bk hK ?_
   clear hK K
   try go_frame
   repeat first|refine tb ?_|refine tv ?_
   refine wpAnyH_done (by decide+kernel) ?_ _
   go_wp2
   go_ret
   exact ⟨rfl,B.fr⟩
theorem Q1c (hMB:QB w pM pW pm pc pw n ve c ent mat) (hW:QA w pW n (upd f who (k.cells v))) (hk:who<n) (hne:pM≠pW) (evs:List EvV) (hE:Xn w ve evs) (hlen:evs.length≤100000) (hve:∀b,ve.ownBlock=some b→b≠pM∧b≠pW) (x:QF) (hxw:x.who=(who:Int)) (hst:k.st=0) (hml:¬1999≤evs.length) (hop0:0≤x.ask.op) (hop:¬8≤x.ask.op):Calls Tryz.prog 25 #[.pointer (some ⟨pM,0,none⟩),x.val] w fun e w'=>e=.returned (.bool true)∧∃ve',QT w' pM pW pm pc pw n who ve' c ent mat f {Jd with st:=1,ask:=x.ask} ⟨.nilFunc,.pointer none,.pointer none,.pointer none⟩∧Xn w' ve' (evs++[{ev0 with who:=x.who,at_:=mat,ask:=x.ask}])∧(∀b,ve'.ownBlock=some b→ve.ownBlock=some b∨w.heap.size≤b)∧Fr (pM::pW::ve.ownBlock.toList) w w':=by
 have HHA:=hid fun w' h=>Zm w' pM pW pm pc pw n ve c ent mat h who
 rw [show (decide ((0:Int)≤(who:Int))&&decide ((who:Int)<(n:Int)))=true by simp [hk]] at HHA
 unfold QF.val
 obtain ⟨aE,capE,hvf⟩:=QX.form hE
 have B:=mbagE hMB hW hne hE hve
 dsimp only [Qa.cells] at B
 rw [hst] at B
 have HVF:=hid hvf
 clear hMB hW hne hE hve hst
 obtain ⟨xk,xwho,⟨xop,xdl,xwt,xfc,xsl,xgn,xst⟩,xn,xgd⟩:=x
 dsimp only at hxw hop hop0 ⊢
 subst hxw
 have e1:decide ((1999:Int)≤(evs.length:Int))=false:=decide_eq_false (by omega)
 have e2:decide (xop<0)=false:=decide_eq_false (by omega)
 have e3:decide (8≤xop)=false:=decide_eq_false hop
 go_in
 go_wp2_with fail
 generalize hb:(World.heap _).size=pe,hw:World.alloc _ _=w1
 replace B:=B.al hw hb
 clear hw hb
 replace B:=B.sel [0,1,3,2]
 have B0:=B
 rw [hvf] at B HHA
 clear hvf
 refine rgf B fun _ fc B=> ?_
 refine tb ?_
 refine tb ?_
 refine tb ?_
 refine tc 3 fun K hK=> ?_
 go_simp
 refine (HHA.out _ (B.g 0)).mono ?_
 rintro e w2 ⟨rfl,f2⟩
 replace B:=B.tm f2
 go_wp2_with fail
 refine bk hK ?_
 clear hK K
 try go_frame
 repeat first|refine tb ?_|refine tv ?_
 refine wpAnyH_done (by decide+kernel) ?_ _
 replace B:=B0.tm (fc.trans f2)
 clear B0
 go_wp2_with fail
 refine rgci 0 8 [0,1,2] B fun _ B=> ?_
 iterate 4 refine tb ?_
 refine tj 5 ?_
 refine tj 6 ?_
 refine tj 7 ?_
 refine tj 8 ?_
 refine tj 9 ?_
 refine tj 10 ?_
 refine tj 11 ?_
 refine tj 12 ?_
 refine tj 13 ?_
 refine wpAnyH_ready (rs:=[4,14]) (by decide+kernel) (by simp) ?_
 refine AllReadyH.cons (o:=_) rfl (fun K hK=> ?_) (AllReadyH.cons (o:=_) rfl (fun K hK=> ?_) AllReadyH.nil)
 all_goals try simp only [List.getElem_toArray,List.getElem_cons_succ,List.getElem_cons_zero]
 have m:=B.q 0
 go_simp
 refine bk hK ?_
 clear hK K
 try go_frame
 clear m
 refine tc 14 fun K hK=> ?_
 go_simp
 generalize hb:(World.heap _).size=bE,hw:World.alloc _ _=w4
 replace B:=B.al hw hb
 refine bk hK ?_
 clear hK K
 try go_frame
 rotate_left
 go_simp
 generalize hb:(World.heap _).size=bE,hw:World.alloc _ _=w4
 replace B:=B.al hw hb
 refine bk hK ?_
 clear hK K
 try go_frame
 have m:=B.q 0
 refine tc 4 fun K hK=> ?_
 go_simp
 refine bk hK ?_
 clear hK K
 try go_frame
 clear m
 all_goals
  obtain ⟨g,off,cap2,w5,hrun,hg,B5⟩:=B.evs 3 4 [.bool false,.int .i64 who,.int .i64 mat,.int .i64 xop,.int .i64 xdl,.bool xwt,.bool xfc,.int .i64 xsl,.int .i64 xgn,.int .i64 xst,.int .i64 0,.int .i64 0,.int .i64 0,.int .i64 0,.int .i64 0,.int .i64 0,.int .i64 0,.int .i64 0] hlen
  refine tc 15 fun K hK=> ?_
  refine Vq _ _ _ _ rfl _ _ rfl rfl hrun ?_
  replace hg:=hg.imp id (Nat.le_trans B.fr.size)
  replace B:=B5
  simp only [List.set_cons_zero,List.set_cons_succ] at B
  clear B5 hrun
  refine bk hK ?_
  clear hK K
  try go_frame
  refine tb ?_
  refine tb ?_
  have u:=B.u 0;have m:=B.q 0
  refine tc 18 fun K hK=> ?_
  go_simp
  clear u m
  generalize hw:World.setCell _ _ _=w6
  replace B:=(B.s 0).e hw
  refine bk hK ?_
  clear hK K
  try go_frame
  refine wpAnyH_done (by decide+kernel) ?_ _
  go_wp2_with fail
  refine rgx [0,2] B fun _ B=> ?_
  iterate 10 refine tb ?_
  obtain ⟨w8,hrun,hw2,fs⟩:=(B.g 1).sto0 (P:=Tryz.prog) hk [.int .i64 1,.int .i64 xop,.int .i64 xdl,.bool xwt,.bool xfc,.int .i64 xsl,.int .i64 xgn,.int .i64 xst,.bool false,.int .i64 0,.int .i64 0,.nilFunc,.pointer none,.pointer none,.pointer none,.bool false,.bool false,.bool false,.int .i64 0,.int .i64 0,.int .i64 0,.int .i64 0,.bool false,.bool false,.int .i64 0,.int .i64 0,.int .i64 0,.int .i64 0,.int .i64 0,.int .i64 0,.int .i64 0,.int .i64 0,.int .i64 0,.int .i64 0,.int .i64 0] 80 (by kernel_rfl) (by simp) (by simp [Value.oneCell']) rfl
  refine tc 10 fun K hK=> ?_
  refine Zy _ _ _ rfl _ _ rfl rfl hrun ?_
  replace B:=B.up 1 (T':=tW pW n f who _) hw2 fs
  clear hrun
  refine bk hK ?_
  clear hK K
  try go_frame
  refine wpAnyH_done (by decide+kernel) ?_ _
  go_wp2
  go_ret
  refine ⟨rfl,_,⟨B.g 0,B.g 1⟩, ?_,fun b hb=>by cases hb;exact hg,B.fr⟩
  unfold Xn
  rw [List.length_append,List.flatMap_append]
  exact B.g 3
end
section
open Go.RowKit Go.Shelf Go.Lib
attribute [local go_sem] Oper.semAt_some
theorem Q30 (w:World) (pM pW pm pc pw n:Nat) (ve:Value) (c:Q0) (ent mat:Int) (hMB:QB w pM pW pm pc pw n ve c ent mat) (h0:0≤ent) (h1:ent≤1000000000) (x:QF) (hk:x.kind=0) (b:Bool) (X:World→Prop) (HI:∀w',QB w' pM pW pm pc pw n ve c (ent+1) ent→Fr [pM] w w'→Calls Tryz.prog 25 #[.pointer (some ⟨pM,0,none⟩),x.val] w' fun e w2=>e=.returned (.bool b)∧X w2):Calls Tryz.prog 11 #[.pointer (some ⟨pM,0,none⟩),x.val] w fun e w'=>e=.returned (.bool b)∧X w':=by
 unfold QF.val at*
 have B:Bag [pM] w [tR pM _ _] w:=Bag.own hMB
 have HCX:=hid HI
 clear HI
 clear hMB
 obtain ⟨xk,xwho,⟨xop,xdl,xwt,xfc,xsl,xgn,xst⟩,xn,xgd⟩:=x
 dsimp only at*
 subst hk
 have q:=B.qa 0;have u:=B.ua 0
 have n1:¬pM=w.heap.size:=by have:=B.lt 0 pM (by simp [gt]);omega
 have n2:¬w.heap.size=pM:=by omega
 go_in
 go_wp2_with fail
 clear q u n1 n2
 generalize hb:(World.heap _).size=pe,hw:World.alloc _ _=w1
 generalize hw2:World.setCell _ _ _=w2
 replace B:=(((B.al hw hb).s 0).s 0).e hw2
 refine (HCX.out _ (B.g 0) B.fr).mono ?_
 rintro e w9 ⟨rfl,hX⟩
 go_wp2
 go_ret
 exact ⟨rfl,hX⟩
theorem Q7f (w:World) (pM pW pm pc pw n:Nat) (ve:Value) (c:Q0) (ent mat:Int) (hMB:QB w pM pW pm pc pw n ve c ent mat) (h0:0≤ent) (h1:ent≤1000000000) (x:QF) (hk:x.kind=1) (b:Bool) (X:World→Prop) (HI:∀w',QB w' pM pW pm pc pw n ve c (ent+1) ent→Fr [pM] w w'→Calls Tryz.prog 26 #[.pointer (some ⟨pM,0,none⟩),.int .i64 x.who] w' fun e w2=>e=.returned (.bool b)∧X w2):Calls Tryz.prog 11 #[.pointer (some ⟨pM,0,none⟩),x.val] w fun e w'=>e=.returned (.bool b)∧X w':=by
 unfold QF.val at*
 have B:Bag [pM] w [tR pM _ _] w:=Bag.own hMB
 have HCX:=hid HI
 clear HI
 clear hMB
 obtain ⟨xk,xwho,⟨xop,xdl,xwt,xfc,xsl,xgn,xst⟩,xn,xgd⟩:=x
 dsimp only at*
 subst hk
 have q:=B.qa 0;have u:=B.ua 0
 have n1:¬pM=w.heap.size:=by have:=B.lt 0 pM (by simp [gt]);omega
 have n2:¬w.heap.size=pM:=by omega
 go_in
 go_wp2_with fail
 clear q u n1 n2
 generalize hb:(World.heap _).size=pe,hw:World.alloc _ _=w1
 generalize hw2:World.setCell _ _ _=w2
 replace B:=(((B.al hw hb).s 0).s 0).e hw2
 have r:=B.q 1;have m:=B.q 0
 go_wp2_with fail
 clear r m
 refine (HCX.out _ (B.g 0) B.fr).mono ?_
 rintro e w9 ⟨rfl,hX⟩
 go_wp2
 go_ret
 exact ⟨rfl,hX⟩
theorem Q31 (w:World) (pM pW pm pc pw n:Nat) (ve:Value) (c:Q0) (ent mat:Int) (hMB:QB w pM pW pm pc pw n ve c ent mat) (h0:0≤ent) (h1:ent≤1000000000) (x:QF) (hk:x.kind=4) (b:Bool) (X:World→Prop) (HI:∀w',QB w' pM pW pm pc pw n ve c (ent+1) ent→Fr [pM] w w'→Calls Tryz.prog 29 #[.pointer (some ⟨pM,0,none⟩),.int .i64 x.ask.slot] w' fun e w2=>e=.returned (.bool b)∧X w2):Calls Tryz.prog 11 #[.pointer (some ⟨pM,0,none⟩),x.val] w fun e w'=>e=.returned (.bool b)∧X w':=by
 unfold QF.val at*
 have B:Bag [pM] w [tR pM _ _] w:=Bag.own hMB
 have HCX:=hid HI
 clear HI
 clear hMB
 obtain ⟨xk,xwho,⟨xop,xdl,xwt,xfc,xsl,xgn,xst⟩,xn,xgd⟩:=x
 dsimp only at*
 subst hk
 have q:=B.qa 0;have u:=B.ua 0
 have n1:¬pM=w.heap.size:=by have:=B.lt 0 pM (by simp [gt]);omega
 have n2:¬w.heap.size=pM:=by omega
 go_in
 go_wp2_with fail
 clear q u n1 n2
 generalize hb:(World.heap _).size=pe,hw:World.alloc _ _=w1
 generalize hw2:World.setCell _ _ _=w2
 replace B:=(((B.al hw hb).s 0).s 0).e hw2
 have r:=B.q 1;have m:=B.q 0
 go_wp2_with fail
 clear r m
 refine (HCX.out _ (B.g 0) B.fr).mono ?_
 rintro e w9 ⟨rfl,hX⟩
 go_wp2
 go_ret
 exact ⟨rfl,hX⟩
theorem Q7e (w:World) (pM pW pm pc pw n:Nat) (ve:Value) (c:Q0) (ent mat:Int) (hMB:QB w pM pW pm pc pw n ve c ent mat) (h0:0≤ent) (h1:ent≤1000000000) (x:QF) (hk:x.kind=2) (r:Int) (X:World→Prop) (L:List Nat) (HI:∀w',QB w' pM pW pm pc pw n ve c (ent+1) ent→Fr [pM] w w'→Calls Tryz.prog 27 #[.pointer (some ⟨pc,0,none⟩),.int .i64 x.n] w' fun e w2=>e=.returned (.int .i64 r)∧X w2∧Fr L w' w2) (hLp:pM∉L) (hLb:∀b∈L,b<w.heap.size):Calls Tryz.prog 11 #[.pointer (some ⟨pM,0,none⟩),x.val] w fun e w'=>e=.returned (.bool true)∧X w':=by
 unfold QF.val at*
 have B:Bag [pM] w [tR pM _ _] w:=Bag.own hMB
 have HCX:=hid HI
 clear HI
 clear hMB
 obtain ⟨xk,xwho,⟨xop,xdl,xwt,xfc,xsl,xgn,xst⟩,xn,xgd⟩:=x
 dsimp only at*
 subst hk
 have q:=B.qa 0;have u:=B.ua 0
 have n1:¬pM=w.heap.size:=by have:=B.lt 0 pM (by simp [gt]);omega
 have n2:¬w.heap.size=pM:=by omega
 go_in
 go_wp2_with fail
 clear q u n1 n2
 generalize hb:(World.heap _).size=pe,hw:World.alloc _ _=w1
 generalize hw2:World.setCell _ _ _=w2
 replace B:=(((B.al hw hb).s 0).s 0).e hw2
 have r:=B.q 1;have m:=B.q 0
 go_wp2_with fail
 clear r m
 have hf:=B.fr
 replace B:=B.mono (S1:=pM::L) (by simp)
 refine rgf B fun _ fc B=> ?_
 repeat refine tb ?_
 refine tc 6 fun K hK=> ?_
 go_simp
 refine (HCX.out _ (B.g 0) (hf.trans (fc.mono (by simp)))).mono ?_
 rintro e w9 ⟨rfl,hX,f9⟩
 replace B:=B.fo f9 (fun x hx=>by simp [hx]) (fun i x hx hm=>by
  have h1:=hLb x hm
  rcases i with _|_|i
  · simp [gt] at hx;exact hLp (hx▸hm)
  · simp [gt] at hx;omega
  · simp [gt,Th.nil] at hx)
 go_wp2_with fail
 refine bk hK ?_
 clear hK K
 try go_frame
 refine wpAnyH_done (by decide+kernel) ?_ _
 go_wp2
 go_ret
 exact ⟨rfl,hX⟩
theorem Q7h (w:World) (pM pW pm pc pw n:Nat) (ve:Value) (c:Q0) (ent mat:Int) (hMB:QB w pM pW pm pc pw n ve c ent mat) (h0:0≤ent) (h1:ent≤1000000000) (x:QF) (hk:x.kind=3) (b:Bool) (X:World→Prop) (L:List Nat) (HI:∀w',QB w' pM pW pm pc pw n ve c (ent+1) ent→Fr [pM] w w'→Calls Tryz.prog 28 #[.pointer (some ⟨pw,0,none⟩),.bool x.good] w' fun e w2=>e=.returned (.bool b)∧X w2∧Fr L w' w2) (hLp:pM∉L) (hLb:∀b∈L,b<w.heap.size):Calls Tryz.prog 11 #[.pointer (some ⟨pM,0,none⟩),x.val] w fun e w'=>e=.returned (.bool b)∧X w':=by
 unfold QF.val at*
 have B:Bag [pM] w [tR pM _ _] w:=Bag.own hMB
 have HCX:=hid HI
 clear HI
 clear hMB
 obtain ⟨xk,xwho,⟨xop,xdl,xwt,xfc,xsl,xgn,xst⟩,xn,xgd⟩:=x
 dsimp only at*
 subst hk
 have q:=B.qa 0;have u:=B.ua 0
 have n1:¬pM=w.heap.size:=by have:=B.lt 0 pM (by simp [gt]);omega
 have n2:¬w.heap.size=pM:=by omega
 go_in
 go_wp2_with fail
 clear q u n1 n2
 generalize hb:(World.heap _).size=pe,hw:World.alloc _ _=w1
 generalize hw2:World.setCell _ _ _=w2
 replace B:=(((B.al hw hb).s 0).s 0).e hw2
 have r:=B.q 1;have m:=B.q 0
 go_wp2_with fail
 clear r m
 have hf:=B.fr
 replace B:=B.mono (S1:=pM::L) (by simp)
 refine rgf B fun _ fc B=> ?_
 repeat refine tb ?_
 refine tc 6 fun K hK=> ?_
 go_simp
 refine (HCX.out _ (B.g 0) (hf.trans (fc.mono (by simp)))).mono ?_
 rintro e w9 ⟨rfl,hX,f9⟩
 replace B:=B.fo f9 (fun x hx=>by simp [hx]) (fun i x hx hm=>by
  have h1:=hLb x hm
  rcases i with _|_|i
  · simp [gt] at hx;exact hLp (hx▸hm)
  · simp [gt] at hx;omega
  · simp [gt,Th.nil] at hx)
 go_wp2_with fail
 refine bk hK ?_
 clear hK K
 try go_frame
 refine tb ?_
 refine wpAnyH_done (by decide+kernel) ?_ _
 go_wp2
 go_ret
 exact ⟨rfl,hX⟩
theorem Q7g (w:World) (pM pW pm pc pw n:Nat) (ve:Value) (c:Q0) (ent mat:Int) (hMB:QB w pM pW pm pc pw n ve c ent mat) (h0:0≤ent) (h1:ent≤1000000000) (x:QF) (hk:x.kind≠0∧x.kind≠1∧x.kind≠2∧x.kind≠3∧x.kind≠4):Calls Tryz.prog 11 #[.pointer (some ⟨pM,0,none⟩),x.val] w fun e w'=>e=.returned (.bool false)∧QB w' pM pW pm pc pw n ve c (ent+1) ent∧Fr [pM] w w':=by
 unfold QF.val at*
 have B:Bag [pM] w [tR pM _ _] w:=Bag.own hMB
 clear hMB
 obtain ⟨xk,xwho,⟨xop,xdl,xwt,xfc,xsl,xgn,xst⟩,xn,xgd⟩:=x
 dsimp only at*
 have e0:(xk==0)=false:=by simp [hk.1]
 have e1:(xk==1)=false:=by simp [hk.2.1]
 have e2:(xk==2)=false:=by simp [hk.2.2.1]
 have e3:(xk==3)=false:=by simp [hk.2.2.2.1]
 have e4:(xk==4)=false:=by simp [hk.2.2.2.2]
 have q:=B.qa 0;have u:=B.ua 0
 have n1:¬pM=w.heap.size:=by have:=B.lt 0 pM (by simp [gt]);omega
 have n2:¬w.heap.size=pM:=by omega
 go_in
 go_wp2_with fail
 clear q u n1 n2
 generalize hb:(World.heap _).size=pe,hw:World.alloc _ _=w1
 generalize hw2:World.setCell _ _ _=w2
 replace B:=(((B.al hw hb).s 0).s 0).e hw2
 have r:=B.q 1
 go_wp2
 go_ret
 exact ⟨rfl,B.g 0,B.fr⟩
end
end Go.Proofs.YtgjklfmnmljilaaGreatDoor
