/- A part of the proof. -/
import Derived.Test.YtgjklfmnmljilaaGreatDoorZR28
namespace Go.Proofs.YtgjklfmnmljilaaGreatDoor
set_option linter.unusedVariables false
set_option linter.unusedSimpArgs false
set_option linter.unusedSectionVars false
set_option linter.unnecessarySimpa false
set_option maxRecDepth 100000
set_option maxHeartbeats 8000000
section
open Go.RowKit Go.Shelf Go.Lib
attribute [local go_sem] Oper.semAt_some
variable (w:World) (pM pW pm pc pw n who:Nat) (ve:Value) (c:Q0) (ent mat:Int) (f:Nat→List Value) (k:Q8) (v:Je)
theorem Q6y {w:World} {B g cp n:Nat} {L:List Int} (h:w.ownsRow B 3 1 (.slice (some ⟨g,0,none⟩) n cp) n (L.map (Value.int .i64))) {j:Nat} {z:Int} (hx:L[j]?=some z):w.cell? ⟨g,j,none⟩=some (.int .i64 z):=by
 have hj:j<L.length:=(List.getElem?_eq_some_iff.1 hx).1
 rcases h.2 with ⟨h,_⟩|⟨g',cap',cur,h0,hb,hg,h1,h2,h3,h4⟩
 · cases h
 · simp only [Value.slice.injEq,Option.some.injEq,Addr.mk.injEq,and_true,true_and] at h0
   obtain ⟨rfl,rfl⟩:=h0
   have hn:n=L.length:=by simpa using h.1.symm
   refine cell_of hg ?_
   have e:=congrArg (fun l=>l[j]?) h4
   simp only [Nat.mul_one,List.getElem?_take,if_pos (show j<n by omega),List.getElem?_map,hx,Option.map_some] at e
   rw [←Array.getElem?_toList]
   exact e
theorem Q15 {w:World} {pM pW pm pc pw n who qm:Nat} {ve:Value} {c:Q0} {ent mat:Int} {f:Nat→List Value} {k:Q8} {v:Je} {M:List Int} {N:Int} (hMB:QG w pM pW pm pc pw n ve c ent mat) (hW:QL w pW n (upd f who (k.cells v))) (hne:pM≠pW) (hM:Qm w pm qm M N) (hne2:pm≠pM∧pm≠pW∧qm≠pM∧qm≠pW):
 Bag [pW,pm,qm] w [⟨false,[pM],fun w=>QG w pM pW pm pc pw n ve c ent mat,fun f h k=>k.fr f (h _ Lc)⟩,tW pW n f who (k.cells v),tM pm qm M N] w:=
 ((Zn hMB hW hne).mono Lc).add (tM pm qm M N) hM (fun x hx=>by have:=hM.plt;have:=hM.qlt;simp at hx;omega) (fun i x hx hm=>by
   rcases i with _|_|i
   · simp [gt] at hx hm;omega
   · simp [gt] at hx hm;omega
   · simp [gt,Th.nil] at hm) (fun _ x hx=>by simp at hx;rcases hx with rfl|rfl<;>simp)
abbrev tQu (p:Nat) (c:Q0) (s:QuS):Th:=⟨true,[p],fun w=>Jd w p c s,fun f h k=>k.fr f (h _ Lc)⟩
abbrev tTw (p:Nat) (c:Q0):Th:=⟨true,[p],fun w=>Yz w p c (.slice none 0 0) (.slice none 0 0) [] [] 0 false,fun f h k=>Yz.fr k f (h _ Lc) (by simp [Value.ownBlock]) (by simp [Value.ownBlock])⟩
theorem Q4E (hMB:QG w pM pW pm pc pw n ve c ent mat) (hW:QL w pW n (upd f who (k.cells v))) (hk:who<n) (hne:pM≠pW):
 Calls Tryz.prog 118 #[.pointer (some ⟨pM,0,none⟩),.int .i64 who] w fun e w'=>e=.returned (.tuple #[])∧∃p,w.heap.size≤p∧Jd w' p c ⟨who,[],0,.come,0,0⟩∧QZ w' pM pW pm pc pw n who ve c ent mat f {k with qu:=some (XR who),st:=4} {v with vq:=.pointer (some ⟨p,0,none⟩)}∧Fr [pW] w w':=by
 have HY:=hid fun w'=>Q5h w' c who
 have B:Bag [pW] w [tRo false pM _ _,tW pW n f who _] w:=Zn hMB hW hne
 dsimp only [Q8.cells] at B
 clear hMB hW hne
 have m:=B.q 0
 go_in
 go_wp2_with fail
 refine (HY.out _).mono ?_
 rintro e w1 ⟨p,rfl,hp,ht,f1⟩
 replace B:=B.nw (T':=tQu p c ⟨who,[],0,.come,0,0⟩) ht f1 (fun x hx=>by simp at hx;subst hx;exact ⟨hp,Q9 ht⟩)
 clear m
 have q:=B.wq 1 hk;have q0:=B.wq0 1 hk;have u:=B.wu 1;have m:=B.q 0
 go_wp2_with fail
 clear q q0 u m
 generalize hw:World.setCell _ _ _=w2
 replace B:=(((B.ws 1 hk).ws0 1 hk)).e hw
 go_end0
 exact ⟨rfl,p,hp,B.g 2,⟨B.g 0,B.g 1⟩,B.fr⟩
theorem Q2F (hMB:QG w pM pW pm pc pw n ve c ent mat) (hW:QL w pW n (upd f who (k.cells v))) (hk:who<n) (hne:pM≠pW):
 Calls Tryz.prog 119 #[.pointer (some ⟨pM,0,none⟩),.int .i64 who] w fun e w'=>e=.returned (.tuple #[])∧∃p,w.heap.size≤p∧Yz w' p c (.slice none 0 0) (.slice none 0 0) [] [] 0 false∧QZ w' pM pW pm pc pw n who ve c ent mat f {k with tw:=some Y7,st:=3} {v with vt:=.pointer (some ⟨p,0,none⟩)}∧Fr [pW] w w':=by
 have HY:=hid fun w'=>Q0h w' c
 have B:Bag [pW] w [tRo false pM _ _,tW pW n f who _] w:=Zn hMB hW hne
 dsimp only [Q8.cells] at B
 clear hMB hW hne
 have m:=B.q 0
 go_in
 go_wp2_with fail
 refine (HY.out _).mono ?_
 rintro e w1 ⟨p,rfl,hp,ht,f1⟩
 replace B:=B.nw (T':=tTw p c) ht f1 (fun x hx=>by simp at hx;subst hx;exact ⟨hp,Q9 ht.b⟩)
 clear m
 have q:=B.wq 1 hk;have q0:=B.wq0 1 hk;have u:=B.wu 1;have m:=B.q 0
 go_wp2_with fail
 clear q q0 u m
 generalize hw:World.setCell _ _ _=w2
 replace B:=(((B.ws 1 hk).ws0 1 hk)).e hw
 go_end0
 exact ⟨rfl,p,hp,B.g 2,⟨B.g 0,B.g 1⟩,B.fr⟩
theorem Q0Q (hMB:QG w pM pW pm pc pw n ve c ent mat) (hW:QL w pW n (upd f who (k.cells v))) (hk:who<n) (hne:pM≠pW) (qm:Nat) (M:List Int) (N:Int) (hM:Qm w pm qm M N) (hN:N≤1000000000) (hc:c.fits) (hwo:(who:Int)<c.wo) (hne2:pm≠pM∧pm≠pW∧qm≠pM∧qm≠pW) (hhf:k.half=false):
 Calls Tryz.prog 62 #[.pointer (some ⟨pM,0,none⟩),.int .i64 who] w fun e w'=>e=.returned (.tuple #[])∧QZ w' pM pW pm pc pw n who ve c ent mat f {k with word:=Q6 M (3+c.wo+(who:Int)),half:=true} v∧Qm w' pm qm M (N+1)∧Fr [pW,pm,qm] w w':=by
 have HCG:=hid fun w'=>ZG w' c who hc Lb hwo
 have HLD:=hid fun w' h=>Za w' pm qm M N (3+c.wo+(who:Int)) h hN
 have B:Bag [pW,pm,qm] w [tRo false pM _ _,tW pW n f who _,tM pm qm M N] w:=Q15 hMB hW hne hM hne2
 dsimp only [Q8.cells] at B
 clear hMB hW hne hM hne2 hc hwo
 have q:=B.wq 1 hk;have m:=B.q 0
 go_in
 go_wp2_with fail
 refine (HCG.out _).mono ?_
 rintro e w1 ⟨rfl,f1⟩
 replace B:=B.tm f1
 clear q m
 have q:=B.wq 1 hk;have m:=B.q 0
 go_wp2_with fail
 clear q m
 refine (HLD.out _ (B.g 2)).mono ?_
 rintro e w2 ⟨rfl,h,f2⟩
 replace B:=B.up 2 (T':=tM pm qm _ _) h f2
 have q:=B.wq 1 hk;have q0:=B.wq0 1 hk;have u:=B.wu 1;have m:=B.q 0
 go_wp2_with fail
 clear q q0 u m
 generalize hw:World.setCell _ _ _=w3
 replace B:=(((B.ws 1 hk).ws 1 hk)).e hw
 first
  |go_end0
  |(try simp only [Exit.inBlock,Exit.then]
    refine bodyPost_ret (results_none rfl _ _ _) rfl ?_)
 exact ⟨rfl,⟨B.g 0,B.g 1⟩,B.g 2,B.fr⟩
theorem Q2q (hMB:QG w pM pW pm pc pw n ve c ent mat) (hW:QL w pW n (upd f who (k.cells v))) (hk:who<n) (hne:pM≠pW) (qm:Nat) (M:List Int) (N:Int) (hM:Qm w pm qm M N) (hN:N≤1000000000) (hc:c.fits) (hwo:(who:Int)<c.wo) (hne2:pm≠pM∧pm≠pW∧qm≠pM∧qm≠pW) (hhf:k.half=true) (hkw:0≤k.word):
 Calls Tryz.prog 62 #[.pointer (some ⟨pM,0,none⟩),.int .i64 who] w fun e w'=>e=.returned (.tuple #[])∧QZ w' pM pW pm pc pw n who ve c ent mat f {k with half:=false,grant:=k.word,st:=1} v∧Qm w' pm qm (Qp M (3+c.wo+(who:Int)) 0) (N+1)∧Fr [pW,pm,qm] w w':=by
 have HCG:=hid fun w'=>ZG w' c who hc Lb hwo
 have HLD:=hid fun w' h=>Vx w' pm qm M N (3+c.wo+(who:Int)) 0 h hN
 have hkn:¬k.word<0:=Lb
 have B:Bag [pW,pm,qm] w [tRo false pM _ _,tW pW n f who _,tM pm qm M N] w:=Q15 hMB hW hne hM hne2
 dsimp only [Q8.cells] at B
 clear hMB hW hne hM hne2 hc hwo
 have q:=B.wq 1 hk;have m:=B.q 0
 go_in
 go_wp2_with fail
 refine (HCG.out _).mono ?_
 rintro e w1 ⟨rfl,f1⟩
 replace B:=B.tm f1
 clear q m
 have q:=B.wq 1 hk;have q0:=B.wq0 1 hk;have u:=B.wu 1;have m:=B.q 0
 go_wp2_with fail
 clear q q0 u m
 generalize hw:World.setCell _ _ _=w2
 replace B:=((B.ws 1 hk)).e hw
 refine (HLD.out _ (B.g 2)).mono ?_
 rintro e w2 ⟨rfl,h,f2⟩
 replace B:=B.up 2 (T':=tM pm qm _ _) h f2
 have q:=B.wq 1 hk;have q0:=B.wq0 1 hk;have u:=B.wu 1;have m:=B.q 0
 go_wp2_with fail
 clear q q0 u m
 generalize hw:World.setCell _ _ _=w3
 replace B:=(((B.ws 1 hk).ws0 1 hk)).e hw
 first
  |go_end0
  |(try simp only [Exit.inBlock,Exit.then]
    refine bodyPost_ret (results_none rfl _ _ _) rfl ?_)
 exact ⟨rfl,⟨B.g 0,B.g 1⟩,B.g 2,B.fr⟩
theorem Q0P (hMB:QG w pM pW pm pc pw n ve c ent mat) (hW:QL w pW n (upd f who (k.cells v))) (hk:who<n) (hne:pM≠pW) (qm:Nat) (M:List Int) (N:Int) (hM:Qm w pm qm M N) (hN:N≤1000000000) (hc:c.fits) (hwo:(who:Int)<c.wo) (hne2:pm≠pM∧pm≠pW∧qm≠pM∧qm≠pW) (hhf:k.half=true) (hkw:k.word<0):
 Calls Tryz.prog 62 #[.pointer (some ⟨pM,0,none⟩),.int .i64 who] w fun e w'=>e=.returned (.tuple #[])∧∃p,w.heap.size≤p∧Jy w' p none none c (Qz who)∧QZ w' pM pW pm pc pw n who ve c ent mat f ({k with half:=false}.end_ who {ev0 with e:=5}) {v with vd:=.pointer (some ⟨p,0,none⟩)}∧Qm w' pm qm (Qp M (3+c.wo+(who:Int)) 0) (N+1)∧Fr [pW,pm,qm] w w':=by
 have HCG:=hid fun w'=>ZG w' c who hc Lb hwo
 have HLD:=hid fun w' h=>Vx w' pm qm M N (3+c.wo+(who:Int)) 0 h hN
 have HEN:=hid fun w' k' h1 h2=>XY w' pM pW pm pc pw n who ve c ent mat f k' v h1 h2 hk hne {ev0 with e:=5}
 have B:Bag [pW,pm,qm] w [tRo false pM _ _,tW pW n f who _,tM pm qm M N] w:=Q15 hMB hW hne hM hne2
 dsimp only [Q8.cells] at B
 clear hMB hW hne hM hne2 hc hwo
 have q:=B.wq 1 hk;have m:=B.q 0
 go_in
 go_wp2_with fail
 refine (HCG.out _).mono ?_
 rintro e w1 ⟨rfl,f1⟩
 replace B:=B.tm f1
 clear q m
 have q:=B.wq 1 hk;have q0:=B.wq0 1 hk;have u:=B.wu 1;have m:=B.q 0
 go_wp2_with fail
 clear q q0 u m
 generalize hw:World.setCell _ _ _=w2
 replace B:=((B.ws 1 hk)).e hw
 refine (HLD.out _ (B.g 2)).mono ?_
 rintro e w2 ⟨rfl,h,f2⟩
 replace B:=B.up 2 (T':=tM pm qm _ _) h f2
 have q:=B.wq 1 hk
 go_wp2_with fail
 refine (HEN.out _ {k with half:=false} (B.g 0) (B.g 1)).mono ?_
 rintro e w9 ⟨rfl,p,hp,ht,hmp,f9⟩
 replace hp:=Nat.le_trans B.fr.size hp
 have hm:=Qm.fr (B.g 2) f9 (fun h=>B.nd 2 1 (by decide) pm (by simp [gt]) (by simpa [gt] using h)) (fun h=>B.nd 2 1 (by decide) qm (by simp [gt]) (by simpa [gt] using h))
 go_wp2_with fail
 first
  |go_end0
  |(try simp only [Exit.inBlock,Exit.then]
    refine bodyPost_ret (results_none rfl _ _ _) rfl ?_)
 exact ⟨rfl,p,hp,ht,hmp,hm,B.fr.then f9 Lc⟩
theorem EC (w:World) (pM pW pm pc pw n who qm:Nat) (ve:Value) (c:Q0) (ent mat:Int) (M:List Int) (N:Int) (hMB:QG w pM pW pm pc pw n ve c ent mat) (hM:Qm w pm qm M N) (hc:c.fits) (hwo:(who:Int)<c.wo) (hml:(M.length:Int)=c.cells) (hmb:M.length≤10000):
 Calls Tryz.prog 53 #[.pointer (some ⟨pM,0,none⟩),.int .i64 who] w fun e w'=>e=.returned (.bool (decide (Q6 M (3+c.wo+(who:Int))≠0)))∧Fr [] w w':=by
 have HCG:=hid fun w'=>ZG w' c who hc Lb hwo
 have HWD:=hid fun w' (f:Fr [] w w')=>(by obtain ⟨t,h,_⟩:=hM.fr f Lc Lc;exact Dc w' pm qm M t h hmb:Calls Tryz.prog 30 #[.pointer (some ⟨pm,0,none⟩)] w' _)
 have hsl:=hc.2.1
 obtain ⟨g1,g2⟩:0≤3+c.wo+(who:Int)∧3+c.wo+(who:Int)<(M.length:Int):=by unfold Q0.cells at hml;omega
 have B:=Bag.one hMB
 clear hMB hM hc hwo hml hmb hsl
 obtain ⟨cell,hcell⟩:∃x:Nat,3+c.wo+(who:Int)=(x:Int):=⟨(3+c.wo+(who:Int)).toNat,Lb⟩
 rw [hcell] at g2 HCG ⊢
 clear g1 hcell
 obtain ⟨lv,hx⟩:∃x,M[cell]?=some x:=⟨_,List.getElem?_eq_getElem Lb⟩
 rw [show Q6 M (cell:Int)=lv by unfold Q6;rw [if_pos (Jf Lb Lb),Int.toNat_natCast,List.getD_eq_getElem?_getD,hx];rfl]
 go_in
 go_wp2_with fail
 refine rg B fun _ B=> ?_
 iterate 4 refine tb ?_
 refine tj 5 ?_
 refine tj 6 ?_
 refine tj 7 ?_
 refine tj 8 ?_
 refine tj 9 ?_
 refine tc 4 fun K hK=> ?_
 go_simp
 refine (HWD.out _ B.fr).mono ?_
 rintro e w1 ⟨g,cp,rfl,how,f⟩
 have HQ:=hid (Q6y how hx)
 clear how
 replace B:=B.tm f
 go_wp2_with fail
 refine bk hK ?_
 clear hK K
 try go_frame
 refine tc 10 fun K hK=> ?_
 go_simp
 refine (HCG.out _).mono ?_
 rintro e w2 ⟨rfl,f2⟩
 have q:=f2.cell HQ.out Lc
 replace B:=B.tm f2
 go_wp2_with fail
 refine bk hK ?_
 clear hK K
 try go_frame
 refine tj 11 ?_
 refine tc 12 fun K hK=> ?_
 go_simp
 refine bk hK ?_
 clear hK K q
 try go_frame
 refine tb ?_
 refine tb ?_
 refine wpAnyH_done (by decide+kernel) ?_ _
 go_wp2
 go_ret
 exact ⟨by simp;rfl,B.fr⟩
end
section
open Go.RowKit Go.Shelf Go.Lib
attribute [local go_sem] Oper.semAt_some
variable (w:World) (pM pW pm pc pw n who:Nat) (ve:Value) (c:Q0) (ent mat:Int) (f:Nat→List Value) (k:Q8) (v:Je)
abbrev Q17:Array Value:=#[.func (.func 55) #[] #[],.func (.func 56) #[] #[],.func (.func 57) #[] #[],.func (.func 58) #[] #[],.func (.func 59) #[] #[],.func (.func 60) #[] #[],.func (.func 61) #[] #[],.func (.func 62) #[] #[],.func (.func 63) #[] #[]]
theorem GJ (w:World):Calls Tryz.prog 40 #[] w fun e w'=>e=.returned (.agg Q17)∧Fr [] w w':=by
 go_in
 go_wp2
 have hl:=run_loadVar_new (P:=Tryz.prog) w 100 Q17 9 99 (by kernel_rfl) (by kernel_rfl)
 refine ⟨rfl,.agg Q17, ?_,rfl,(Fr.refl [] w).alloc _⟩
 unfold Q17 at hl ⊢
 generalize (#[_,_,_,_,_,_,_,_,_]:Array Value)=A at hl ⊢
 have e:results Tryz.f40 #[.pointer (some {block:=w.heap.size,off:=0}),.agg A]=(do let v ←loadVar 100 ⟨w.heap.size,0,none⟩;pure v):=by
  simp [results,Tryz.f40,go_sem]
 rw [e]
 simp only [Sem.run_bind,hl,Result.andThen_ok,Sem.run_pure]
def Uj:List FuncId:=[55,56,57,58,59,60,61,62,63]
theorem Ui (k:Nat) (hk:k<9) (args:Array Value) (w:World):(callFunc (Uj.getD k 0) args).run Tryz.prog w=.ok (.enter (Uj.getD k 0) args) w:=by
 match k,hk with
 |0,_=>exact Qu Tryz.func55 (by kernel_rfl) rfl args w
 |1,_=>exact Qu Tryz.func56 (by kernel_rfl) rfl args w
 |2,_=>exact Qu Tryz.func57 (by kernel_rfl) rfl args w
 |3,_=>exact Qu Tryz.func58 (by kernel_rfl) rfl args w
 |4,_=>exact Qu Tryz.func59 (by kernel_rfl) rfl args w
 |5,_=>exact Qu Tryz.func60 (by kernel_rfl) rfl args w
 |6,_=>exact Qu Tryz.func61 (by kernel_rfl) rfl args w
 |7,_=>exact Qu Tryz.func62 (by kernel_rfl) rfl args w
 |8,_=>exact Qu Tryz.func63 (by kernel_rfl) rfl args w
 |k+9,hk=>exact absurd hk Lb
theorem Q8Q (k:Nat) (hk:k<9) (wx:World):(Instr.index 100 (.agg Q17) (.int .i64 (k:Int))).run Tryz.prog wx=.ok (.func (.func (Uj.getD k 0)) #[] #[]) wx:=by
 match k,hk with
 |0,_=>exact (show _=_ by kernel_rfl)
 |1,_=>exact (show _=_ by kernel_rfl)
 |2,_=>exact (show _=_ by kernel_rfl)
 |3,_=>exact (show _=_ by kernel_rfl)
 |4,_=>exact (show _=_ by kernel_rfl)
 |5,_=>exact (show _=_ by kernel_rfl)
 |6,_=>exact (show _=_ by kernel_rfl)
 |7,_=>exact (show _=_ by kernel_rfl)
 |8,_=>exact (show _=_ by kernel_rfl)
 |k+9,hk=>exact absurd hk Lb
theorem Zm (w:World) (pM pW pm pc pw n:Nat) (ve:Value) (c:Q0) (ent mat:Int) (hMB:QG w pM pW pm pc pw n ve c ent mat) (x:Int):Calls Tryz.prog 24 #[.pointer (some ⟨pM,0,none⟩),.int .i64 x] w fun e w'=>e=.returned (.bool (decide (0≤x)&&decide (x<(n:Int))))∧Fr [] w w':=by
 have q9:=(Bag.one hMB).q 0
 by_cases h0:0≤x<;>by_cases h1:x<(n:Int)
 all_goals
  simp only [h0,h1,decide_true,decide_false,Bool.and_true,Bool.and_false]
  go_in
  go_wp2_with fail
  try go_region
  all_goals go_wp2
  all_goals go_ret
  all_goals exact ⟨rfl,by first|exact Fr.refl _ _|exact (Fr.refl [] w).drew⟩
theorem Q0X (hMB:QG w pM pW pm pc pw n ve c ent mat) (hW:QL w pW n (upd f who (k.cells v))) (hk:who<n) (hne:pM≠pW) (hst:k.st=0):
 Calls Tryz.prog 26 #[.pointer (some ⟨pM,0,none⟩),.int .i64 who] w fun e w'=>e=.returned (.bool false)∧Fr [] w w':=by
 have HHA:=hid (Zm w pM pW pm pc pw n ve c ent mat hMB who)
 rw [decide_eq_true Lb,decide_eq_true Lb] at HHA
 have B:Bag [pW] w [tRo false pM _ _,tW pW n f who _] w:=Zn hMB hW hne
 rw [Q8.cells,hst] at B
 clear hMB hW hne
 have m:=B.q 0
 go_in
 go_wp2_with fail
 refine HHA.out.mono ?_
 rintro e w1 ⟨rfl,f1⟩
 replace B:=B.tm f1
 clear m
 have q:=B.wq 1 hk;have q0:=B.wq0 1 hk;have m:=B.q 0
 go_wp2_with fail
 go_ret
 exact ⟨rfl,f1⟩
theorem Ey (hMB:QG w pM pW pm pc pw n ve c ent mat) (hW:QL w pW n (upd f who (k.cells v))) (hk:who<n) (hne:pM≠pW) (hst:k.st=6) (HMW:∀w',Fr [] w w'→Calls Tryz.prog 39 #[.pointer (some ⟨pM,0,none⟩),.int .i64 who] w' fun e w2=>e=.returned (.bool false)∧Fr [] w' w2):
 Calls Tryz.prog 26 #[.pointer (some ⟨pM,0,none⟩),.int .i64 who] w fun e w'=>e=.returned (.bool false)∧Fr [] w w':=by
 have HHA:=hid (Zm w pM pW pm pc pw n ve c ent mat hMB who)
 rw [decide_eq_true Lb,decide_eq_true Lb] at HHA
 have B:Bag [pW] w [tRo false pM _ _,tW pW n f who _] w:=Zn hMB hW hne
 rw [Q8.cells,hst] at B
 have HMX:=hid HMW
 clear HMW
 clear hMB hW hne
 have m:=B.q 0
 go_in
 go_wp2_with fail
 refine HHA.out.mono ?_
 rintro e w1 ⟨rfl,f1⟩
 replace B:=B.tm f1
 clear m
 have q:=B.wq 1 hk;have q0:=B.wq0 1 hk;have m:=B.q 0
 go_wp2_with fail
 refine (HMX.out _ f1).mono ?_
 rintro e w2 ⟨rfl,f2⟩
 go_wp2
 go_ret
 exact ⟨rfl,f1.trans f2⟩
theorem Q2z (hMB:QG w pM pW pm pc pw n ve c ent mat) (hW:QL w pW n (upd f who (k.cells v))) (hk:who<n) (hne:pM≠pW) (hst:k.st≠0∧k.st≠6) (fn:FuncId) (A:Array Value) (hA:∀w,Calls Tryz.prog 40 #[] w fun e w'=>e=.returned (.agg A)∧Fr [] w w') (hix:∀wx:World,(Instr.index 100 (.agg A) (.int .i64 k.st)).run Tryz.prog wx=.ok (.func (.func fn) #[] #[]) wx) (hcf:∀(args:Array Value) (wx:World),(callFunc fn args).run Tryz.prog wx=.ok (.enter fn args) wx) (X:World→Prop) (HC:∀w',Fr [] w w'→Calls Tryz.prog fn #[.pointer (some ⟨pM,0,none⟩),.int .i64 who] w' fun e w2=>e=.returned (.tuple #[])∧X w2):
 Calls Tryz.prog 26 #[.pointer (some ⟨pM,0,none⟩),.int .i64 who] w fun e w'=>e=.returned (.bool true)∧X w':=by
 have HHA:=hid (Zm w pM pW pm pc pw n ve c ent mat hMB who)
 rw [decide_eq_true Lb,decide_eq_true Lb] at HHA
 have B:Bag [pW] w [tRo false pM _ _,tW pW n f who _] w:=Zn hMB hW hne
 dsimp only [Q8.cells] at B
 have e0:(k.st==0)=false:=by simp [hst.1]
 have e6:(k.st==6)=false:=by simp [hst.2]
 have HAA:=hid hA;have HCC:=hid HC
 clear hA HC
 clear hMB hW hne
 have m:=B.q 0
 go_in
 go_wp2_with fail
 refine HHA.out.mono ?_
 rintro e w1 ⟨rfl,f1⟩
 replace B:=B.tm f1
 clear m
 have q:=B.wq 1 hk;have q0:=B.wq0 1 hk;have m:=B.q 0
 go_wp2_with fail
 have f0:=f1
 clear q q0 m
 have f0:=f0.drew
 replace B:=B.drew
 refine wp_region_held_drew (S:=fun _=>True) (by kernel_rfl) trivial fun hHeld=> ?_
 refine tk 1 ?_
 refine tk 2 ?_
 refine tk 3 ?_
 refine tk 6 ?_
 refine tk 7 ?_
 have q0:=B.wq0 1 hk
 refine wpAnyH_ready (rs:=[0,4]) (by decide+kernel) Lc ?_
 refine AllReadyH.cons (o:=_) rfl (fun K hK=> ?_) (AllReadyH.cons (o:=_) rfl (fun K hK=> ?_) AllReadyH.nil)
 all_goals try simp only [List.getElem_toArray,List.getElem_cons_succ,List.getElem_cons_zero]
 go_simp
 refine (HAA.out _).mono ?_
 rintro e w3 ⟨rfl,f3⟩
 go_wp2_with fail
 refine hK.out _ _ trivial fun hHeld=> ?_
 clear hK K
 try go_frame
 have q0:=(B.tm f3).wq0 1 hk
 refine tc 4 fun K hK=> ?_
 go_simp
 refine hK.out _ _ trivial fun hHeld=> ?_
 clear hK K
 try go_frame
 rotate_left
 go_simp
 refine hK.out _ _ trivial fun hHeld=> ?_
 clear hK K
 try go_frame
 refine tc 0 fun K hK=> ?_
 go_simp
 refine (HAA.out _).mono ?_
 rintro e w3 ⟨rfl,f3⟩
 go_wp2_with fail
 refine hK.out _ _ trivial fun hHeld=> ?_
 clear hK K
 try go_frame
 all_goals
  refine tk 5 ?_
  refine tc 8 fun K hK=> ?_
  go_simp
  refine (HCC.out _ (f0.trans f3)).mono ?_
  rintro e w9 ⟨rfl,hX⟩
  go_wp2_with fail
  refine hK.out _ _ trivial fun hHeld=> ?_
  clear hK K
  try go_frame
  refine wpAnyH_done (by decide+kernel) ?_ _
  go_wp2_with fail
  go_ret
  exact ⟨rfl,hX⟩
theorem Q0W (hMB:QG w pM pW pm pc pw n ve c ent mat) (hW:QL w pW n (upd f who (k.cells v))) (hk:who<n) (hne:pM≠pW) (hst:k.st=6) (HMW:∀w',Fr [] w w'→Calls Tryz.prog 39 #[.pointer (some ⟨pM,0,none⟩),.int .i64 who] w' fun e w2=>e=.returned (.bool true)∧Fr [] w' w2) (fn:FuncId) (A:Array Value) (hA:∀w,Calls Tryz.prog 40 #[] w fun e w'=>e=.returned (.agg A)∧Fr [] w w') (hix:∀wx:World,(Instr.index 100 (.agg A) (.int .i64 k.st)).run Tryz.prog wx=.ok (.func (.func fn) #[] #[]) wx) (hcf:∀(args:Array Value) (wx:World),(callFunc fn args).run Tryz.prog wx=.ok (.enter fn args) wx) (X:World→Prop) (HC:∀w',Fr [] w w'→Calls Tryz.prog fn #[.pointer (some ⟨pM,0,none⟩),.int .i64 who] w' fun e w2=>e=.returned (.tuple #[])∧X w2):
 Calls Tryz.prog 26 #[.pointer (some ⟨pM,0,none⟩),.int .i64 who] w fun e w'=>e=.returned (.bool true)∧X w':=by
 have HHA:=hid (Zm w pM pW pm pc pw n ve c ent mat hMB who)
 rw [decide_eq_true Lb,decide_eq_true Lb] at HHA
 have B:Bag [pW] w [tRo false pM _ _,tW pW n f who _] w:=Zn hMB hW hne
 rw [Q8.cells,hst] at B
 rw [hst] at hix
 have HAA:=hid hA;have HCC:=hid HC;have HMX:=hid HMW
 clear hA HC HMW hst
 clear hMB hW hne
 have m:=B.q 0
 go_in
 go_wp2_with fail
 refine HHA.out.mono ?_
 rintro e w1 ⟨rfl,f1⟩
 replace B:=B.tm f1
 clear m
 have q:=B.wq 1 hk;have q0:=B.wq0 1 hk;have m:=B.q 0
 go_wp2_with fail
 refine (HMX.out _ f1).mono ?_
 rintro e w2 ⟨rfl,f2⟩
 replace B:=B.tm f2
 have f0:=f1.trans f2
 clear q q0 m
 have q:=B.wq 1 hk;have q0:=B.wq0 1 hk;have m:=B.q 0
 go_wp2_with fail
 clear q q0 m
 have f0:=f0.drew
 replace B:=B.drew
 refine wp_region_held_drew (S:=fun _=>True) (by kernel_rfl) trivial fun hHeld=> ?_
 refine tk 1 ?_
 refine tk 2 ?_
 refine tk 3 ?_
 refine tk 6 ?_
 refine tk 7 ?_
 have q0:=B.wq0 1 hk
 refine wpAnyH_ready (rs:=[0,4]) (by decide+kernel) Lc ?_
 refine AllReadyH.cons (o:=_) rfl (fun K hK=> ?_) (AllReadyH.cons (o:=_) rfl (fun K hK=> ?_) AllReadyH.nil)
 all_goals try simp only [List.getElem_toArray,List.getElem_cons_succ,List.getElem_cons_zero]
 go_simp
 refine (HAA.out _).mono ?_
 rintro e w3 ⟨rfl,f3⟩
 go_wp2_with fail
 refine hK.out _ _ trivial fun hHeld=> ?_
 clear hK K
 try go_frame
 have q0:=(B.tm f3).wq0 1 hk
 refine tc 4 fun K hK=> ?_
 go_simp
 refine hK.out _ _ trivial fun hHeld=> ?_
 clear hK K
 try go_frame
 rotate_left
 go_simp
 refine hK.out _ _ trivial fun hHeld=> ?_
 clear hK K
 try go_frame
 refine tc 0 fun K hK=> ?_
 go_simp
 refine (HAA.out _).mono ?_
 rintro e w3 ⟨rfl,f3⟩
 go_wp2_with fail
 refine hK.out _ _ trivial fun hHeld=> ?_
 clear hK K
 try go_frame
 all_goals
  refine tk 5 ?_
  refine tc 8 fun K hK=> ?_
  go_simp
  refine (HCC.out _ (f0.trans f3)).mono ?_
  rintro e w9 ⟨rfl,hX⟩
  go_wp2_with fail
  refine hK.out _ _ trivial fun hHeld=> ?_
  clear hK K
  try go_frame
  refine wpAnyH_done (by decide+kernel) ?_ _
  go_wp2_with fail
  go_ret
  exact ⟨rfl,hX⟩
end
section
open Go.RowKit Go.Shelf Go.Lib
attribute [local go_sem] Oper.semAt_some
variable (w:World) (pM pW pm pc pw n who:Nat) (ve:Value) (c:Q0) (ent mat:Int) (f:Nat→List Value) (k:Q8) (v:Je)
def QD.val (x:QD):Value:=.agg #[.int .i64 x.kind,.int .i64 x.who,.int .i64 x.ask.op,.int .i64 x.ask.dl,.bool x.ask.wait,.bool x.ask.force,.int .i64 x.ask.slot,.int .i64 x.ask.gen,.int .i64 x.ask.stream,.int .i64 x.n,.bool x.good]
theorem Z03 {P:Prop} (h:P:=by
 go_in
 go_wp2_with fail
 generalize hb:(World.heap _).size=pe,hw:World.alloc _ _=w1
 replace B:=B.al hw hb
 clear hw hb
 refine rg B fun _ B=> ?_
 refine tb ?_
 refine tb ?_
 refine tb ?_
 refine tc 3 fun K hK=> ?_
 go_simp
 refine (HHA.out _ (B.g 0)).mono ?_
 rintro e w2 ⟨rfl,f2⟩
 replace B:=B.tm f2
 go_wp2_with fail
 refine bk hK ?_
 clear hK K
 try go_frame
 repeat first|refine tb ?_|refine tv ?_
 refine wpAnyH_done (by decide+kernel) ?_ _
 go_wp2
 go_ret
 exact ⟨rfl,B.fr⟩):P:=h
theorem EB (w:World) (pM pW pm pc pw n:Nat) (ve:Value) (c:Q0) (ent mat:Int) (hMB:QG w pM pW pm pc pw n ve c ent mat) (x:QD) (hh:(decide (0≤x.who)&&decide (x.who<n))=false):Calls Tryz.prog 25 #[.pointer (some ⟨pM,0,none⟩),x.val] w fun e w'=>e=.returned (.bool false)∧Fr [] w w':=by
 have HHA:=hid fun w' h=>Zm w' pM pW pm pc pw n ve c ent mat h x.who
 rw [hh] at HHA
 unfold QD.val
 have B:=Bag.one hMB
 clear hMB hh
 obtain ⟨xk,xwho,⟨xop,xdl,xwt,xfc,xsl,xgn,xst⟩,xn,xgd⟩:=x
 dsimp only at HHA ⊢
 exact Z03
theorem Ve (hMB:QG w pM pW pm pc pw n ve c ent mat) (hW:QL w pW n (upd f who (k.cells v))) (hk:who<n) (hne:pM≠pW) (evs:List EvV) (hE:Xn w ve evs) (hlen:evs.length≤100000) (hve:∀b,ve.ownBlock=some b→b≠pM∧b≠pW) (x:QD) (hxw:x.who=(who:Int)) (h:k.st≠0∨k.st=0∧(1999≤evs.length∨¬1999≤evs.length∧(x.ask.op<0∨¬x.ask.op<0∧8≤x.ask.op))):Calls Tryz.prog 25 #[.pointer (some ⟨pM,0,none⟩),x.val] w fun e w'=>e=.returned (.bool false)∧Fr [] w w':=by
 have HHA:=hid fun w' h=>Zm w' pM pW pm pc pw n ve c ent mat h who
 rw [show (decide ((0:Int)≤(who:Int))&&decide ((who:Int)<(n:Int)))=true by simp [hk]] at HHA
 unfold QD.val
 obtain ⟨aE,capE,hvf⟩:=J3.form hE
 have B:=mbag0 hMB hW hne
 dsimp only [Q8.cells] at B
 rw [hvf] at B HHA
 clear hMB hW hne hE hve hvf
 obtain ⟨xk,xwho,⟨xop,xdl,xwt,xfc,xsl,xgn,xst⟩,xn,xgd⟩:=x
 dsimp only at hxw h ⊢
 subst hxw
 generalize k.st=st at B h
 rcases h with h|⟨rfl,h|⟨h,h2|⟨h2,h3⟩⟩⟩
 · have e1:(st==0)=false:=by simp [h]
   have e2:(st != 0)=true:=by simp [h]
   exact Z03
 · have e1:decide ((1999:Int)≤(evs.length:Int))=true:=decide_eq_true Lb
   exact Z03
 · have e1:decide ((1999:Int)≤(evs.length:Int))=false:=decide_eq_false Lb
   have e2:decide (xop<0)=true:=decide_eq_true h2
   exact Z03
 · have e1:decide ((1999:Int)≤(evs.length:Int))=false:=decide_eq_false Lb
   have e2:decide (xop<0)=false:=decide_eq_false h2
   have e3:decide (8≤xop)=true:=decide_eq_true h3
   exact Z03
theorem Q10 (hMB:QG w pM pW pm pc pw n ve c ent mat) (hW:QL w pW n (upd f who (k.cells v))) (hk:who<n) (hne:pM≠pW) (evs:List EvV) (hE:Xn w ve evs) (hlen:evs.length≤100000) (hve:∀b,ve.ownBlock=some b→b≠pM∧b≠pW) (x:QD) (hxw:x.who=(who:Int)) (hst:k.st=0) (hml:¬1999≤evs.length) (hop0:0≤x.ask.op) (hop:¬8≤x.ask.op):Calls Tryz.prog 25 #[.pointer (some ⟨pM,0,none⟩),x.val] w fun e w'=>e=.returned (.bool true)∧∃ve',QZ w' pM pW pm pc pw n who ve' c ent mat f {Ju with st:=1,ask:=x.ask} ⟨.nilFunc,.pointer none,.pointer none,.pointer none⟩∧Xn w' ve' (evs++[{ev0 with who:=x.who,at_:=mat,ask:=x.ask}])∧(∀b,ve'.ownBlock=some b→ve.ownBlock=some b∨w.heap.size≤b)∧Fr (pM::pW::ve.ownBlock.toList) w w':=by
 have HHA:=hid fun w' h=>Zm w' pM pW pm pc pw n ve c ent mat h who
 rw [show (decide ((0:Int)≤(who:Int))&&decide ((who:Int)<(n:Int)))=true by simp [hk]] at HHA
 unfold QD.val
 obtain ⟨aE,capE,hvf⟩:=J3.form hE
 have B:=mbagE hMB hW hne hE hve
 dsimp only [Q8.cells] at B
 rw [hst] at B
 have HVF:=hid hvf
 clear hMB hW hne hE hve hst
 obtain ⟨xk,xwho,⟨xop,xdl,xwt,xfc,xsl,xgn,xst⟩,xn,xgd⟩:=x
 dsimp only at hxw hop hop0 ⊢
 subst hxw
 have e1:decide ((1999:Int)≤(evs.length:Int))=false:=decide_eq_false Lb
 have e2:decide (xop<0)=false:=decide_eq_false Lb
 have e3:decide (8≤xop)=false:=decide_eq_false hop
 go_in
 go_wp2_with fail
 generalize hb:(World.heap _).size=pe,hw:World.alloc _ _=w1
 replace B:=B.al hw hb
 clear hw hb
 replace B:=B.sel [0,1,3,2]
 have B0:=B
 rw [hvf] at B HHA
 clear hvf
 refine rgf B fun _ fc B=> ?_
 refine tb ?_
 refine tb ?_
 refine tb ?_
 refine tc 3 fun K hK=> ?_
 go_simp
 refine (HHA.out _ (B.g 0)).mono ?_
 rintro e w2 ⟨rfl,f2⟩
 replace B:=B.tm f2
 go_wp2_with fail
 refine bk hK ?_
 clear hK K
 try go_frame
 repeat first|refine tb ?_|refine tv ?_
 refine wpAnyH_done (by decide+kernel) ?_ _
 replace B:=B0.tm (fc.trans f2)
 clear B0
 go_wp2_with fail
 refine rgci 0 8 [0,1,2] B fun _ B=> ?_
 iterate 4 refine tb ?_
 refine tj 5 ?_
 refine tj 6 ?_
 refine tj 7 ?_
 refine tj 8 ?_
 refine tj 9 ?_
 refine tj 10 ?_
 refine tj 11 ?_
 refine tj 12 ?_
 refine tj 13 ?_
 refine wpAnyH_ready (rs:=[4,14]) (by decide+kernel) Lc ?_
 refine AllReadyH.cons (o:=_) rfl (fun K hK=> ?_) (AllReadyH.cons (o:=_) rfl (fun K hK=> ?_) AllReadyH.nil)
 all_goals try simp only [List.getElem_toArray,List.getElem_cons_succ,List.getElem_cons_zero]
 have m:=B.q 0
 go_simp
 refine bk hK ?_
 clear hK K
 try go_frame
 clear m
 refine tc 14 fun K hK=> ?_
 go_simp
 generalize hb:(World.heap _).size=bE,hw:World.alloc _ _=w4
 replace B:=B.al hw hb
 refine bk hK ?_
 clear hK K
 try go_frame
 rotate_left
 go_simp
 generalize hb:(World.heap _).size=bE,hw:World.alloc _ _=w4
 replace B:=B.al hw hb
 refine bk hK ?_
 clear hK K
 try go_frame
 have m:=B.q 0
 refine tc 4 fun K hK=> ?_
 go_simp
 refine bk hK ?_
 clear hK K
 try go_frame
 clear m
 all_goals
  obtain ⟨g,off,cap2,w5,hrun,hg,B5⟩:=B.evs 3 4 [.bool false,.int .i64 who,.int .i64 mat,.int .i64 xop,.int .i64 xdl,.bool xwt,.bool xfc,.int .i64 xsl,.int .i64 xgn,.int .i64 xst,.int .i64 0,.int .i64 0,.int .i64 0,.int .i64 0,.int .i64 0,.int .i64 0,.int .i64 0,.int .i64 0] hlen
  refine tc 15 fun K hK=> ?_
  refine Vq _ _ _ _ rfl _ _ rfl rfl hrun ?_
  replace hg:=hg.imp id (Nat.le_trans B.fr.size)
  replace B:=B5
  simp only [List.set_cons_zero,List.set_cons_succ] at B
  clear B5 hrun
  refine bk hK ?_
  clear hK K
  try go_frame
  refine tb ?_
  refine tb ?_
  have u:=B.u 0;have m:=B.q 0
  refine tc 18 fun K hK=> ?_
  go_simp
  clear u m
  generalize hw:World.setCell _ _ _=w6
  replace B:=(B.s 0).e hw
  refine bk hK ?_
  clear hK K
  try go_frame
  refine wpAnyH_done (by decide+kernel) ?_ _
  go_wp2_with fail
  refine rgx [0,2] B fun _ B=> ?_
  iterate 10 refine tb ?_
  obtain ⟨w8,hrun,hw2,fs⟩:=(B.g 1).sto0 (P:=Tryz.prog) hk [.int .i64 1,.int .i64 xop,.int .i64 xdl,.bool xwt,.bool xfc,.int .i64 xsl,.int .i64 xgn,.int .i64 xst,.bool false,.int .i64 0,.int .i64 0,.nilFunc,.pointer none,.pointer none,.pointer none,.bool false,.bool false,.bool false,.int .i64 0,.int .i64 0,.int .i64 0,.int .i64 0,.bool false,.bool false,.int .i64 0,.int .i64 0,.int .i64 0,.int .i64 0,.int .i64 0,.int .i64 0,.int .i64 0,.int .i64 0,.int .i64 0,.int .i64 0,.int .i64 0] 80 (by kernel_rfl) Lc (by simp [Value.oneCell']) rfl
  refine tc 10 fun K hK=> ?_
  refine Yp _ _ _ rfl _ _ rfl rfl hrun ?_
  replace B:=B.up 1 (T':=tW pW n f who _) hw2 fs
  clear hrun
  refine bk hK ?_
  clear hK K
  try go_frame
  refine wpAnyH_done (by decide+kernel) ?_ _
  go_wp2
  go_ret
  refine ⟨rfl,_,⟨B.g 0,B.g 1⟩, ?_,fun b hb=>by cases hb;exact hg,B.fr⟩
  unfold Xn
  rw [List.length_append,List.flatMap_append]
  exact B.g 3
end
section
open Go.RowKit Go.Shelf Go.Lib
attribute [local go_sem] Oper.semAt_some
theorem Q2L (w:World) (pM pW pm pc pw n:Nat) (ve:Value) (c:Q0) (ent mat:Int) (hMB:QG w pM pW pm pc pw n ve c ent mat) (h0:0≤ent) (h1:ent≤1000000000) (x:QD) (hk:x.kind=0) (b:Bool) (X:World→Prop) (HI:∀w',QG w' pM pW pm pc pw n ve c (ent+1) ent→Fr [pM] w w'→Calls Tryz.prog 25 #[.pointer (some ⟨pM,0,none⟩),x.val] w' fun e w2=>e=.returned (.bool b)∧X w2):Calls Tryz.prog 11 #[.pointer (some ⟨pM,0,none⟩),x.val] w fun e w'=>e=.returned (.bool b)∧X w':=by
 unfold QD.val at*
 have B:Bag [pM] w [tR pM _ _] w:=Bag.own hMB
 have HCX:=hid HI
 clear HI
 clear hMB
 obtain ⟨xk,xwho,⟨xop,xdl,xwt,xfc,xsl,xgn,xst⟩,xn,xgd⟩:=x
 dsimp only at*
 subst hk
 have q:=B.qa 0;have u:=B.ua 0
 have n1:¬pM=w.heap.size:=by have:=B.lt 0 pM (by simp [gt]);omega
 have n2:¬w.heap.size=pM:=Lb
 go_in
 go_wp2_with fail
 clear q u n1 n2
 generalize hb:(World.heap _).size=pe,hw:World.alloc _ _=w1
 generalize hw2:World.setCell _ _ _=w2
 replace B:=(((B.al hw hb).s 0).s 0).e hw2
 refine (HCX.out _ (B.g 0) B.fr).mono ?_
 rintro e w9 ⟨rfl,hX⟩
 go_wp2
 go_ret
 exact ⟨rfl,hX⟩
theorem Z0a {P:Prop} (h:P:=by
 unfold QD.val at*
 have B:Bag [pM] w [tR pM _ _] w:=Bag.own hMB
 have HCX:=hid HI
 clear HI
 clear hMB
 obtain ⟨xk,xwho,⟨xop,xdl,xwt,xfc,xsl,xgn,xst⟩,xn,xgd⟩:=x
 dsimp only at*
 subst hk
 have q:=B.qa 0;have u:=B.ua 0
 have n1:¬pM=w.heap.size:=by have:=B.lt 0 pM (by simp [gt]);omega
 have n2:¬w.heap.size=pM:=Lb
 go_in
 go_wp2_with fail
 clear q u n1 n2
 generalize hb:(World.heap _).size=pe,hw:World.alloc _ _=w1
 generalize hw2:World.setCell _ _ _=w2
 replace B:=(((B.al hw hb).s 0).s 0).e hw2
 have r:=B.q 1;have m:=B.q 0
 go_wp2_with fail
 clear r m
 refine (HCX.out _ (B.g 0) B.fr).mono ?_
 rintro e w9 ⟨rfl,hX⟩
 go_wp2
 go_ret
 exact ⟨rfl,hX⟩):P:=h
theorem Q6N (w:World) (pM pW pm pc pw n:Nat) (ve:Value) (c:Q0) (ent mat:Int) (hMB:QG w pM pW pm pc pw n ve c ent mat) (h0:0≤ent) (h1:ent≤1000000000) (x:QD) (hk:x.kind=1) (b:Bool) (X:World→Prop) (HI:∀w',QG w' pM pW pm pc pw n ve c (ent+1) ent→Fr [pM] w w'→Calls Tryz.prog 26 #[.pointer (some ⟨pM,0,none⟩),.int .i64 x.who] w' fun e w2=>e=.returned (.bool b)∧X w2):Calls Tryz.prog 11 #[.pointer (some ⟨pM,0,none⟩),x.val] w fun e w'=>e=.returned (.bool b)∧X w':=by
 exact Z0a
theorem Q2M (w:World) (pM pW pm pc pw n:Nat) (ve:Value) (c:Q0) (ent mat:Int) (hMB:QG w pM pW pm pc pw n ve c ent mat) (h0:0≤ent) (h1:ent≤1000000000) (x:QD) (hk:x.kind=4) (b:Bool) (X:World→Prop) (HI:∀w',QG w' pM pW pm pc pw n ve c (ent+1) ent→Fr [pM] w w'→Calls Tryz.prog 29 #[.pointer (some ⟨pM,0,none⟩),.int .i64 x.ask.slot] w' fun e w2=>e=.returned (.bool b)∧X w2):Calls Tryz.prog 11 #[.pointer (some ⟨pM,0,none⟩),x.val] w fun e w'=>e=.returned (.bool b)∧X w':=by
 exact Z0a
theorem Q6M (w:World) (pM pW pm pc pw n:Nat) (ve:Value) (c:Q0) (ent mat:Int) (hMB:QG w pM pW pm pc pw n ve c ent mat) (h0:0≤ent) (h1:ent≤1000000000) (x:QD) (hk:x.kind=2) (r:Int) (X:World→Prop) (L:List Nat) (HI:∀w',QG w' pM pW pm pc pw n ve c (ent+1) ent→Fr [pM] w w'→Calls Tryz.prog 27 #[.pointer (some ⟨pc,0,none⟩),.int .i64 x.n] w' fun e w2=>e=.returned (.int .i64 r)∧X w2∧Fr L w' w2) (hLp:pM∉L) (hLb:∀b∈L,b<w.heap.size):Calls Tryz.prog 11 #[.pointer (some ⟨pM,0,none⟩),x.val] w fun e w'=>e=.returned (.bool true)∧X w':=by
 unfold QD.val at*
 have B:Bag [pM] w [tR pM _ _] w:=Bag.own hMB
 have HCX:=hid HI
 clear HI
 clear hMB
 obtain ⟨xk,xwho,⟨xop,xdl,xwt,xfc,xsl,xgn,xst⟩,xn,xgd⟩:=x
 dsimp only at*
 subst hk
 have q:=B.qa 0;have u:=B.ua 0
 have n1:¬pM=w.heap.size:=by have:=B.lt 0 pM (by simp [gt]);omega
 have n2:¬w.heap.size=pM:=Lb
 go_in
 go_wp2_with fail
 clear q u n1 n2
 generalize hb:(World.heap _).size=pe,hw:World.alloc _ _=w1
 generalize hw2:World.setCell _ _ _=w2
 replace B:=(((B.al hw hb).s 0).s 0).e hw2
 have r:=B.q 1;have m:=B.q 0
 go_wp2_with fail
 clear r m
 have hf:=B.fr
 replace B:=B.mono (S1:=pM::L) Lc
 refine rgf B fun _ fc B=> ?_
 repeat refine tb ?_
 refine tc 6 fun K hK=> ?_
 go_simp
 refine (HCX.out _ (B.g 0) (hf.trans (fc.mono Lc))).mono ?_
 rintro e w9 ⟨rfl,hX,f9⟩
 replace B:=B.fo f9 (fun x hx=>by simp [hx]) (fun i x hx hm=>by
  have h1:=hLb x hm
  rcases i with _|_|i
  · simp [gt] at hx;exact hLp (hx▸hm)
  · simp [gt] at hx;omega
  · simp [gt,Th.nil] at hx)
 go_wp2_with fail
 refine bk hK ?_
 clear hK K
 try go_frame
 refine wpAnyH_done (by decide+kernel) ?_ _
 go_wp2
 go_ret
 exact ⟨rfl,hX⟩
theorem Q6P (w:World) (pM pW pm pc pw n:Nat) (ve:Value) (c:Q0) (ent mat:Int) (hMB:QG w pM pW pm pc pw n ve c ent mat) (h0:0≤ent) (h1:ent≤1000000000) (x:QD) (hk:x.kind=3) (b:Bool) (X:World→Prop) (L:List Nat) (HI:∀w',QG w' pM pW pm pc pw n ve c (ent+1) ent→Fr [pM] w w'→Calls Tryz.prog 28 #[.pointer (some ⟨pw,0,none⟩),.bool x.good] w' fun e w2=>e=.returned (.bool b)∧X w2∧Fr L w' w2) (hLp:pM∉L) (hLb:∀b∈L,b<w.heap.size):Calls Tryz.prog 11 #[.pointer (some ⟨pM,0,none⟩),x.val] w fun e w'=>e=.returned (.bool b)∧X w':=by
 unfold QD.val at*
 have B:Bag [pM] w [tR pM _ _] w:=Bag.own hMB
 have HCX:=hid HI
 clear HI
 clear hMB
 obtain ⟨xk,xwho,⟨xop,xdl,xwt,xfc,xsl,xgn,xst⟩,xn,xgd⟩:=x
 dsimp only at*
 subst hk
 have q:=B.qa 0;have u:=B.ua 0
 have n1:¬pM=w.heap.size:=by have:=B.lt 0 pM (by simp [gt]);omega
 have n2:¬w.heap.size=pM:=Lb
 go_in
 go_wp2_with fail
 clear q u n1 n2
 generalize hb:(World.heap _).size=pe,hw:World.alloc _ _=w1
 generalize hw2:World.setCell _ _ _=w2
 replace B:=(((B.al hw hb).s 0).s 0).e hw2
 have r:=B.q 1;have m:=B.q 0
 go_wp2_with fail
 clear r m
 have hf:=B.fr
 replace B:=B.mono (S1:=pM::L) Lc
 refine rgf B fun _ fc B=> ?_
 repeat refine tb ?_
 refine tc 6 fun K hK=> ?_
 go_simp
 refine (HCX.out _ (B.g 0) (hf.trans (fc.mono Lc))).mono ?_
 rintro e w9 ⟨rfl,hX,f9⟩
 replace B:=B.fo f9 (fun x hx=>by simp [hx]) (fun i x hx hm=>by
  have h1:=hLb x hm
  rcases i with _|_|i
  · simp [gt] at hx;exact hLp (hx▸hm)
  · simp [gt] at hx;omega
  · simp [gt,Th.nil] at hx)
 go_wp2_with fail
 refine bk hK ?_
 clear hK K
 try go_frame
 refine tb ?_
 refine wpAnyH_done (by decide+kernel) ?_ _
 go_wp2
 go_ret
 exact ⟨rfl,hX⟩
theorem Q6O (w:World) (pM pW pm pc pw n:Nat) (ve:Value) (c:Q0) (ent mat:Int) (hMB:QG w pM pW pm pc pw n ve c ent mat) (h0:0≤ent) (h1:ent≤1000000000) (x:QD) (hk:x.kind≠0∧x.kind≠1∧x.kind≠2∧x.kind≠3∧x.kind≠4):Calls Tryz.prog 11 #[.pointer (some ⟨pM,0,none⟩),x.val] w fun e w'=>e=.returned (.bool false)∧QG w' pM pW pm pc pw n ve c (ent+1) ent∧Fr [pM] w w':=by
 unfold QD.val at*
 have B:Bag [pM] w [tR pM _ _] w:=Bag.own hMB
 clear hMB
 obtain ⟨xk,xwho,⟨xop,xdl,xwt,xfc,xsl,xgn,xst⟩,xn,xgd⟩:=x
 dsimp only at*
 have e0:(xk==0)=false:=by simp [hk.1]
 have e1:(xk==1)=false:=by simp [hk.2.1]
 have e2:(xk==2)=false:=by simp [hk.2.2.1]
 have e3:(xk==3)=false:=by simp [hk.2.2.2.1]
 have e4:(xk==4)=false:=by simp [hk.2.2.2.2]
 have q:=B.qa 0;have u:=B.ua 0
 have n1:¬pM=w.heap.size:=by have:=B.lt 0 pM (by simp [gt]);omega
 have n2:¬w.heap.size=pM:=Lb
 go_in
 go_wp2_with fail
 clear q u n1 n2
 generalize hb:(World.heap _).size=pe,hw:World.alloc _ _=w1
 generalize hw2:World.setCell _ _ _=w2
 replace B:=(((B.al hw hb).s 0).s 0).e hw2
 have r:=B.q 1
 go_wp2
 go_ret
 exact ⟨rfl,B.g 0,B.fr⟩
end
end Go.Proofs.YtgjklfmnmljilaaGreatDoor
