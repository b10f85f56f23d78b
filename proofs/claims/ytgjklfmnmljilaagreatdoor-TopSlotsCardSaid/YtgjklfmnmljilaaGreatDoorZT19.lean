/- A part of the proof: TpYj to TpKf. -/
import Derived.Test.YtgjklfmnmljilaaGreatDoorZT03
import Derived.Test.YtgjklfmnmljilaaGreatDoorZT17
import Derived.Test.YtgjklfmnmljilaaGreatDoorZT18
import Derived.Deep.WholeRow
namespace Go.Proofs.YtgjklfmnmljilaaGreatDoor
set_option linter.unusedVariables false
set_option linter.unusedSimpArgs false
set_option linter.unusedSectionVars false
set_option linter.unnecessarySimpa false
set_option maxRecDepth 100000
set_option maxHeartbeats 8000000
section
open Go.RowKit Go.Shelf Go.Lib
attribute [local go_sem] Oper.semAt_some
def Z7:List FuncId:=[178,179,180,181,182,183,184,185,186,187,188,189,190,191,192,193,194,195]
theorem Q0i (w:World):Calls Tryz.prog 121 #[] w fun e w'=>e=.returned (.agg (Xk Z7))∧Fr [] w w':=by
 have HF:=hid ((Fr.refl [] w).alloc (.cells (Xk Z7) 183))
 have hl:=run_loadVar_new (P:=Tryz.prog) w 183 (Xk Z7) 18 182 (by kernel_rfl) (by kernel_rfl)
 go_in
 go_wp2
 refine ⟨rfl,.agg (Xk Z7), ?_,rfl,HF.out⟩
 clear HF
 change Sem.run _ (results Tryz.f121 #[.pointer (some {block:=w.heap.size,off:=0}),.agg (Xk Z7)]) (w.alloc (.cells (Xk Z7) 183))=.ok (.agg (Xk Z7)) (w.alloc (.cells (Xk Z7) 183))
 generalize Xk Z7=A at hl ⊢
 have e:results Tryz.f121 #[.pointer (some {block:=w.heap.size,off:=0}),.agg A]=(do let v ←loadVar 183 ⟨w.heap.size,0,none⟩;pure v):=by
  simp [results,Tryz.f121,go_sem]
 rw [e]
 simp only [Sem.run_bind,hl,Result.andThen_ok,Sem.run_pure]
def Q09 (w:World) (p pm qm:Nat) (pl pr:Option Nat) (c:Q0) (n:Int) (x:Qh×List Int) (e:Ending) (w':World):Prop:=
 e=.returned (.bool (decide (x.1.st=17)))∧∃pl' pr',Jp w' p pm qm pl' pr' c x.1∧Ql w' pm qm x.2 (n+1)∧Fr (p::pm::qm::(pl.toList++pr.toList)) w w'∧
  (∀b,pl'=some b→pl=some b∨w.heap.size≤b)∧(∀b,pr'=some b→pr=some b∨w.heap.size≤b)
theorem Q1Y {w w1 w2:World} {p pm qm:Nat} {pl pr:Option Nat} {c:Q0} {n:Int} {x:Qh×List Int} {e:Ending} (f:Fr [] w w1) (h:XK w1 p pm qm pl pr c n x e w2):Q09 w p pm qm pl pr c n x (.returned (.bool (decide (x.1.st=17)))) w2:=by
 obtain ⟨-,pl',pr',ht,hm,hf,h1,h2⟩:=h
 exact ⟨rfl,pl',pr',ht,hm,(f.mono (by simp)).trans hf,fun b hb=>(h1 b hb).imp id (Nat.le_trans f.size),fun b hb=>(h2 b hb).imp id (Nat.le_trans f.size)⟩
theorem yd_fr {w w':World} {p pm qm:Nat} {pl pr:Option Nat} {c:Q0} {t:Qh} (h:Jp w p pm qm pl pr c t) (f:Fr [] w w'):Jp w' p pm qm pl pr c t:=
 have lk:=h.lk.fr f (by simp)
 have rt:=h.rt.fr f (by simp)
 ⟨h.blk.fr f (by simp),lk,rt,VZ h.ft f.size (fun b hb=>.inl hb) (fun b hb=>.inl hb) lk.lt rt.lt h.ft.lr⟩
theorem Q43 {w:World} {p pm qm:Nat} {pl pr:Option Nat} {c:Q0} {t:Qh} {n:Int} {X:Qh×List Int} {k:Nat} (hb:Jq w p pl pr c t) (hk:k<18) (hst:t.st=k)
 (hC:∀w',Fr [] w w'→Calls Tryz.prog (Z7.getD k 0) #[.pointer (some ⟨p,0,none⟩),.pointer (some ⟨pm,0,none⟩)] w' (XK w' p pm qm pl pr c n X)):
 Calls Tryz.prog 85 #[.pointer (some ⟨p,0,none⟩),.pointer (some ⟨pm,0,none⟩)] w (Q09 w p pm qm pl pr c n X):=by
 have hix:∀k<18,∀wx:World,(Instr.index 183 (.agg (Xk Z7)) (.int .i64 (k:Nat))).run Tryz.prog wx=.ok (.func (.func (Z7.getD k 0)) #[] #[]) wx:=fun k hk wx=>by
  rcases (by omega:k=0∨k=1∨k=2∨k=3∨k=4∨k=5∨k=6∨k=7∨k=8∨k=9∨k=10∨k=11∨k=12∨k=13∨k=14∨k=15∨k=16∨k=17) with rfl|rfl|rfl|rfl|rfl|rfl|rfl|rfl|rfl|rfl|rfl|rfl|rfl|rfl|rfl|rfl|rfl|rfl<;>kernel_rfl
 replace hix:=hix k hk
 have hcf:=VN (P:=Tryz.prog) (L:=Z7) (k:=k) (by decide+kernel) hk
 have HC:=hid hC
 have B:=Bag.one hb
 rw [hst] at B
 clear hC hb hst hk
 have HA:=hid Q0i
 generalize Xk Z7=A at HA hix
 generalize Z7.getD k 0=fn at HC hix hcf
 generalize (k:Int)=ts at B hix
 have q:=B.q 0
 go_in
 go_wp2_with fail
 refine wp_region_held_drew (S:=fun w'=>True) (by kernel_rfl) trivial (fun hHeld=> ?_)
 refine tk 1 ?_
 refine tk 2 ?_
 refine tk 3 ?_
 refine tk 6 ?_
 refine tk 7 ?_
 refine wpAnyH_ready (rs:=[0,4]) (by kernel_rfl) (by simp) ?_
 refine AllReadyH.cons (o:=_) rfl (fun K hK=> ?_) (AllReadyH.cons (o:=_) rfl (fun K hK=> ?_) AllReadyH.nil)
 all_goals
  simp only [List.getElem_toArray,List.getElem_cons_succ,List.getElem_cons_zero]
  go_simp
  first
   |(refine (HA.out _).mono ?_
     rintro e w1 ⟨rfl,f1⟩
     replace B:=B.drew.tm f1
     clear q
     have q:=B.q 0
     go_wp2_with fail
     refine hK.out _ _ trivial (fun hHeld=> ?_)
     clear hK K
     try go_frame
     refine tc 4 (fun K hK=> ?_)
     go_simp
     refine hK.out _ _ trivial (fun hHeld=> ?_)
     clear hK K
     try go_frame)
   |(refine hK.out _ _ trivial (fun hHeld=> ?_)
     clear hK K
     try go_frame
     refine tc 0 (fun K hK=> ?_)
     go_simp
     refine (HA.out _).mono ?_
     rintro e w1 ⟨rfl,f1⟩
     replace B:=B.drew.tm f1
     go_wp2_with fail
     refine hK.out _ _ trivial (fun hHeld=> ?_)
     clear hK K
     try go_frame)
  clear q
  refine tk 5 ?_
  refine tc 8 (fun K hK=> ?_)
  go_simp
  refine (HC.out _ B.fr).mono ?_
  rintro e w2 h2
  have HX:=hid (Q1Y B.fr h2)
  obtain ⟨rfl,pl',pr',ht, -⟩:=h2
  go_wp2_with fail
  refine hK.out _ _ trivial (fun hHeld=> ?_)
  clear hK K
  try go_frame
  refine wpAnyH_done (by kernel_rfl) ?_ _
  have q:=(Bag.one ht.blk).q 0
  clear ht B
  obtain ⟨X1,X2⟩:=X
  dsimp only at HX q
  generalize X1.st=xs at HX q
  by_cases h15:xs=17
  · subst h15
    go_wp2
    go_ret
    exact HX.out
  · rw [decide_eq_false h15] at HX
    go_wp2
    go_ret
    first
    |exact HX.out
    |(rw [show (xs==17)=false by simp [h15]];exact HX.out)
def PinsOk (c:Q0) (M:List Int):Prop:=∀k:Int,0≤k→k<c.wo→ -4611686018427387904≤Q7 M (3+k)∧Q7 M (3+k)≤4611686018427387904
structure Qh.ok (c:Q0) (t:Qh):Prop where
 s0:0≤t.st
 s1:t.st≤17
 w0:0≤t.w
 w1:t.w<c.wo
 ep:t.st=1→ -4611686018427387904≤t.epoch∧t.epoch≤4611686018427387904
 lk:t.st=3∨t.st=5∨t.st=9→∃f,t.look=some f∧f.ok c
 fd:t.st=6∨t.st=7∨t.st=10→∃f s,t.look=some f∧f.ok c∧Q8.right s∧t.word=s.enc
 rt:t.st=4→∃f r,t.look=some f∧f.ok c∧t.ret=some r∧r.ok
 ot:t.st=6→0≤t.other∧t.other<c.wo
 hd:t.st=10∨t.st=11∨t.st=12→0≤t.head∧t.head<c.wo
 ln:t.st=11→Ln t.queue
 i:10≤t.st∧t.st≤14→0≤t.i∧t.i<c.sl
 wd:t.st=14→∃s,Q8.right s∧t.word=s.enc
theorem Q44 (w:World) (p pm qm:Nat) (pl pr:Option Nat) (c:Q0) (t:Qh) (M:List Int) (n:Int) (hT:Jp w p pm qm pl pr c t) (hM:Ql w pm qm M n) (hn:n≤1000000000) (hok:t.ok c) (hS:JX c M) (hQ:MOk M) (hP:PinsOk c M) (hc:c.fits) (hG:Qf w 0 Qc):
 Calls Tryz.prog 85 #[.pointer (some ⟨p,0,none⟩),.pointer (some ⟨pm,0,none⟩)] w (Q09 w p pm qm pl pr c n (Qk c t M)):=by
 obtain ⟨k,hk,hst⟩:∃k:Nat,k<18∧t.st=(k:Int):=⟨t.st.toNat,by have:=hok.s0;have:=hok.s1;omega,by have:=hok.s0;omega⟩
 refine Q43 hT.blk hk hst ?_
 intro w' f
 have hT':=yd_fr hT f
 have hM':=hM.fr f (by simp) (by simp)
 have hG':=hG.fr f (by simp)
 have w8:t.w≤15:=by have:=hok.w1;have:=hc.1.2;omega
 clear hT hM hG f
 match k,hk with
 |0,_=>exact Q21 hT' hM' hG' hn hst
 |1,_=>exact Q5X hT' hM' hG' hn hst hc hok.w0 hok.w1 (hok.ep hst).1 (hok.ep hst).2
 |2,_=>exact UW hT' hM' hG' hn hst
 |3,_=>obtain ⟨f,h1,h2⟩:=hok.lk (by rw [hst];simp);exact Q1X hT' hM' hG' hn f h1 hst h2 hS hc
 |4,_=>obtain ⟨f,r,h1,h2,h3,h4⟩:=hok.rt hst;exact Q4a hT' hM' hG' hn f r h1 h3 hst h4
 |5,_=>obtain ⟨f,h1,h2⟩:=hok.lk (by rw [hst];simp);exact Q5Y hT' hM' hG' hn f h1 hst h2 hS hc
 |6,_=>obtain ⟨f,s,h1,h2,h3,h4⟩:=hok.fd (by rw [hst];simp);obtain ⟨o0,o1⟩:=hok.ot hst;obtain ⟨b0,b1⟩:=hP _ o0 o1;exact Q47 hT' hM' hG' hn f s h3 h4 h1 hst ⟨h2.a0,by have:=h2.a1;omega⟩ o0 o1 b0 b1 hc
 |7,_=>obtain ⟨f,s,h1,h2,h3,h4⟩:=hok.fd (by rw [hst];simp);exact Q20 hT' hM' hG' hn f s h3 h4 h1 hst ⟨h2.a0,by have:=h2.a1;omega⟩ hok.w0 w8 hc
 |8,_=>exact Q48 hT' hM' hG' hn hst hQ.2.1 hQ.2.2
 |9,_=>obtain ⟨f,h1,h2⟩:=hok.lk (by rw [hst];simp);exact Q45 hT' hM' hG' hn f h1 hst h2 hS hc
 |10,_=>obtain ⟨f,s,h1,h2,h3,h4⟩:=hok.fd (by rw [hst];simp);obtain ⟨o0,o1⟩:=hok.hd (by rw [hst];simp);exact Q49 hT' hM' hG' hn f s h3 h4 h1 hst o0 (by have:=hc.1.2;omega) hc
 |11,_=>exact Q5W hT' hM' hG' hn hst hQ (hok.ln hst)
 |12,_=>obtain ⟨o0,o1⟩:=hok.hd (by rw [hst];simp);obtain ⟨i0,i1⟩:=hok.i (by rw [hst];simp);exact Q1Z hT' hM' hG' hn hst hc o0 o1 i0 (by have:=hc.2.1;omega)
 |13,_=>obtain ⟨i0,i1⟩:=hok.i (by rw [hst];simp);obtain ⟨s,h3,h4⟩:=hS t.i i0 i1;exact Q4b hT' hM' hG' hn s hst h3 (by unfold Q5;rw [if_pos ⟨i0,i1⟩];exact h4) hc
 |14,_=>obtain ⟨s,h1,h2⟩:=hok.wd hst;exact Q0h hT' hM' hG' hn s h1 h2 hst hok.w0 w8 hc
 |15,_=>exact Q1W hT' hM' hG' hn hst hc hok.w0 hok.w1
 |16,_=>exact Q22 hT' hM' hG' hn hst
 |17,_=>exact Q46 hT' hM' hG' hst
 |k+18,hk=>exact absurd hk (by omega)
def YNewP (w:World) (c:Q0) (t:Qh) (e:Ending) (w':World):Prop:=∃p,e=.returned (.pointer (some ⟨p,0,none⟩))∧w.heap.size≤p∧Jq w' p none none c t∧Fr [] w w'
theorem Q5Z (w:World) (c:Q0) (who:Int):Calls Tryz.prog 120 #[c.val,.int .i64 who] w (YNewP w c (QG who)):=by
 obtain ⟨wo,sl,sst,wa,us⟩:=c
 dsimp only [Q0.val]
 go_in
 go_wp2
 go_ret
 exact ⟨_,rfl,Nat.le_succ _,by rw [←World.size_alloc];exact heap_alloc_new _ _,((Fr.refl [] w).alloc _).alloc _⟩
end
section
open Go.RowKit Go.Shelf Go.Lib
attribute [local go_sem] Oper.semAt_some
theorem Zi (c:Q0) (t:Qe) (M:List Int) (i:Int) (s:Q8) (d:Nat) (hs:s.right):
 (∃(u:Q8) (M1:List Int),u.right∧∀k,JU c {t with st:=k} M i s.enc d=({t with st:=k,i:=i,word:=u.enc,gen:=u.gen},M1,true))∨(∀k,JU c {t with st:=k} M i s.enc d=({t with st:=k},M,false)):=by
 have e:=fun k=>Vx c {t with st:=k} M i s d hs
 dsimp only at e
 cases hx:Qj s d t.w 0 with
 |none=>exact .inr fun k=>by rw [e k,hx]
 |some u=>
  by_cases hc:Qv M (Q5 c i) s.enc=true
  · refine .inl ⟨u,QL M (Q5 c i) s.enc u.enc,Jw hs hx,fun k=> ?_⟩
    rw [e k,hx]
    dsimp only
    rw [if_pos hc]
  · refine .inr fun k=> ?_
    rw [e k,hx]
    dsimp only
    rw [if_neg hc]
theorem Q7E {c:Q0} {f:Qi} (M:List Int) (h:f.ok c):0≤(Qx c f M).1.at_∧(Qx c f M).1.at_≤1000:=by
 have h0:=h.a0;have h1:=h.a1
 unfold Qx
 split
 · exact ⟨h0,by show f.at_≤1000;omega⟩
 · dsimp only
   split
   · exact ⟨h0,by show f.at_≤1000;omega⟩
   · exact ⟨by show 0≤f.at_+1;omega,by show f.at_+1≤1000;omega⟩
section
variable {w:World} {p pm qm:Nat} {pl pr:Option Nat} {c:Q0} {t:Qe} {M:List Int} {n:Int} {good:Bool}
theorem Q0y (hT:Zr w p pm qm pl pr c t) (hM:Ql w pm qm M n) (hG:Qf w 0 Qc) (hn:n≤1000000000) (hst:t.st=0):Y1 218 w p pm qm pl pr c t M n good:=by
 have HL:=hid fun w' h=>Za w' pm qm M n 0 h hn
 refine Zt.of hT hM hG fun S wo sl sst wa us tw ts tlook ti tword tgen tp tret te X he hg HX B=> ?_
 subst he hg
 dsimp only at hst
 subst hst
 clear hT hM hG
 go_in
 go_wp2_with fail
 refine (HL.out _ (B.g 1)).mono ?_
 rintro e w1 ⟨rfl,h,f⟩
 replace B:=B.M h f
 have q:=B.q 0
 by_cases h2:Q7 M 0=0
 · go_wp2_with fail
   refine (Ga B 1 0 tw).mono ?_
   rintro e w2 ⟨rfl,b,B⟩
   go_wp2
   exact XZ
 · go_wp2_with fail
   refine (Ki B 5).mono ?_
   rintro e w2 ⟨rfl,B⟩
   go_wp2
   exact XZ
theorem tskf {P:Prop} (h:P:=by
 obtain ⟨ql,rfl, -⟩:=(show Zu w pl c (some f) from hlk▸hT.lk).get
 refine Zt.of hT hM hG fun S wo sl sst wa us tw ts tlook ti tword tgen tp tret te X he hg HX B=> ?_
 subst he hg
 dsimp only at hst hlk
 subst hst hlk
 clear hT hM hG
 rcases (by cases (Qx ⟨wo,sl,sst,wa,us⟩ f M).1.found<;>cases (Qx ⟨wo,sl,sst,wa,us⟩ f M).2<;>simp:(Qx ⟨wo,sl,sst,wa,us⟩ f M).1.found=true∨((Qx ⟨wo,sl,sst,wa,us⟩ f M).1.found=false∧(Qx ⟨wo,sl,sst,wa,us⟩ f M).2=true)∨((Qx ⟨wo,sl,sst,wa,us⟩ f M).1.found=false∧(Qx ⟨wo,sl,sst,wa,us⟩ f M).2=false)) with ha|⟨ha,hb⟩|⟨ha,hb⟩
 all_goals
  go_in
  go_wp2_with fail
  refine (Q3v B hn hc hok hS rfl ha rfl).mono ?_
  rintro e w1 ⟨rfl,B⟩
  simp only [*,Bool.not_true,Bool.not_false,Bool.and_true,Bool.and_false]
  have q:=B.q 0;have u:=B.u 0
 · go_wp2_with fail
   clear q u
   generalize hw:World.setCell _ _ _=w2
   replace B:=(B.s 0).e hw
   exact XZ
 · go_wp2_with fail
   first
    |refine (Ga B _ _ tw).mono ?_
     rintro e w2 ⟨rfl,b,B⟩
     go_wp2
     exact XZ
    |refine (Ki B 3).mono ?_
     rintro e w2 ⟨rfl,B⟩
     go_wp2
     exact XZ
 · go_wp2
   exact XZ):P:=h
theorem Q6b (hT:Zr w p pm qm pl pr c t) (hM:Ql w pm qm M n) (hG:Qf w 0 Qc) (hn:n≤1000000000) (hst:t.st=1) (f:Qi) (hlk:t.look=some f) (hok:f.ok c) (hS:JX c M) (hc:c.fits):Y1 219 w p pm qm pl pr c t M n good:=tskf
theorem Q6k (hT:Zr w p pm qm pl pr c t) (hM:Ql w pm qm M n) (hG:Qf w 0 Qc) (hn:n≤1000000000) (hst:t.st=3) (f:Qi) (hlk:t.look=some f) (hok:f.ok c) (hS:JX c M) (hc:c.fits):Y1 221 w p pm qm pl pr c t M n good:=tskf
theorem Q4o (hT:Zr w p pm qm pl pr c t) (hM:Ql w pm qm M n) (hG:Qf w 0 Qc) (hn:n≤1000000000) (hst:t.st=7) (f:Qi) (hlk:t.look=some f) (hok:f.ok c) (hS:JX c M) (hc:c.fits):Y1 225 w p pm qm pl pr c t M n good:=tskf
theorem Eu (hT:Zr w p pm qm pl pr c t) (hM:Ql w pm qm M n) (hG:Qf w 0 Qc) (hn:n≤1000000000) (hst:t.st=2) (f:Qi) (s:Q8) (hlk:t.look=some f) (hfd:f.found=true) (hs:s.right) (hw:f.word=s.enc) (o0:0≤t.w) (o1:t.w≤15) (hc:c.fits):Y1 220 w p pm qm pl pr c t M n good:=by
 obtain ⟨ql,rfl, -⟩:=(show Zu w pl c (some f) from hlk▸hT.lk).get
 rcases Zi c t M f.at_ s 3 hs with ⟨u,M1,hu,hsw⟩|hsw
 all_goals
  refine Zt.of hT hM hG fun S wo sl sst wa us tw ts tlook ti tword tgen tp tret te X he hg HX B=> ?_
  subst he hg
  dsimp only at hst hlk hsw o0 o1
  subst hst hlk
  have h0:=hsw 2
  clear hT hM hG
  have q:=B.q 0;have u:=B.u 0
  go_in
  go_wp2_with fail
  clear q u
  generalize hw2:World.setCell _ _ _=w2
  replace B:=(B.s 0).e hw2
  refine (U8 B hn hfd hw hs (by decide) o0 o1 hc (hsw 1)).mono ?_
  rintro e w3 ⟨rfl,k,hk,B⟩
 · have q:=B.q 0;have u:=B.u 0
   go_wp2_with fail
   clear q u
   generalize hw2:World.setCell _ _ _=w4
   replace B:=(B.s 0).e hw2
   exact XZ
 · go_wp2
   exact XZ
theorem D7 (hT:Zr w p pm qm pl pr c t) (hM:Ql w pm qm M n) (hG:Qf w 0 Qc) (hn:n≤1000000000) (hst:t.st=8) (f:Qi) (s:Q8) (hlk:t.look=some f) (hfd:f.found=true) (hs:s.right) (hw:f.word=s.enc) (o0:0≤t.w) (o1:t.w≤15) (hc:c.fits):Y1 226 w p pm qm pl pr c t M n good:=by
 obtain ⟨ql,rfl, -⟩:=(show Zu w pl c (some f) from hlk▸hT.lk).get
 rcases Zi c t M f.at_ s 0 hs with ⟨u,M1,hu,hsw⟩|hsw
 all_goals
  refine Zt.of hT hM hG fun S wo sl sst wa us tw ts tlook ti tword tgen tp tret te X he hg HX B=> ?_
  subst he hg
  dsimp only at hst hlk hsw o0 o1
  subst hst hlk
  have h0:=hsw 8
  clear hT hM hG
  have q:=B.q 0;have u:=B.u 0
  go_in
  go_wp2_with fail
  clear q u
  generalize hw2:World.setCell _ _ _=w2
  replace B:=(B.s 0).e hw2
  refine (U8 B hn hfd hw hs (by decide) o0 o1 hc (hsw 7)).mono ?_
  rintro e w3 ⟨rfl,k,hk,B⟩
 · have q:=B.q 0;have u:=B.u 0
   go_wp2_with fail
   clear q u
   generalize hw2:World.setCell _ _ _=w4
   replace B:=(B.s 0).e hw2
   exact XZ
 · go_wp2
   exact XZ
end
end
section
open Go.RowKit Go.Shelf Go.Lib
attribute [local go_sem] Oper.semAt_some
section
variable {w:World} {p pm qm:Nat} {pl pr:Option Nat} {c:Q0} {t:Qe} {M:List Int} {n:Int} {good:Bool}
theorem Q2d (hT:Zr w p pm qm pl pr c t) (hM:Ql w pm qm M n) (hG:Qf w 0 Qc) (hn:n≤1000000000) (hst:t.st=10):Y1 228 w p pm qm pl pr c t M n good:=by
 have HL:=hid fun w' h=>Za w' pm qm M n 0 h hn
 refine Zt.of hT hM hG fun S wo sl sst wa us tw ts tlook ti tword tgen tp tret te X he hg HX B=> ?_
 subst he hg
 dsimp only at hst
 subst hst
 clear hT hM hG
 go_in
 go_wp2_with fail
 refine (HL.out _ (B.g 1)).mono ?_
 rintro e w1 ⟨rfl,h,f⟩
 replace B:=B.M h f
 have q:=B.q 0;have u:=B.u 0
 by_cases h2:Q7 M 0=0
 · go_wp2_with fail
   refine (Ki B 0).mono ?_
   rintro e w2 ⟨rfl,B⟩
   go_wp2
   exact XZ
 · go_wp2_with fail
   clear q u
   generalize hw2:World.setCell _ _ _=w2
   replace B:=(B.s 0).e hw2
   exact XZ
theorem Q4j (hT:Zr w p pm qm pl pr c t) (hM:Ql w pm qm M n) (hG:Qf w 0 Qc) (hst:t.st=15):Y1 233 w p pm qm pl pr c t M n good:=by
 refine Zt.of hT hM hG fun S wo sl sst wa us tw ts tlook ti tword tgen tp tret te X he hg HX B=> ?_
 subst he hg
 dsimp only at hst
 subst hst
 go_in
 go_wp2
 exact XZ
theorem Ev (hT:Zr w p pm qm pl pr c t) (hM:Ql w pm qm M n) (hG:Qf w 0 Qc) (hn:n≤1000000000) (hst:t.st=4) (f:Qi) (s:Q8) (hlk:t.look=some f) (hfd:f.found=true) (hs:s.right) (hw:f.word=s.enc) (o0:0≤t.w) (o1:t.w≤15) (hc:c.fits):Y1 222 w p pm qm pl pr c t M n good:=by
 have HFD:=hid fun w' q h=>JV w' q c f h
 rw [hfd,if_pos rfl,hw] at HFD
 have HD:=hid fun w' h=>Je w' s hs h
 have hde:=QO hs
 obtain ⟨ql,rfl, -⟩:=(show Zu w pl c (some f) from hlk▸hT.lk).get
 rcases Zi c t M f.at_ s 3 hs with ⟨u,M1,hu,hsw⟩|hsw
 all_goals
  refine Zt.of hT hM hG fun S wo sl sst wa us tw ts tlook ti tword tgen tp tret te X he hg HX B=> ?_
  subst he hg
  dsimp only at hst hlk hsw o0 o1
  subst hst hlk
  have h0:=hsw 4
  clear hT hM hG
  have q:=B.q 0
  simp only [Xr] at q
  go_in
  go_wp2_with fail
  refine (HFD.out _ _ (B.g 2)).mono ?_
  rintro e w1 ⟨rfl,f1⟩
  replace B:=B.tm f1
  clear q
  have q:=B.q 0;have u:=B.u 0
  go_wp2_with fail
  clear q u
  generalize hw2:World.setCell _ _ _=w2
  replace B:=(B.s 0).e hw2
  refine (U8 B hn hfd hw hs (by decide) o0 o1 hc (hsw 3)).mono ?_
  rintro e w3 ⟨rfl,k,hk,B⟩
 · have q:=B.q 0;have v:=B.u 0
   go_wp2_with fail
   clear q v
   generalize hw2:World.setCell _ _ _=w4
   replace B:=(B.s 0).e hw2
   refine (HD.out _ (B.g 4)).mono ?_
   rintro e w5 ⟨rfl,f5⟩
   replace B:=B.tm f5
   dsimp only [Q8.val]
   go_wp2_with fail
   generalize hb:(World.heap _).size=b,hw:World.alloc _ _=w6
   replace B:=B.al hw hb
   refine rg B fun _ B=> ?_
   repeat refine tb ?_
   refine wpAnyH_done (by decide+kernel) ?_ _
   have q:=B.q 0;have v:=B.u 0;have r:=B.q 5
   rcases (by simp;omega:(s.own≠tw∧(s.own != tw)=true)∨(s.own=tw∧(s.own != tw)=false)) with ⟨h1,h2⟩|⟨h1,h2⟩
   · go_wp2_with fail
     clear q v r
     generalize hw2:World.setCell _ _ _=w7
     replace B:=(B.s 0).e hw2
     have r:=B.q 5
     go_wp2_with fail
     refine (Ga (B.tk 5) 5 0 _).mono ?_
     rintro e w2 ⟨rfl,b,B⟩
     go_wp2
     exact XZ
   · go_wp2
     exact XZ
 · go_wp2
   exact XZ
theorem Q4l (hT:Zr w p pm qm pl pr c t) (hM:Ql w pm qm M n) (hG:Qf w 0 Qc) (hn:n≤1000000000) (hst:t.st=5) (f:Qi) (hlk:t.look=some f) (hok:f.ok c) (hS:JX c M) (hc:c.fits):Y1 223 w p pm qm pl pr c t M n good:=by
 have hat:=Q7E M hok
 obtain ⟨ql,rfl, -⟩:=(show Zu w pl c (some f) from hlk▸hT.lk).get
 refine Zt.of hT hM hG fun S wo sl sst wa us tw ts tlook ti tword tgen tp tret te X he hg HX B=> ?_
 subst he hg
 dsimp only at hst hlk
 subst hst hlk
 clear hT hM hG
 rcases (by cases (Qx ⟨wo,sl,sst,wa,us⟩ f M).1.found<;>cases (Qx ⟨wo,sl,sst,wa,us⟩ f M).2<;>cases tp<;>simp:((Qx ⟨wo,sl,sst,wa,us⟩ f M).1.found=true∧tp=true)∨((Qx ⟨wo,sl,sst,wa,us⟩ f M).1.found=true∧tp=false)∨((Qx ⟨wo,sl,sst,wa,us⟩ f M).1.found=false∧(Qx ⟨wo,sl,sst,wa,us⟩ f M).2=true)∨((Qx ⟨wo,sl,sst,wa,us⟩ f M).1.found=false∧(Qx ⟨wo,sl,sst,wa,us⟩ f M).2=false)) with ⟨ha,rfl⟩|⟨ha,rfl⟩|⟨ha,hb⟩|⟨ha,hb⟩
 all_goals
  go_in
  go_wp2_with fail
  refine (Q3v B hn hc hok hS rfl ha rfl).mono ?_
  rintro e w1 ⟨rfl,B⟩
  simp only [*,Bool.not_true,Bool.not_false,Bool.and_true,Bool.and_false]
  have q:=B.q 0;have u:=B.u 0
  simp only [Xr] at q
 · go_wp2_with fail
   clear q u
   generalize hw:World.setCell _ _ _=w2
   replace B:=(B.s 0).e hw
   have q:=B.q 0
   simp only [Xr] at q
   go_wp2_with fail
   refine (Hu _ ql _ _ (B.g 2) hat.1 hat.2).mono ?_
   rintro e w3 ⟨rfl,h,f3⟩
   replace B:=B.up 2 (T':=tLk (some ql) ⟨wo,sl,sst,wa,us⟩ (some _)) h f3
   go_wp2
   exact XZ
 · go_wp2_with fail
   clear q u
   generalize hw:World.setCell _ _ _=w2
   replace B:=((B.s 0).s 0).e hw
   exact XZ
 · go_wp2_with fail
   clear q u
   generalize hw:World.setCell _ _ _=w2
   replace B:=(B.s 0).e hw
   exact XZ
 · go_wp2
   exact XZ
theorem Q2b (hT:Zr w p pm qm pl pr c t) (hM:Ql w pm qm M n) (hG:Qf w 0 Qc) (hn:n≤1000000000) (hst:t.st=13) (hc:c.fits):Y1 231 w p pm qm pl pr c t M n good:=by
 have HSL:=hid fun w'=>J2 w' c t.i hc
 have HLD:=hid fun w' h=>Za w' pm qm M n (Q5 c t.i) h hn
 refine Zt.of hT hM hG fun S wo sl sst wa us tw ts tlook ti tword tgen tp tret te X he hg HX B=> ?_
 subst he hg
 dsimp only [Q0.val] at hst HSL HLD
 subst hst
 clear hT hM hG
 have q:=B.q 0;have u:=B.u 0
 go_in
 go_wp2_with fail
 clear q u
 refine rgm 0 9 13 [0,2,3,4] B fun _ B=> ?_
 repeat refine tb ?_
 refine to fun K hK=> ?_
 go_simp
 refine (HSL.out _).mono ?_
 rintro e w1 ⟨rfl,f⟩
 replace B:=B.tm f
 go_wp2_with fail
 refine bk hK ?_
 clear hK K
 try go_frame
 refine to fun K hK=> ?_
 go_simp
 refine (HLD.out _ (B.g 1)).mono ?_
 rintro e w2 ⟨rfl,h,f⟩
 replace B:=B.M h f
 go_wp2_with fail
 refine bk hK ?_
 clear hK K
 try go_frame
 repeat refine tb ?_
 have q:=B.q 0;have u:=B.u 0
 refine to fun K hK=> ?_
 go_simp
 clear q u
 generalize hw:World.setCell _ _ _=w3
 replace B:=(B.s 0).e hw
 refine bk hK ?_
 clear hK K
 try go_frame
 refine wpAnyH_done (by decide+kernel) ?_ _
 have q:=B.q 0;have u:=B.u 0
 go_wp2_with fail
 clear q u
 generalize hw2:World.setCell _ _ _=w4
 replace B:=(B.s 0).e hw2
 exact XZ
end
end
section
open Go.RowKit Go.Shelf Go.Lib
attribute [local go_sem] Oper.semAt_some
section
variable {w:World} {p pm qm:Nat} {pl pr:Option Nat} {c:Q0} {t:Qe} {M:List Int} {n:Int} {good:Bool}
theorem D6 (hT:Zr w p pm qm pl pr c t) (hM:Ql w pm qm M n) (hG:Qf w 0 Qc) (hn:n≤1000000000) (hst:t.st=6) (f:Qi) (s:Q8) (hlk:t.look=some f) (hfd:f.found=true) (hs:s.right) (hw:f.word=s.enc) (o0:0≤t.w) (o1:t.w≤15) (hc:c.fits) (hok:f.ok c):Y1 224 w p pm qm pl pr c t M n good:=by
 have HFD:=hid fun w' q h=>JV w' q c f h
 rw [hfd,if_pos rfl,hw] at HFD
 have HSL:=hid fun w'=>J2 w' c f.at_ hc
 have HC:=hid fun w' ue h=>UH w' pm qm M n (Q5 c f.at_) s.enc ue h hn
 have hat:0≤f.at_∧f.at_≤1000:=⟨hok.a0,by have:=hok.a1;omega⟩
 have haf:=XJ hs 9 t.w 0
 obtain ⟨ql,rfl, -⟩:=(show Zu w pl c (some f) from hlk▸hT.lk).get
 refine Zt.of hT hM hG fun S wo sl sst wa us tw ts tlook ti tword tgen tp tret te X he hg HX B=> ?_
 subst he hg
 dsimp only [Q0.val] at hst hlk HSL haf o0 o1
 subst hst hlk
 clear hT hM hG hok
 have q:=B.q 0
 simp only [Xr] at q
 go_in
 go_wp2_with fail
 refine (HFD.out _ _ (B.g 2)).mono ?_
 rintro e w1 ⟨rfl,f1⟩
 replace B:=B.tm f1
 clear q
 go_wp2_with fail
 refine (Ud B hs (d:=9) (by decide) o0 o1).mono ?_
 rintro e w2 ⟨rfl,B⟩
 generalize Qj s 9 tw 0=co at haf ⊢
 cases co
 all_goals
  simp only [KA,XA,Q8.val,Option.map_none,Option.map_some] at haf ⊢
  have q:=B.qa 0
  simp only [Xr] at q
  go_wp2_with fail
  generalize hb:(World.heap _).size=b,hw2:World.alloc _ _=w3
  replace B:=B.al hw2 hb
  clear q
  first
   |(refine (HSL.out _).mono ?_
     rintro e w4 ⟨rfl,f4⟩
     replace B:=B.tm f4
     go_wp2_with fail
     refine (HC.out _ _ (B.g 1)).mono ?_
     rintro e w5 ⟨rfl,h,f5⟩
     replace B:=B.M h f5
     have q:=B.q 0
     simp only [Xr] at q
     go_wp2_with fail
     clear q)
   |skip
  refine (Hu _ ql _ _ (B.g 2) hat.1 hat.2).mono ?_
  rintro e w6 ⟨rfl,h,f6⟩
  replace B:=B.up 2 (T':=tLk (some ql) ⟨wo,sl,sst,wa,us⟩ (some _)) h f6
  have q:=B.q 0;have u:=B.u 0
  go_wp2_with fail
  clear q u
  generalize hw2:World.setCell _ _ _=w7
  replace B:=(B.s 0).e hw2
  exact XZ
theorem Q4q (hT:Zr w p pm qm pl pr c t) (hM:Ql w pm qm M n) (hG:Qf w 0 Qc) (hn:n≤1000000000) (hst:t.st=9) (s:Q8) (hs:s.right) (hw:t.word=s.enc) (o0:0≤t.w) (o1:t.w≤15) (hc:c.fits):Y1 227 w p pm qm pl pr c t M n good:=by
 obtain ⟨d,hd,hdg⟩:∃d:Nat,d<18∧d=if good=true then 1 else 2:=⟨_,by cases good<;>decide,rfl⟩
 rcases Zi c t M t.i s d hs with ⟨u,M1,hu,hsw⟩|hsw
 all_goals
  refine Zt.of hT hM hG fun S wo sl sst wa us tw ts tlook ti tword tgen tp tret te X he hg HX B=> ?_
  subst he hg
  dsimp only at hst hsw o0 o1 hw
  subst hst hw
  have h0:=hsw 9
  clear hT hM hG
  cases good
  all_goals
   simp only [if_true,Bool.false_eq_true,if_false] at hdg
   subst hdg
   go_in
   go_wp2_with fail
   refine rgm 0 9 10 [0,2,3,4] B fun _ B=> ?_
   repeat refine tb ?_
   try
    (refine tj 10 ?_
     have q:=B.q 0
     refine tc 9 fun K hK=> ?_
     go_simp
     refine bk hK ?_
     clear hK K q
     try go_frame)
   refine to fun K hK=> ?_
   go_simp
   refine (Q3t B hn hs hd o0 o1 hc (hsw 9)).mono ?_
   rintro e w1 ⟨rfl,k,hk,B⟩
   go_wp2_with fail
   refine bk hK ?_
   clear hK K
   try go_frame
   repeat first|refine tb ?_|refine tv ?_
   refine wpAnyH_done (by decide+kernel) ?_ _
   have q:=B.q 0;have v:=B.u 0
   go_wp2_with fail
   first
    |(refine (Ki B 6).mono ?_
      rintro e w9 ⟨rfl,B⟩
      go_wp2
      exact XZ)
    |(clear q v
      generalize hw2:World.setCell _ _ _=w7
      replace B:=(B.s 0).e hw2
      exact XZ)
end
end
section
open Go.RowKit Go.Shelf Go.Lib
attribute [local go_sem] Oper.semAt_some
section
variable {w:World} {p pm qm:Nat} {pl pr:Option Nat} {c:Q0} {t:Qe} {M:List Int} {n:Int} {good:Bool}
theorem Q4r (hT:Zr w p pm qm pl pr c t) (hM:Ql w pm qm M n) (hG:Qf w 0 Qc) (hn:n≤1000000000) (hst:t.st=11) (s:Q8) (hs:s.right) (hld:Q7 M (Q5 c t.i)=s.enc) (hc:c.fits):Y1 229 w p pm qm pl pr c t M n good:=by
 have HSL:=hid fun w'=>J2 w' c t.i hc
 have HLD:=hid fun w' h=>Za w' pm qm M n (Q5 c t.i) h hn
 rw [hld] at HLD
 have HD:=hid fun w' h=>Je w' s hs h
 have HNW:=hid fun w'=>KQ w' c t.i s.enc hc
 have hde:=QO hs
 refine Zt.of hT hM hG fun S wo sl sst wa us tw ts tlook ti tword tgen tp tret te X he hg HX B=> ?_
 subst he hg
 obtain ⟨zst,zso,zstr,zbr,zmkd,zus,zgen,zep,zver⟩:=s
 dsimp only [Q0.val,Q8.val] at hst HSL HLD HD HNW hld hde
 subst hst
 clear hT hM hG hs
 generalize Q8.enc _=en at HLD HD HNW hld hde
 have q:=B.q 0;have u:=B.u 0
 go_in
 go_wp2_with fail
 clear q u
 refine rgx [0,2,3,4] B fun _ B=> ?_
 repeat refine tb ?_
 refine to fun K hK=> ?_
 go_simp
 refine (HSL.out _).mono ?_
 rintro e w1 ⟨rfl,f⟩
 replace B:=B.tm f
 go_wp2_with fail
 refine bk hK ?_
 clear hK K
 try go_frame
 refine to fun K hK=> ?_
 go_simp
 refine (HLD.out _ (B.g 1)).mono ?_
 rintro e w2 ⟨rfl,h,f⟩
 replace B:=B.M h f
 go_wp2_with fail
 refine bk hK ?_
 clear hK K
 try go_frame
 repeat refine tb ?_
 refine wpAnyH_done (by decide+kernel) ?_ _
 go_wp2_with fail
 refine (HD.out _ (B.g 4)).mono ?_
 rintro e w4 ⟨rfl,f⟩
 replace B:=B.tm f
 go_wp2_with fail
 generalize hb:(World.heap _).size=b,hw:World.alloc _ _=w5
 replace B:=B.al hw hb
 have hcase:(zst≠3∧(zst != 3)=true)∨(zst=3∧zso≠tw∧(zso != tw)=true)∨(zst=3∧zso=tw∧zgen≠tgen∧(zgen != tgen)=true)∨(zst=3∧zso=tw∧zgen=tgen):=by simp;omega
 rcases hcase with ⟨h1,h2⟩|⟨rfl,h1,h2⟩|⟨rfl,rfl,h1,h2⟩|⟨rfl,rfl,rfl⟩
 all_goals
  refine rg B fun _ B=> ?_
  repeat first|refine tb ?_|refine tv ?_
  refine wpAnyH_done (by decide+kernel) ?_ _
 iterate 3
  · go_wp2_with fail
    refine (Ki (B.tk 5) 5).mono ?_
    rintro e w9 ⟨rfl,B⟩
    go_wp2
    exact XZ
 go_wp2_with fail
 refine rgc 0 12 B fun _ B=> ?_
 repeat refine tb ?_
 refine to fun K hK=> ?_
 go_simp
 refine (HNW.out _).mono ?_
 rintro e w7 ⟨qr,rfl,hq,hr,f⟩
 replace B:=B.nw (T':=tRt (some qr) (some _)) hr f (fun x hx=>by simp at hx;subst hx;exact ⟨hq,Q6 hr⟩)
 go_wp2_with fail
 refine bk hK ?_
 clear hK K
 try go_frame
 repeat refine tb ?_
 have q:=B.q 0;have u:=B.u 0
 refine to fun K hK=> ?_
 go_simp
 clear q u
 generalize hw:World.setCell _ _ _=w8
 replace B:=(B.s 0).e hw
 refine bk hK ?_
 clear hK K
 try go_frame
 refine wpAnyH_done (by decide+kernel) ?_ _
 have q:=B.q 0;have u:=B.u 0
 go_wp2_with fail
 clear q u
 generalize hw:World.setCell _ _ _=w9
 replace B:=(B.s 0).e hw
 replace B:=B.sel [0,1,2,6,4]
 exact XZ
theorem Q4n (hT:Zr w p pm qm pl pr c t) (hM:Ql w pm qm M n) (hG:Qf w 0 Qc) (hn:n≤1000000000) (hst:t.st=12) (r:J4) (hrt:t.ret=some r) (hok:r.ok):Y1 230 w p pm qm pl pr c t M n good:=by
 obtain ⟨qr,rfl, -⟩:=(show Yc w pr (some r) from hrt▸hT.rt).get
 have hne:=hT.ft.fr qr rfl
 have HST:=hid fun w' hq h hg=>Yh w' qr pm qm r M n hok hq h hn ⟨hne.2.1,hne.2.2.1⟩ hg
 have HDO:=hid fun w' r' h=>YO w' qr r' h
 refine Zt.of hT hM hG fun S wo sl sst wa us tw ts tlook ti tword tgen tp tret te X he hg HX B=> ?_
 subst he hg
 dsimp only at hst hrt
 subst hst hrt
 clear hT hM hG hne hok
 have q:=B.q 0
 simp only [Xr] at q
 go_in
 go_wp2_with fail
 refine (HST.out _ (B.g 3) (B.g 1) (B.g 4)).mono ?_
 rintro e w1 ⟨rfl,hr,hm,f⟩
 replace B:=B.up2 3 1 (T:=tRt (some qr) (some _)) (T':=tM pm qm _ (n+1)) hr hm f
 clear q hr hm
 have q:=B.q 0;have u:=B.u 0
 simp only [Xr] at q
 rcases (by cases (Qn r M).1.done<;>cases (Qn r M).1.swapped<;>simp:(Qn r M).1.done=false∨((Qn r M).1.done=true∧(Qn r M).1.swapped=false)∨((Qn r M).1.done=true∧(Qn r M).1.swapped=true)) with hdn|⟨hdn,hsw⟩|⟨hdn,hsw⟩
 · rw [hdn]
   go_wp2
   exact XZ
 all_goals
  rw [hdn]
  go_wp2_with fail
  clear q u
  generalize hw:World.setCell _ _ _=w2
  replace B:=(B.s 0).e hw
  have q:=B.q 0
  simp only [Xr] at q
  go_wp2_with fail
  refine (HDO.out _ _ (B.g 3)).mono ?_
  rintro e w3 ⟨rfl,f⟩
  replace B:=B.tm f
  rw [hdn,hsw]
 · go_wp2
   exact XZ
 · go_wp2_with fail
   refine (Ki B 5).mono ?_
   rintro e w9 ⟨rfl,B⟩
   go_wp2
   exact XZ
theorem Ub (hT:Zr w p pm qm pl pr c t) (hM:Ql w pm qm M n) (hG:Qf w 0 Qc) (hn:n≤1000000000) (hst:t.st=14) (s:Q8) (hs:s.right) (hw:t.word=s.enc) (o0:0≤t.w) (o1:t.w≤15) (hc:c.fits):Y1 232 w p pm qm pl pr c t M n good:=by
 have haf:=XJ hs 16 t.w 0
 have hnx:Qj s 16 t.w 0=none∨(∃a,Qj s 16 t.w 0=some a∧JU c t M t.i s.enc 16=(t,M,false))∨(∃a M1,Qj s 16 t.w 0=some a∧JU c t M t.i s.enc 16=({t with word:=a.enc,gen:=a.gen},M1,true)):=by
  have e:=Vx c t M t.i s 16 hs
  cases hx:Qj s 16 t.w 0 with
  |none=>exact .inl rfl
  |some a=>
   rw [hx] at e
   dsimp only at e
   by_cases hcs:Qv M (Q5 c t.i) s.enc=true
   · rw [if_pos hcs] at e;exact .inr (.inr ⟨a,_,rfl,e⟩)
   · rw [if_neg hcs] at e;exact .inr (.inl ⟨a,rfl,e⟩)
 rcases hnx with hn1|⟨a,hn1,hsw⟩|⟨a,M1,hn1,hsw⟩
 all_goals
  rw [hn1] at haf
  refine Zt.of hT hM hG fun S wo sl sst wa us tw ts tlook ti tword tgen tp tret te X he hg HX B=> ?_
  subst he hg
  dsimp only at hst hw o0 o1 hn1 haf
  try dsimp only at hsw
  subst hst
  have h0:=hw
  subst h0
  clear hT hM hG
  have q:=B.q 0
  go_in
  go_wp2_with fail
  refine (Ud B hs (d:=16) (by decide) o0 o1).mono ?_
  rintro e w1 ⟨rfl,B⟩
  rw [hn1]
  simp only [KA,XA,Q8.val]
  clear q
  go_wp2_with fail
  generalize hb:(World.heap _).size=b,hw2:World.alloc _ _=w2
  replace B:=B.al hw2 hb
 · refine (Ki (B.tk 5) 5).mono ?_
   rintro e w9 ⟨rfl,B⟩
   go_wp2
   exact XZ
 all_goals
  refine rgm 0 9 10 [0,2,3,4] B fun _ B=> ?_
  repeat refine tb ?_
  have q:=B.q 0
  refine tc 9 fun K hK=> ?_
  go_simp
  refine bk hK ?_
  clear hK K q
  try go_frame
  refine to fun K hK=> ?_
  go_simp
  refine (Q3u B hn hs (by decide) o0 o1 hc hsw).mono ?_
  rintro e w3 ⟨rfl,k,hk,B⟩
  go_wp2_with fail
  refine bk hK ?_
  clear hK K
  try go_frame
  repeat refine tb ?_
  refine wpAnyH_done (by decide+kernel) ?_ _
  have q:=B.q 0;have u:=B.u 0;have r:=B.q 5
 · go_wp2_with fail
   clear q u r
   generalize hw2:World.setCell _ _ _=w7
   replace B:=(B.s 0).e hw2
   exact XZ
 · by_cases h3:a.st=3
   all_goals
    go_wp2_with fail
    clear q u r
    generalize hw2:World.setCell _ _ _=w7
    replace B:=(B.s 0).e hw2
    exact XZ
end
end
end Go.Proofs.YtgjklfmnmljilaaGreatDoor
