/- A part of the proof. -/
import Derived.Test.YtgjklfmnmljilaaGreatDoorZR24
namespace Go.Proofs.YtgjklfmnmljilaaGreatDoor
set_option linter.unusedVariables false
set_option linter.unusedSimpArgs false
set_option linter.unusedSectionVars false
set_option linter.unnecessarySimpa false
set_option maxRecDepth 100000
set_option maxHeartbeats 8000000
section
open Go.RowKit Go.Shelf Go.Lib
attribute [local go_sem] Oper.semAt_some
section
variable {w:World} {p pm qm:Nat} {pl pr:Option Nat} {c:Q0} {t:Qd} {M:List Int} {n:Int} {good:Bool}
theorem UM (hT:Zt w p pm qm pl pr c t) (hM:Qm w pm qm M n) (hG:Qe w 0 Qc) (hn:n≤1000000000) (hst:t.st=6) (f:Qi) (s:Q7) (hlk:t.look=some f) (hfd:f.found=true) (hs:s.right) (hw:f.word=s.enc) (o0:0≤t.w) (o1:t.w≤15) (hc:c.fits) (hok:f.ok c):Y4 224 w p pm qm pl pr c t M n good:=by
 have HFD:=hid fun w' q h=>X4 w' q c f h
 rw [hfd,if_pos rfl,hw] at HFD
 have HSL:=hid fun w'=>J9 w' c f.at_ hc
 have HC:=hid fun w' ue h=>Uw w' pm qm M n (Q5 c f.at_) s.enc ue h hn
 have hat:0≤f.at_∧f.at_≤1000:=⟨hok.a0,by have:=hok.a1;omega⟩
 have haf:=XK hs 9 t.w 0
 obtain ⟨ql,rfl, -⟩:=(show Zv w pl c (some f) from hlk▸hT.lk).get
 refine Zu.of hT hM hG fun S wo sl sst wa us tw ts tlook ti tword tgen tp tret te X he hg HX B=> ?_
 subst he hg
 dsimp only [Q0.val] at hst hlk HSL haf o0 o1
 subst hst hlk
 clear hT hM hG hok
 have q:=B.q 0
 simp only [Xu] at q
 go_in
 go_wp2_with fail
 refine (HFD.out _ _ (B.g 2)).mono ?_
 rintro e w1 ⟨rfl,f1⟩
 replace B:=B.tm f1
 clear q
 go_wp2_with fail
 refine (U1 B hs (d:=9) (by decide) o0 o1).mono ?_
 rintro e w2 ⟨rfl,B⟩
 generalize Qk s 9 tw 0=co at haf ⊢
 cases co
 all_goals
  simp only [KE,XA,Q7.val,Option.map_none,Option.map_some] at haf ⊢
  have q:=B.qa 0
  simp only [Xu] at q
  go_wp2_with fail
  generalize hb:(World.heap _).size=b,hw2:World.alloc _ _=w3
  replace B:=B.al hw2 hb
  clear q
  first
   |(refine (HSL.out _).mono ?_
     rintro e w4 ⟨rfl,f4⟩
     replace B:=B.tm f4
     go_wp2_with fail
     refine (HC.out _ _ (B.g 1)).mono ?_
     rintro e w5 ⟨rfl,h,f5⟩
     replace B:=B.M h f5
     have q:=B.q 0
     simp only [Xu] at q
     go_wp2_with fail
     clear q)
   |skip
  refine (Hl _ ql _ _ (B.g 2) hat.1 hat.2).mono ?_
  rintro e w6 ⟨rfl,h,f6⟩
  replace B:=B.up 2 (T':=tLk (some ql) ⟨wo,sl,sst,wa,us⟩ (some _)) h f6
  have q:=B.q 0;have u:=B.u 0
  go_wp2_with fail
  clear q u
  generalize hw2:World.setCell _ _ _=w7
  replace B:=(B.s 0).e hw2
  exact XW
theorem Q46 (hT:Zt w p pm qm pl pr c t) (hM:Qm w pm qm M n) (hG:Qe w 0 Qc) (hn:n≤1000000000) (hst:t.st=9) (s:Q7) (hs:s.right) (hw:t.word=s.enc) (o0:0≤t.w) (o1:t.w≤15) (hc:c.fits):Y4 227 w p pm qm pl pr c t M n good:=by
 obtain ⟨d,hd,hdg⟩:∃d:Nat,d<18∧d=if good=true then 1 else 2:=⟨_,by cases good<;>decide,rfl⟩
 rcases Zi c t M t.i s d hs with ⟨u,M1,hu,hsw⟩|hsw
 all_goals
  refine Zu.of hT hM hG fun S wo sl sst wa us tw ts tlook ti tword tgen tp tret te X he hg HX B=> ?_
  subst he hg
  dsimp only at hst hsw o0 o1 hw
  subst hst hw
  have h0:=hsw 9
  clear hT hM hG
  cases good
  all_goals
   simp only [if_true,Bool.false_eq_true,if_false] at hdg
   subst hdg
   go_in
   go_wp2_with fail
   refine rgm 0 9 10 [0,2,3,4] B fun _ B=> ?_
   repeat refine tb ?_
   try
    (refine tj 10 ?_
     have q:=B.q 0
     refine tc 9 fun K hK=> ?_
     go_simp
     refine bk hK ?_
     clear hK K q
     try go_frame)
   refine to fun K hK=> ?_
   go_simp
   refine (Q38 B hn hs hd o0 o1 hc (hsw 9)).mono ?_
   rintro e w1 ⟨rfl,k,hk,B⟩
   go_wp2_with fail
   refine bk hK ?_
   clear hK K
   try go_frame
   repeat first|refine tb ?_|refine tv ?_
   refine wpAnyH_done (by decide+kernel) ?_ _
   have q:=B.q 0;have v:=B.u 0
   go_wp2_with fail
   first
    |(refine (Ko B 6).mono ?_
      rintro e w9 ⟨rfl,B⟩
      go_wp2
      exact XW)
    |(clear q v
      generalize hw2:World.setCell _ _ _=w7
      replace B:=(B.s 0).e hw2
      exact XW)
end
end
section
open Go.RowKit Go.Shelf Go.Lib
attribute [local go_sem] Oper.semAt_some
section
variable {w:World} {p pm qm:Nat} {pl pr:Option Nat} {c:Q0} {t:Qd} {M:List Int} {n:Int} {good:Bool}
theorem Q47 (hT:Zt w p pm qm pl pr c t) (hM:Qm w pm qm M n) (hG:Qe w 0 Qc) (hn:n≤1000000000) (hst:t.st=11) (s:Q7) (hs:s.right) (hld:Q6 M (Q5 c t.i)=s.enc) (hc:c.fits):Y4 229 w p pm qm pl pr c t M n good:=by
 have HSL:=hid fun w'=>J9 w' c t.i hc
 have HLD:=hid fun w' h=>Za w' pm qm M n (Q5 c t.i) h hn
 rw [hld] at HLD
 have HD:=hid fun w' h=>Ji w' s hs h
 have HNW:=hid fun w'=>KQ w' c t.i s.enc hc
 have hde:=QF hs
 refine Zu.of hT hM hG fun S wo sl sst wa us tw ts tlook ti tword tgen tp tret te X he hg HX B=> ?_
 subst he hg
 obtain ⟨zst,zso,zstr,zbr,zmkd,zus,zgen,zep,zver⟩:=s
 dsimp only [Q0.val,Q7.val] at hst HSL HLD HD HNW hld hde
 subst hst
 clear hT hM hG hs
 generalize Q7.enc _=en at HLD HD HNW hld hde
 have q:=B.q 0;have u:=B.u 0
 go_in
 go_wp2_with fail
 clear q u
 refine rgx [0,2,3,4] B fun _ B=> ?_
 repeat refine tb ?_
 refine to fun K hK=> ?_
 go_simp
 refine (HSL.out _).mono ?_
 rintro e w1 ⟨rfl,f⟩
 replace B:=B.tm f
 go_wp2_with fail
 refine bk hK ?_
 clear hK K
 try go_frame
 refine to fun K hK=> ?_
 go_simp
 refine (HLD.out _ (B.g 1)).mono ?_
 rintro e w2 ⟨rfl,h,f⟩
 replace B:=B.M h f
 go_wp2_with fail
 refine bk hK ?_
 clear hK K
 try go_frame
 repeat refine tb ?_
 refine wpAnyH_done (by decide+kernel) ?_ _
 go_wp2_with fail
 refine (HD.out _ (B.g 4)).mono ?_
 rintro e w4 ⟨rfl,f⟩
 replace B:=B.tm f
 go_wp2_with fail
 generalize hb:(World.heap _).size=b,hw:World.alloc _ _=w5
 replace B:=B.al hw hb
 have hcase:(zst≠3∧(zst != 3)=true)∨(zst=3∧zso≠tw∧(zso != tw)=true)∨(zst=3∧zso=tw∧zgen≠tgen∧(zgen != tgen)=true)∨(zst=3∧zso=tw∧zgen=tgen):=by simp;omega
 rcases hcase with ⟨h1,h2⟩|⟨rfl,h1,h2⟩|⟨rfl,rfl,h1,h2⟩|⟨rfl,rfl,rfl⟩
 all_goals
  refine rg B fun _ B=> ?_
  repeat first|refine tb ?_|refine tv ?_
  refine wpAnyH_done (by decide+kernel) ?_ _
 iterate 3
  · go_wp2_with fail
    refine (Ko (B.tk 5) 5).mono ?_
    rintro e w9 ⟨rfl,B⟩
    go_wp2
    exact XW
 go_wp2_with fail
 refine rgc 0 12 B fun _ B=> ?_
 repeat refine tb ?_
 refine to fun K hK=> ?_
 go_simp
 refine (HNW.out _).mono ?_
 rintro e w7 ⟨qr,rfl,hq,hr,f⟩
 replace B:=B.nw (T':=tRt (some qr) (some _)) hr f (fun x hx=>by simp at hx;subst hx;exact ⟨hq,Q9 hr⟩)
 go_wp2_with fail
 refine bk hK ?_
 clear hK K
 try go_frame
 repeat refine tb ?_
 have q:=B.q 0;have u:=B.u 0
 refine to fun K hK=> ?_
 go_simp
 clear q u
 generalize hw:World.setCell _ _ _=w8
 replace B:=(B.s 0).e hw
 refine bk hK ?_
 clear hK K
 try go_frame
 refine wpAnyH_done (by decide+kernel) ?_ _
 have q:=B.q 0;have u:=B.u 0
 go_wp2_with fail
 clear q u
 generalize hw:World.setCell _ _ _=w9
 replace B:=(B.s 0).e hw
 replace B:=B.sel [0,1,2,6,4]
 exact XW
theorem Q43 (hT:Zt w p pm qm pl pr c t) (hM:Qm w pm qm M n) (hG:Qe w 0 Qc) (hn:n≤1000000000) (hst:t.st=12) (r:J2) (hrt:t.ret=some r) (hok:r.ok):Y4 230 w p pm qm pl pr c t M n good:=by
 obtain ⟨qr,rfl, -⟩:=(show Yf w pr (some r) from hrt▸hT.rt).get
 have hne:=hT.ft.fr qr rfl
 have HST:=hid fun w' hq h hg=>Yk w' qr pm qm r M n hok hq h hn ⟨hne.2.1,hne.2.2.1⟩ hg
 have HDO:=hid fun w' r' h=>YR w' qr r' h
 refine Zu.of hT hM hG fun S wo sl sst wa us tw ts tlook ti tword tgen tp tret te X he hg HX B=> ?_
 subst he hg
 dsimp only at hst hrt
 subst hst hrt
 clear hT hM hG hne hok
 have q:=B.q 0
 simp only [Xu] at q
 go_in
 go_wp2_with fail
 refine (HST.out _ (B.g 3) (B.g 1) (B.g 4)).mono ?_
 rintro e w1 ⟨rfl,hr,hm,f⟩
 replace B:=B.up2 3 1 (T:=tRt (some qr) (some _)) (T':=tM pm qm _ (n+1)) hr hm f
 clear q hr hm
 have q:=B.q 0;have u:=B.u 0
 simp only [Xu] at q
 rcases (by cases (Qn r M).1.done<;>cases (Qn r M).1.swapped<;>simp:(Qn r M).1.done=false∨((Qn r M).1.done=true∧(Qn r M).1.swapped=false)∨((Qn r M).1.done=true∧(Qn r M).1.swapped=true)) with hdn|⟨hdn,hsw⟩|⟨hdn,hsw⟩
 · rw [hdn]
   go_wp2
   exact XW
 all_goals
  rw [hdn]
  go_wp2_with fail
  clear q u
  generalize hw:World.setCell _ _ _=w2
  replace B:=(B.s 0).e hw
  have q:=B.q 0
  simp only [Xu] at q
  go_wp2_with fail
  refine (HDO.out _ _ (B.g 3)).mono ?_
  rintro e w3 ⟨rfl,f⟩
  replace B:=B.tm f
  rw [hdn,hsw]
 · go_wp2
   exact XW
 · go_wp2_with fail
   refine (Ko B 5).mono ?_
   rintro e w9 ⟨rfl,B⟩
   go_wp2
   exact XW
theorem WZ (hT:Zt w p pm qm pl pr c t) (hM:Qm w pm qm M n) (hG:Qe w 0 Qc) (hn:n≤1000000000) (hst:t.st=14) (s:Q7) (hs:s.right) (hw:t.word=s.enc) (o0:0≤t.w) (o1:t.w≤15) (hc:c.fits):Y4 232 w p pm qm pl pr c t M n good:=by
 have haf:=XK hs 16 t.w 0
 have hnx:Qk s 16 t.w 0=none∨(∃a,Qk s 16 t.w 0=some a∧X3 c t M t.i s.enc 16=(t,M,false))∨(∃a M1,Qk s 16 t.w 0=some a∧X3 c t M t.i s.enc 16=({t with word:=a.enc,gen:=a.gen},M1,true)):=by
  have e:=Vw c t M t.i s 16 hs
  cases hx:Qk s 16 t.w 0 with
  |none=>exact .inl rfl
  |some a=>
   rw [hx] at e
   dsimp only at e
   by_cases hcs:Qx M (Q5 c t.i) s.enc=true
   · rw [if_pos hcs] at e;exact .inr (.inr ⟨a,_,rfl,e⟩)
   · rw [if_neg hcs] at e;exact .inr (.inl ⟨a,rfl,e⟩)
 rcases hnx with hn1|⟨a,hn1,hsw⟩|⟨a,M1,hn1,hsw⟩
 all_goals
  rw [hn1] at haf
  refine Zu.of hT hM hG fun S wo sl sst wa us tw ts tlook ti tword tgen tp tret te X he hg HX B=> ?_
  subst he hg
  dsimp only at hst hw o0 o1 hn1 haf
  try dsimp only at hsw
  subst hst
  have h0:=hw
  subst h0
  clear hT hM hG
  have q:=B.q 0
  go_in
  go_wp2_with fail
  refine (U1 B hs (d:=16) (by decide) o0 o1).mono ?_
  rintro e w1 ⟨rfl,B⟩
  rw [hn1]
  simp only [KE,XA,Q7.val]
  clear q
  go_wp2_with fail
  generalize hb:(World.heap _).size=b,hw2:World.alloc _ _=w2
  replace B:=B.al hw2 hb
 · refine (Ko (B.tk 5) 5).mono ?_
   rintro e w9 ⟨rfl,B⟩
   go_wp2
   exact XW
 all_goals
  refine rgm 0 9 10 [0,2,3,4] B fun _ B=> ?_
  repeat refine tb ?_
  have q:=B.q 0
  refine tc 9 fun K hK=> ?_
  go_simp
  refine bk hK ?_
  clear hK K q
  try go_frame
  refine to fun K hK=> ?_
  go_simp
  refine (Q39 B hn hs (by decide) o0 o1 hc hsw).mono ?_
  rintro e w3 ⟨rfl,k,hk,B⟩
  go_wp2_with fail
  refine bk hK ?_
  clear hK K
  try go_frame
  repeat refine tb ?_
  refine wpAnyH_done (by decide+kernel) ?_ _
  have q:=B.q 0;have u:=B.u 0;have r:=B.q 5
 · go_wp2_with fail
   clear q u r
   generalize hw2:World.setCell _ _ _=w7
   replace B:=(B.s 0).e hw2
   exact XW
 · by_cases h3:a.st=3
   all_goals
    go_wp2_with fail
    clear q u r
    generalize hw2:World.setCell _ _ _=w7
    replace B:=(B.s 0).e hw2
    exact XW
end
end
section
open Go.RowKit Go.Shelf Go.Lib
attribute [local go_sem] Oper.semAt_some
def Kq:List FuncId:=[218,219,220,221,222,223,224,225,226,227,228,229,230,231,232,233]
theorem Q0g (w:World):Calls Tryz.prog 176 #[] w fun e w'=>e=.returned (.agg (Xm Kq))∧Fr [] w w':=by
 go_in
 go_wp2
 refine ⟨rfl,_, ?_,rfl,(Fr.refl [] w).alloc _⟩
 simp [results,Tryz.f176,go_sem]
 rfl
def Q3D (w:World) (p pm qm:Nat) (pl pr:Option Nat) (c:Q0) (n:Int) (x:Qd×List Int) (e:Ending) (w':World):Prop:=
 e=.returned (.bool (decide (x.1.st=15)))∧∃pl' pr',Zt w' p pm qm pl' pr' c x.1∧Qm w' pm qm x.2 (n+1)∧Fr (p::pm::qm::(pl.toList++pr.toList)) w w'∧
  (∀b,pl'=some b→pl=some b∨w.heap.size≤b)∧(∀b,pr'=some b→pr=some b∨w.heap.size≤b)
theorem Q1T {w w1 w2:World} {p pm qm:Nat} {pl pr:Option Nat} {c:Q0} {n:Int} {x:Qd×List Int} {e:Ending} (f:Fr [] w w1) (h:Zu w1 p pm qm pl pr c n x e w2):Q3D w p pm qm pl pr c n x (.returned (.bool (decide (x.1.st=15)))) w2:=by
 exact Z0L
theorem Q3X {w:World} {p pm qm:Nat} {pl pr:Option Nat} {c:Q0} {t:Qd} {n:Int} {good:Bool} {X:Qd×List Int} {k:Nat} (hb:Xh w p pl pr c t) (hk:k<16) (hst:t.st=k)
 (hC:∀w',Fr [] w w'→Calls Tryz.prog (Kq.getD k 0) #[.pointer (some ⟨p,0,none⟩),.pointer (some ⟨pm,0,none⟩),.bool good] w' (Zu w' p pm qm pl pr c n X)):
 Calls Tryz.prog 116 #[.pointer (some ⟨p,0,none⟩),.pointer (some ⟨pm,0,none⟩),.bool good] w (Q3D w p pm qm pl pr c n X):=by
 have hix:∀k<16,∀wx:World,(Instr.index 213 (.agg (Xm Kq)) (.int .i64 (k:Nat))).run Tryz.prog wx=.ok (.func (.func (Kq.getD k 0)) #[] #[]) wx:=fun k hk wx=>by
  rcases (by omega:k=0∨k=1∨k=2∨k=3∨k=4∨k=5∨k=6∨k=7∨k=8∨k=9∨k=10∨k=11∨k=12∨k=13∨k=14∨k=15) with rfl|rfl|rfl|rfl|rfl|rfl|rfl|rfl|rfl|rfl|rfl|rfl|rfl|rfl|rfl|rfl<;>kernel_rfl
 replace hix:=hix k hk
 have hcf:=VQ (P:=Tryz.prog) (L:=Kq) (k:=k) (by decide+kernel) hk
 have HC:=hid hC
 have B:=Bag.one hb
 rw [hst] at B
 clear hC hb hst hk
 have HA:=hid Q0g
 generalize Xm Kq=A at HA hix
 generalize Kq.getD k 0=fn at HC hix hcf
 generalize (k:Int)=ts at B hix
 have q:=B.q 0
 go_in
 go_wp2_with fail
 refine wp_region_held_drew (S:=fun w'=>True) (by kernel_rfl) trivial (fun hHeld=> ?_)
 refine tk 1 ?_
 refine tk 2 ?_
 refine tk 3 ?_
 refine tk 6 ?_
 refine tk 7 ?_
 refine tk 8 ?_
 refine wpAnyH_ready (rs:=[0,4]) (by kernel_rfl) Lc ?_
 refine AllReadyH.cons (o:=_) rfl (fun K hK=> ?_) (AllReadyH.cons (o:=_) rfl (fun K hK=> ?_) AllReadyH.nil)
 all_goals
  simp only [List.getElem_toArray,List.getElem_cons_succ,List.getElem_cons_zero]
  go_simp
  first
   |(refine (HA.out _).mono ?_
     rintro e w1 ⟨rfl,f1⟩
     replace B:=B.drew.tm f1
     clear q
     have q:=B.q 0
     go_wp2_with fail
     refine hK.out _ _ trivial (fun hHeld=> ?_)
     clear hK K
     try go_frame
     refine tc 4 (fun K hK=> ?_)
     go_simp
     refine hK.out _ _ trivial (fun hHeld=> ?_)
     clear hK K
     try go_frame)
   |(refine hK.out _ _ trivial (fun hHeld=> ?_)
     clear hK K
     try go_frame
     refine tc 0 (fun K hK=> ?_)
     go_simp
     refine (HA.out _).mono ?_
     rintro e w1 ⟨rfl,f1⟩
     replace B:=B.drew.tm f1
     go_wp2_with fail
     refine hK.out _ _ trivial (fun hHeld=> ?_)
     clear hK K
     try go_frame)
  clear q
  refine tk 5 ?_
  refine tc 9 (fun K hK=> ?_)
  go_simp
  refine (HC.out _ B.fr).mono ?_
  rintro e w2 h2
  have HX:=hid (Q1T B.fr h2)
  obtain ⟨rfl,pl',pr',ht, -⟩:=h2
  go_wp2_with fail
  refine hK.out _ _ trivial (fun hHeld=> ?_)
  clear hK K
  try go_frame
  refine wpAnyH_done (by kernel_rfl) ?_ _
  have q:=(Bag.one ht.blk).q 0
  clear ht B
  obtain ⟨X1,X2⟩:=X
  dsimp only at HX q
  generalize X1.st=xs at HX q
  by_cases h15:xs=15
  · subst h15
    go_wp2
    go_ret
    exact HX.out
  · rw [decide_eq_false h15] at HX
    go_wp2
    go_ret
    first
    |exact HX.out
    |(rw [show (xs==15)=false by simp [h15]];exact HX.out)
structure Qd.ok (c:Q0) (t:Qd):Prop where
 s0:0≤t.st
 s1:t.st≤15
 w0:0≤t.w
 w1:t.w≤15
 lk:t.st=1∨t.st=3∨t.st=5∨t.st=7→∃f,t.look=some f∧f.ok c
 fd:t.st=2∨t.st=4∨t.st=6∨t.st=8→∃f s,t.look=some f∧f.ok c∧f.found=true∧Q7.right s∧f.word=s.enc
 wd:t.st=9∨t.st=14→∃s,Q7.right s∧t.word=s.enc
 i:t.st=11→0≤t.i∧t.i<c.sl
 rt:t.st=12→∃r,t.ret=some r∧r.ok
theorem tk_fr {w w':World} {p pm qm:Nat} {pl pr:Option Nat} {c:Q0} {t:Qd} (h:Zt w p pm qm pl pr c t) (f:Fr [] w w'):Zt w' p pm qm pl pr c t:=
 have lk:=h.lk.fr f Lc
 have rt:=h.rt.fr f Lc
 ⟨h.blk.fr f Lc,lk,rt,K6 h.ft f.size (fun b hb=>.inl hb) (fun b hb=>.inl hb) lk.lt rt.lt h.ft.lr⟩
theorem Q3Y (w:World) (p pm qm:Nat) (pl pr:Option Nat) (c:Q0) (t:Qd) (M:List Int) (n:Int) (good:Bool) (hT:Zt w p pm qm pl pr c t) (hM:Qm w pm qm M n) (hn:n≤1000000000) (hok:t.ok c) (hS:X5 c M) (hc:c.fits) (hG:Qe w 0 Qc):
 Calls Tryz.prog 116 #[.pointer (some ⟨p,0,none⟩),.pointer (some ⟨pm,0,none⟩),.bool good] w (Q3D w p pm qm pl pr c n (Qg c t M good)):=by
 obtain ⟨k,hk,hst⟩:∃k:Nat,k<16∧t.st=(k:Int):=⟨t.st.toNat,by have:=hok.s0;have:=hok.s1;omega,by have:=hok.s0;omega⟩
 refine Q3X hT.blk hk hst ?_
 intro w' f
 have hT':=tk_fr hT f
 have hM':=hM.fr f Lc Lc
 have hG':=hG.fr f Lc
 clear hT hM hG f
 match k,hk with
 |0,_=>exact Q0n hT' hM' hG' hn hst
 |1,_=>obtain ⟨f,h1,h2⟩:=hok.lk (by rw [hst];simp);exact Q5V hT' hM' hG' hn hst f h1 h2 hS hc
 |2,_=>obtain ⟨f,s,h1,h2,h3,h4,h5⟩:=hok.fd (by rw [hst];simp);exact Ei hT' hM' hG' hn hst f s h1 h3 h4 h5 hok.w0 hok.w1 hc
 |3,_=>obtain ⟨f,h1,h2⟩:=hok.lk (by rw [hst];simp);exact Q5Y hT' hM' hG' hn hst f h1 h2 hS hc
 |4,_=>obtain ⟨f,s,h1,h2,h3,h4,h5⟩:=hok.fd (by rw [hst];simp);exact El hT' hM' hG' hn hst f s h1 h3 h4 h5 hok.w0 hok.w1 hc
 |5,_=>obtain ⟨f,h1,h2⟩:=hok.lk (by rw [hst];simp);exact Q40 hT' hM' hG' hn hst f h1 h2 hS hc
 |6,_=>obtain ⟨f,s,h1,h2,h3,h4,h5⟩:=hok.fd (by rw [hst];simp);exact UM hT' hM' hG' hn hst f s h1 h3 h4 h5 hok.w0 hok.w1 hc h2
 |7,_=>obtain ⟨f,h1,h2⟩:=hok.lk (by rw [hst];simp);exact Q44 hT' hM' hG' hn hst f h1 h2 hS hc
 |8,_=>obtain ⟨f,s,h1,h2,h3,h4,h5⟩:=hok.fd (by rw [hst];simp);exact UN hT' hM' hG' hn hst f s h1 h3 h4 h5 hok.w0 hok.w1 hc
 |9,_=>obtain ⟨s,h1,h2⟩:=hok.wd (by rw [hst];simp);exact Q46 hT' hM' hG' hn hst s h1 h2 hok.w0 hok.w1 hc
 |10,_=>exact Q1Z hT' hM' hG' hn hst
 |11,_=>obtain ⟨h1,h2⟩:=hok.i hst;obtain ⟨s,h3,h4⟩:=hS t.i h1 h2;exact Q47 hT' hM' hG' hn hst s h3 (by unfold Q5;rw [if_pos ⟨h1,h2⟩];exact h4) hc
 |12,_=>obtain ⟨r,h1,h2⟩:=hok.rt hst;exact Q43 hT' hM' hG' hn hst r h1 h2
 |13,_=>exact Q1X hT' hM' hG' hn hst hc
 |14,_=>obtain ⟨s,h1,h2⟩:=hok.wd (by rw [hst];simp);exact WZ hT' hM' hG' hn hst s h1 h2 hok.w0 hok.w1 hc
 |15,_=>exact Q3Z hT' hM' hG' hst
 |k+16,hk=>exact absurd hk Lb
def NewP (w:World) (c:Q0) (t:Qd) (e:Ending) (w':World):Prop:=∃p,e=.returned (.pointer (some ⟨p,0,none⟩))∧w.heap.size≤p∧Xh w' p none none c t∧Fr [] w w'
theorem Q0q (w:World) (c:Q0) (who:Int):Calls Tryz.prog 80 #[c.val,.int .i64 who] w (NewP w c (Jc who)):=by
 exact Z0c
def Q7I (w:World) (c:Q0) (t:Qd) (e:Ending) (w':World):Prop:=∃p,e=.returned (.pointer (some ⟨p,0,none⟩))∧w.heap.size≤p∧Xh w' p none none c t∧Fr [] w w'
theorem En (w:World) (c:Q0) (who i:Int):Calls Tryz.prog 94 #[c.val,.int .i64 who,.int .i64 i] w (Q7I w c (QU who i)):=by
 exact Z0c
theorem Q1Y (w:World) (p:Nat) (pl pr:Option Nat) (c:Q0) (t:Qd) (h:Xh w p pl pr c t):Calls Tryz.prog 114 #[.pointer (some ⟨p,0,none⟩)] w fun e w'=>e=.returned (.bool (decide (t.st=9)))∧Fr [] w w':=by
 have B:=Bag.one h
 clear h
 generalize t.st=a at B ⊢
 have q:=B.q 0
 go_in
 go_wp2
 go_ret
 exact ⟨rfl,Fr.refl _ _⟩
theorem Q0o (w:World) (p:Nat) (pl pr:Option Nat) (c:Q0) (t:Qd) (h:Xh w p pl pr c t) (hst:t.st=15):Calls Tryz.prog 117 #[.pointer (some ⟨p,0,none⟩)] w fun e w'=>e=.returned (if t.e=0 then .tuple #[.int .i64 0,.int .i64 t.i,.int .i64 t.gen] else .tuple #[.int .i64 t.e,.int .i64 0,.int .i64 0])∧Fr [] w w':=by
 have B:=Bag.one h
 rw [hst] at B
 clear h hst
 generalize t.e=e0 at B ⊢
 have q:=B.q 0
 by_cases h0:e0=0
 · subst h0
   rw [if_pos rfl]
   exact Z0H
 · rw [if_neg h0]
   go_in
   go_wp2
   go_ret3
   exact ⟨rfl,Fr.refl [] w⟩
def Xf (w:World) (p:Nat) (pr:Option Nat) (c:Q0) (g:QC):Prop:=
 w.heap[p]?=some (.cells #[.int .i64 c.wo,.int .i64 c.sl,.int .i64 c.st,.int .i64 c.wa,.int .i64 c.us,.int .i64 g.w,.int .i64 g.i,.int .i64 g.gen,.bool g.discard,.int .i64 g.st,.int .i64 g.closed,.int .i64 g.word,Xu pr,.int .i64 g.e] 194 (0,0))
theorem Xf.fr {w w':World} {p:Nat} {pr:Option Nat} {c:Q0} {g:QC} (h:Xf w p pr c g) {S:List Nat} (f:Fr S w w') (hp:p∉S):Xf w' p pr c g:=f.at h hp
abbrev tG (p:Nat) (pr:Option Nat) (c:Q0) (g:QC):Th:=tR p #[.int .i64 c.wo,.int .i64 c.sl,.int .i64 c.st,.int .i64 c.wa,.int .i64 c.us,.int .i64 g.w,.int .i64 g.i,.int .i64 g.gen,.bool g.discard,.int .i64 g.st,.int .i64 g.closed,.int .i64 g.word,Xu pr,.int .i64 g.e] 194
structure XU (w:World) (p pm qm:Nat) (pr:Option Nat) (c:Q0) (g:QC):Prop where
 blk:Xf w p pr c g
 rt:Yf w pr g.ret
 ft:Gm w p pm qm none pr
def Zy (w:World) (p pm qm:Nat) (pr:Option Nat) (c:Q0) (n:Int) (x:QC×List Int) (e:Ending) (w':World):Prop:=
 e=.returned (.tuple #[])∧∃pr',XU w' p pm qm pr' c x.1∧Qm w' pm qm x.2 (n+1)∧Fr (p::pm::qm::pr.toList) w w'∧(∀b,pr'=some b→pr=some b∨w.heap.size≤b)
theorem Q8Z {w w':World} {p pm qm:Nat} {pr pr':Option Nat} {c:Q0} {n:Int} {g':QC} {M':List Int} {S:List Nat} (hf:Gm w p pm qm none pr) (blk:Xf w' p pr' c g') (rt:Yf w' pr' g'.ret) (mem:Qm w' pm qm M' (n+1))
 (fr:Fr S w w') (hS:∀x∈S,x=p∨x=pm∨x=qm∨pr=some x) (hr:∀b,pr'=some b→pr=some b∨w.heap.size≤b):
 Zy w p pm qm pr c n (g',M') (.returned (.tuple #[])) w':=
 ⟨rfl,pr',⟨blk,rt,K6 hf fr.size (fun b hb=>by cases hb) hr (fun b hb=>by cases hb) (rt.lt) (fun b hb=>by cases hb)⟩,mem,fr.mono (fun x hx=>by
   rcases hS x hx with rfl|rfl|rfl|h
   · simp
   · simp
   · simp
   · simp [h]),hr⟩
theorem XU.bag {w:World} {p pm qm:Nat} {pr:Option Nat} {c:Q0} {g:QC} {M:List Int} {n:Int} (h:XU w p pm qm pr c g) (hM:Qm w pm qm M n) (hG:Qe w 0 Qc):Bag (p::pm::qm::pr.toList) w [tG p pr c g,tM pm qm M n,tRt pr g.ret,tF] w:=by
 have hp:=h.ft.pp;have hr:=h.ft.fr;have hne:=hM.ne;have h1:=hM.plt;have h2:=hM.qlt
 refine Bag.of ?_ ?_ ?_ ?_
 · simp only [List.forall_mem_cons];exact ⟨h.blk,hM,h.rt,hG,Lc⟩
 · cases pr with
   |none=>simp;omega
   |some b=>have:=hr b rfl;simp;omega
 · cases pr with
   |none=>simp;omega
   |some b=>have:=hr b rfl;simp;omega
 · simp only [List.forall_mem_cons];simp;intro x hx;simp [hx]
theorem Zy.of {fn:Nat} {w:World} {p pm qm:Nat} {pr:Option Nat} {c:Q0} {g:QC} {M:List Int} {n:Int} {X':QC×List Int} (hT:XU w p pm qm pr c g) (hM:Qm w pm qm M n) (hG:Qe w 0 Qc)
 (h:∀(S:List Nat) (wo sl sst wa us gw gi ggen:Int) (gdis:Bool) (gst gclosed gword:Int) (gret:Option J2) (ge:Int) (X:QC×List Int),c=⟨wo,sl,sst,wa,us⟩→g=⟨gw,gi,ggen,gdis,gst,gclosed,gword,gret,ge⟩→RowKit.Hid (X'=X)→
   Bag S w [tR p #[.int .i64 wo,.int .i64 sl,.int .i64 sst,.int .i64 wa,.int .i64 us,.int .i64 gw,.int .i64 gi,.int .i64 ggen,.bool gdis,.int .i64 gst,.int .i64 gclosed,.int .i64 gword,Xu pr,.int .i64 ge] 194,tM pm qm M n,tRt pr gret,tF] w→
   Calls Tryz.prog fn #[.pointer (some ⟨p,0,none⟩),.pointer (some ⟨pm,0,none⟩)] w fun e w'=>e=.returned (.tuple #[])∧∃pr' k,k≤n+1∧Bag S w [tG p pr' c X.1,tM pm qm X.2 k,tRt pr' X.1.ret,tF] w'):
   Calls Tryz.prog fn #[.pointer (some ⟨p,0,none⟩),.pointer (some ⟨pm,0,none⟩)] w (Zy w p pm qm pr c n X'):=by
 obtain ⟨wo,sl,sst,wa,us⟩:=c
 obtain ⟨gw,gi,ggen,gdis,gst,gclosed,gword,gret,ge⟩:=g
 refine (h (p::pm::qm::pr.toList) wo sl sst wa us gw gi ggen gdis gst gclosed gword gret ge _ rfl rfl (hid rfl) (hT.bag hM hG)).mono ?_
 rintro e w' ⟨rfl,pr',k,hk,B⟩
 have hr:∀b,pr'=some b→pr=some b∨w.heap.size≤b:=fun b hb=>by
  have h2:=B.ow 2 rfl b (by simp [hb])
  have h3:=B.nd 2 0 (by decide) b (by simp [hb])
  have h4:=B.nd 2 1 (by decide) b (by simp [hb])
  simp at h2 h3 h4
  rcases h2 with (h2|h2|h2|h2)|h2
  · exact absurd h2 h3
  · exact absurd h2 h4.1
  · exact absurd h2 h4.2
  · exact .inl h2
  · exact .inr h2
 exact Q8Z hT.ft (B.g 0) (B.g 2) (Qm.mono (B.g 1) hk) B.fr Lc hr
theorem G8 {P:Prop} (h:P:=by
 first
  |go_end0
  |(try simp only [Exit.inBlock,Exit.then]
    refine bodyPost_ret (results_none rfl _ _ _) rfl ?_)
 have hx:=HX.out
 try simp [*] at hx
 subst hx
 first
  |refine ⟨rfl,_,_, ?_,B⟩
  |refine ⟨rfl,_,_, ?_,B.tk 4⟩
  |refine ⟨rfl,some _,_, ?_,B.sel [0,1,5,3]⟩
 omega):P:=h
theorem Q74 (w:World) (p:Nat) (pr:Option Nat) (c:Q0) (g:QC) (e:Int) (h:Xf w p pr c g):Calls Tryz.prog 247 #[.pointer (some ⟨p,0,none⟩),.int .i64 e] w fun en w'=>en=.returned (.tuple #[])∧Xf w' p pr c (g.end_ e)∧Fr [p] w w':=by
 have B:=Bag.own h
 have q:=B.q 0;have u:=B.u 0
 clear h
 go_in
 go_wp2_with fail
 generalize hw:World.setCell _ _ _=w2
 replace B:=((B.s 0).s 0).e hw
 go_end0
 exact ⟨rfl,B.g 0,B.fr⟩
theorem G9 {S0:List Nat} {w0 w:World} {L L':List Th} (B:Bag S0 w0 L w) (e:Int) {p:Nat} {j:Bool} {wo sl sst wa us gw gi ggen gst gclosed gword ge:Int} {pr:Option Nat} (hT:gt L 0=tR p #[.int .i64 wo,.int .i64 sl,.int .i64 sst,.int .i64 wa,.int .i64 us,.int .i64 gw,.int .i64 gi,.int .i64 ggen,.bool j,.int .i64 gst,.int .i64 gclosed,.int .i64 gword,Xu pr,.int .i64 ge] 194:=by exact rfl)
 (hi:0<L.length:=by exact Nat.lt_of_sub_ne_zero (by intro h;cases h)) (hL:L.set 0 (tR p #[.int .i64 wo,.int .i64 sl,.int .i64 sst,.int .i64 wa,.int .i64 us,.int .i64 gw,.int .i64 gi,.int .i64 ggen,.bool j,.int .i64 4,.int .i64 gclosed,.int .i64 gword,Xu pr,.int .i64 e] 194)=L':=by (try simp only [List.set_cons_zero,List.set_cons_succ]);exact rfl):
  Calls Tryz.prog 247 #[.pointer (some ⟨p,0,none⟩),.int .i64 e] w fun en w'=>en=.returned (.tuple #[])∧Bag S0 w0 L' w':=by
 have h:=B.g 0
 rw [hT] at h
 refine (Q74 w p pr ⟨wo,sl,sst,wa,us⟩ ⟨gw,gi,ggen,j,gst,gclosed,gword,none,ge⟩ e h).mono ?_
 rintro e w' ⟨rfl,h,f⟩
 exact ⟨rfl,B.up 0 (T':=tR p _ _) h f (by rw [hT]) (by rw [hT]) (by rw [hT]) hi hL⟩
theorem Q2T {w:World} {p pm qm:Nat} {pr:Option Nat} {c:Q0} {g:QC} {M:List Int} {n:Int} (hT:XU w p pm qm pr c g) (hM:Qm w pm qm M n) (hG:Qe w 0 Qc) (hn:n≤1000000000) (hst:g.st=0):
 Calls Tryz.prog 207 #[.pointer (some ⟨p,0,none⟩),.pointer (some ⟨pm,0,none⟩)] w (Zy w p pm qm pr c n (Qv c g M)):=by
 have HL:=hid fun w' h=>Za w' pm qm M n 0 h hn
 refine Zy.of hT hM hG fun S wo sl sst wa us gw gi ggen gdis gst gclosed gword gret ge X hc hg HX B=> ?_
 subst hc hg
 dsimp only at hst
 subst hst
 clear hT hM
 have hx:=HX.out
 simp only [Qv,if_true] at hx
 replace HX:=hid hx
 clear hx
 generalize Q6 M 0=lx at HL HX
 go_in
 go_wp2_with fail
 refine (HL.out _ (B.g 1)).mono ?_
 rintro e w1 ⟨rfl,h,f⟩
 replace B:=B.M h f
 have q:=B.q 0;have u:=B.u 0
 by_cases h2:lx=2
 all_goals
  go_wp2_with fail
  clear q u
  generalize hw:World.setCell _ _ _=w2
  replace B:=((B.s 0).s 0).e hw
 · refine (G9 B 5).mono ?_
   rintro e w3 ⟨rfl,B⟩
   go_wp2
   exact G8
 · exact G8
def YQ (c:Q0) (g:QC) (s:Q7):Bool:=g.discard||s.br||decide (c.us≤s.us)||decide (g.closed≠0)
theorem Q3p (c:Q0) (g:QC) (M:List Int) (hst:g.st=1):Qv c g M=(if Q5 c g.i<0 then g.end_ 2 else
 match dec (Q6 M (Q5 c g.i)) with
 |some s=>if s.st=3∧s.own=g.w∧s.gen=g.gen then
   (if s.str≠0∧g.discard=false then {g with word:=Q6 M (Q5 c g.i)}.end_ 8
   else if YQ c g s then {g with word:=Q6 M (Q5 c g.i),ret:=some (Jb c g.i (Q6 M (Q5 c g.i))),st:=3} else {g with word:=Q6 M (Q5 c g.i),st:=2})
  else {g with word:=Q6 M (Q5 c g.i)}.end_ 2
 |none=>{g with word:=Q6 M (Q5 c g.i)}.end_ 2,M):=by
 simp only [Qv,hst]
 rfl
theorem Q70 {w:World} {p pm qm:Nat} {pr:Option Nat} {c:Q0} {g:QC} {M:List Int} {n:Int} (hT:XU w p pm qm pr c g) (hM:Qm w pm qm M n) (hG:Qe w 0 Qc) (hst:g.st=1) (hc:c.fits) (hneg:Q5 c g.i<0):
 Calls Tryz.prog 208 #[.pointer (some ⟨p,0,none⟩),.pointer (some ⟨pm,0,none⟩)] w (Zy w p pm qm pr c n (Qv c g M)):=by
 have HSL:=hid fun w'=>J9 w' c g.i hc
 rw [Q3p c g M hst,if_pos hneg]
 refine Zy.of hT hM hG fun S wo sl sst wa us gw gi ggen gdis gst gclosed gword gret ge X hc hg HX B=> ?_
 subst hc hg
 dsimp only [Q0.val] at hst HSL hneg
 subst hst
 clear hT hM
 generalize Q5 _ _=cell at HSL hneg
 go_in
 go_wp2_with fail
 refine rg B fun _ B=> ?_
 repeat refine tb ?_
 refine to fun K hK=> ?_
 go_simp
 refine (HSL.out _).mono ?_
 rintro e w1 ⟨rfl,f⟩
 replace B:=B.tm f
 go_wp2_with fail
 refine bk hK ?_
 clear hK K
 try go_frame
 repeat refine tb ?_
 refine wpAnyH_done (by decide+kernel) ?_ _
 go_wp2_with fail
 refine (G9 B 2).mono ?_
 rintro e w3 ⟨rfl,B⟩
 go_wp2
 exact G8
theorem EO (w:World) (p:Nat) (pr:Option Nat) (c:Q0) (g:QC) (s:Q7) (h:Xf w p pr c g):Calls Tryz.prog 248 #[.pointer (some ⟨p,0,none⟩),s.val] w fun en w'=>en=.returned (.bool (YQ c g s))∧Fr [] w w':=by
 unfold YQ
 obtain ⟨zst,zso,zstr,zbr,zmkd,zus,zgen,zep,zver⟩:=s
 obtain ⟨wo,sl,sst,wa,us⟩:=c
 obtain ⟨gw,gi,ggen,gdis,gst,gclosed,gword,gret,ge⟩:=g
 have B:=Bag.one h
 clear h
 unfold Q7.val
 cases gdis<;>cases zbr<;>by_cases hu:us≤zus<;>by_cases hc:gclosed=0
 all_goals
  have q:=B.q 0;have qa:=B.qa 0
  try subst hc
  go_in
  go_wp2_with fail
  try go_region
  all_goals go_wp2
  all_goals go_ret
  all_goals first
   |exact ⟨by simp [*],(Fr.refl [] w).alloc _⟩
   |exact ⟨by simp [*],((Fr.refl [] w).alloc _).drew⟩
theorem Q71 {w:World} {p pm qm:Nat} {pr:Option Nat} {c:Q0} {g:QC} {M:List Int} {n:Int} (hT:XU w p pm qm pr c g) (hM:Qm w pm qm M n) (hG:Qe w 0 Qc) (hn:n≤1000000000) (hst:g.st=1) (hc:c.fits) (s:Q7) (hpos:¬Q5 c g.i<0) (hs:s.right) (hld:Q6 M (Q5 c g.i)=s.enc):
 Calls Tryz.prog 208 #[.pointer (some ⟨p,0,none⟩),.pointer (some ⟨pm,0,none⟩)] w (Zy w p pm qm pr c n (Qv c g M)):=by
 have HSL:=hid fun w'=>J9 w' c g.i hc
 have HLD:=hid fun w' h=>Za w' pm qm M n (Q5 c g.i) h hn
 have HD:=hid fun w' h=>Ji w' s hs h
 have HNW:=hid fun w'=>KQ w' c g.i s.enc hc
 have HRT:=hid fun w' h=>EO w' p pr c {g with word:=s.enc} s h
 rw [Q3p c g M hst,if_neg hpos,hld,QF hs]
 rw [hld] at HLD
 rw [show YQ c {g with word:=s.enc} s=YQ c g s from rfl] at HRT
 dsimp only
 generalize YQ c g s=R at HRT ⊢
 refine Zy.of hT hM hG fun S wo sl sst wa us gw gi ggen gdis gst gclosed gword gret ge X hc hg HX B=> ?_
 subst hc hg
 obtain ⟨zst,zso,zstr,zbr,zmkd,zus,zgen,zep,zver⟩:=s
 dsimp only [Q0.val,Q7.val] at hst HSL HNW HLD HD HRT hpos HX
 subst hst
 clear hT hM hld hs hG
 generalize Q5 _ _=cell at HSL hpos HLD
 generalize Q7.enc _=en at HLD HD HNW HRT HX
 go_in
 go_wp2_with fail
 refine rg B fun _ B=> ?_
 repeat refine tb ?_
 refine to fun K hK=> ?_
 go_simp
 refine (HSL.out _).mono ?_
 rintro e w1 ⟨rfl,f⟩
 replace B:=B.tm f
 go_wp2_with fail
 refine bk hK ?_
 clear hK K HSL
 try go_frame
 repeat refine tb ?_
 refine wpAnyH_done (by decide+kernel) ?_ _
 go_wp2_with fail
 refine (HLD.out _ (B.g 1)).mono ?_
 rintro e w2 ⟨rfl,h,f⟩
 replace B:=B.M h f
 have q:=B.q 0;have u:=B.u 0
 go_wp2_with fail
 clear q u
 generalize hw:World.setCell _ _ _=w3
 replace B:=(B.s 0).e hw
 refine (HD.out _ (B.g 3)).mono ?_
 rintro e w4 ⟨rfl,f⟩
 replace B:=B.tm f
 go_wp2_with fail
 generalize hb:(World.heap _).size=b,hw:World.alloc _ _=w5
 replace B:=B.al hw hb
 have hcase:(zst≠3∧(zst != 3)=true)∨(zst=3∧zso≠gw∧(zso != gw)=true)∨(zst=3∧zso=gw∧zgen≠ggen∧(zgen != ggen)=true)∨(zst=3∧zso=gw∧zgen=ggen):=by simp;omega
 rcases hcase with ⟨h1,h2⟩|⟨rfl,h1,h2⟩|⟨rfl,rfl,h1,h2⟩|⟨rfl,rfl,rfl⟩
 all_goals
  refine rg B fun _ B=> ?_
  repeat first|refine tb ?_|refine tv ?_
  refine wpAnyH_done (by decide+kernel) ?_ _
 iterate 3
  · go_wp2_with fail
    refine (G9 B 2).mono ?_
    rintro e w3 ⟨rfl,B⟩
    go_wp2
    exact G8
 have q:=B.q 0;have r:=B.q 4
 have hcase:(zstr≠0∧(zstr != 0)=true∧gdis=false)∨zstr=0∨(zstr≠0∧(zstr != 0)=true∧gdis=true):=by cases gdis<;>simp<;>omega
 rcases hcase with ⟨h1,h2,rfl⟩|rfl|⟨h1,h2,rfl⟩
 · go_wp2_with fail
   refine (G9 B 8).mono ?_
   rintro e w3 ⟨rfl,B⟩
   go_wp2
   exact G8
 all_goals
  go_wp2_with fail
  refine (HRT.out _ (B.g 0)).mono ?_
  rintro e w6 ⟨rfl,f⟩
  replace B:=B.tm f
  clear q r
  have q:=B.q 0;have u:=B.u 0
  cases R
  · go_wp2_with fail
    generalize hw:World.setCell _ _ _=w7
    replace B:=(B.s 0).e hw
    exact G8
  · go_wp2_with fail
    refine rgc 0 12 B fun _ B=> ?_
    repeat refine tb ?_
    refine to fun K hK=> ?_
    go_simp
    refine (HNW.out _).mono ?_
    rintro e w7 ⟨qr,rfl,hq,hr,f⟩
    replace B:=B.nw (T':=tRt (some qr) (some _)) hr f (fun x hx=>by simp at hx;subst hx;exact ⟨hq,Q9 hr⟩)
    go_wp2_with fail
    refine bk hK ?_
    clear hK K
    try go_frame
    repeat refine tb ?_
    clear q u
    have q:=B.q 0;have u:=B.u 0
    refine to fun K hK=> ?_
    go_simp
    clear q u
    generalize hw:World.setCell _ _ _=w8
    replace B:=(B.s 0).e hw
    refine bk hK ?_
    clear hK K
    try go_frame
    refine wpAnyH_done (by decide+kernel) ?_ _
    have q:=B.q 0;have u:=B.u 0
    go_wp2_with fail
    clear q u
    generalize hw:World.setCell _ _ _=w9
    replace B:=(B.s 0).e hw
    exact G8
theorem Q90 (c:Q0) (g:QC) (M:List Int) (s:Q7) (hs:s.right) (hw:g.word=s.enc) (hst:g.st=2):Qv c g M=(match Qk s 4 g.w 0 with
 |some u=>if Qx M (Q5 c g.i) s.enc then ({g with st:=1}.end_ 0,QI M (Q5 c g.i) s.enc u.enc) else ({g with st:=1},M)
 |none=>({g with st:=1},M)):=by
 have e:Qv c g M=(match J6 g.word 4 g.w 0 with
  |some (_,next)=>if Qx M (Q5 c g.i) g.word then ({g with st:=1}.end_ 0,QI M (Q5 c g.i) g.word next) else ({g with st:=1},M)
  |none=>({g with st:=1},M)):=by
  simp only [Qv,hst]
  rfl
 rw [e,hw,XK hs]
 cases Qk s 4 g.w 0<;>rfl
theorem Q59 {w:World} {p pm qm:Nat} {pr:Option Nat} {c:Q0} {g:QC} {M:List Int} {n:Int} (hT:XU w p pm qm pr c g) (hM:Qm w pm qm M n) (hG:Qe w 0 Qc) (hn:n≤1000000000) (s:Q7) (hst:g.st=2) (hs:s.right) (hw:g.word=s.enc) (o0:0≤g.w) (o1:g.w≤15) (hc:c.fits):
 Calls Tryz.prog 209 #[.pointer (some ⟨p,0,none⟩),.pointer (some ⟨pm,0,none⟩)] w (Zy w p pm qm pr c n (Qv c g M)):=by
 have HD:=hid fun w' h=>Ji w' s hs h
 have HN:=hid fun w' h=>Yu w' s 4 g.w 0 hs Lb o0 o1 h
 rw [show ((4:Nat):Int)=4 from rfl] at HN
 have HE:=hid fun u w' (hu:Qk s 4 g.w 0=some u) h=>XJ w' u (JF hs hu) h
 have HSL:=hid fun w'=>J9 w' c g.i hc
 have HCS:=hid fun ue w' h=>Uw w' pm qm M n (Q5 c g.i) s.enc ue h hn
 rw [Q90 c g M s hs hw hst]
 generalize Q5 c g.i=cell at HSL HCS ⊢
 generalize Qk s 4 g.w 0=x at HN HE ⊢
 rw [←hw] at HD HCS ⊢
 clear hw hs
 have HCB:=hid fun v=>@K8 M cell g.word v
 obtain ⟨cb,hcb⟩:∃cb,Qx M cell g.word=cb:=⟨_,rfl⟩
 rw [hcb] at HCS HCB ⊢
 clear hcb
 obtain ⟨zst,zso,zstr,zbr,zmkd,zus,zgen,zep,zver⟩:=s
 rcases x with _|⟨ust,uso,ustr,ubr,umkd,uus,ugen,uep,uver⟩
 all_goals
  refine Zy.of hT hM hG fun S wo sl sst wa us gw gi ggen gdis gst gclosed gword gret ge X hc hg HX B=> ?_
  subst hc hg
  dsimp only [Q0.val,Q7.val,XA,Option.getD,Option.isSome] at hst HSL HD HN HE HCS HCB HX
  subst hst
  clear hT hM hG
  have q:=B.q 0;have u:=B.u 0
  go_in
  go_wp2_with fail
  clear q u
  generalize hw:World.setCell _ _ _=w3
  replace B:=(B.s 0).e hw
  refine (HD.out _ (B.g 3)).mono ?_
  rintro e w4 ⟨rfl,f⟩
  replace B:=B.tm f
  go_wp2_with fail
  generalize hb:(World.heap _).size=b,hw:World.alloc _ _=w5
  replace B:=B.al hw hb
  refine rga 4 B fun _ B=> ?_
  refine tj 1 ?_
  refine tj 2 ?_
  refine tj 3 ?_
  refine tj 4 ?_
  have q:=B.q 4
  refine tc 0 fun K hK=> ?_
  go_simp
  refine bk hK ?_
  clear hK K q
  try go_frame
  refine tc 5 fun K hK=> ?_
  go_simp
  refine (HN.out _ (B.g 3)).mono ?_
  rintro e w6 ⟨rfl,f⟩
  replace B:=B.tm f
  go_wp2_with fail
  refine bk hK ?_
  clear hK K
  try go_frame
  refine tb ?_
  refine tb ?_
  refine tb ?_
  have q:=B.q 4;have u:=B.u 4
  refine tc 9 fun K hK=> ?_
  go_simp
  clear q u
  generalize hw:World.setCell _ _ _=w7
  replace B:=(((((((((B.s 4).s 4).s 4).s 4).s 4).s 4).s 4).s 4).s 4).e hw
  refine bk hK ?_
  clear hK K
  try go_frame
  refine tb ?_
  refine wpAnyH_done (by decide+kernel) ?_ _
 · go_wp2
   exact G8
 have q:=B.q 4
 go_wp2_with fail
 refine (HE.out _ _ rfl (B.g 3)).mono ?_
 rintro e w8 ⟨rfl,f⟩
 replace B:=B.tm f
 generalize Q7.enc _=ue at HX ⊢
 go_wp2_with fail
 refine rgx [0,2,3] B fun _ B=> ?_
 repeat refine tb ?_
 refine tj 12 ?_
 refine tj 13 ?_
 refine tj 14 ?_
 refine tj 15 ?_
 refine tj 16 ?_
 refine tc 11 fun K hK=> ?_
 go_simp
 refine (HSL.out _).mono ?_
 rintro e w9 ⟨rfl,f⟩
 replace B:=B.tm f
 go_wp2_with fail
 refine bk hK ?_
 clear hK K
 try go_frame
 refine tc 17 fun K hK=> ?_
 go_simp
 refine (HCS.out ue _ (B.g 1)).mono ?_
 rintro e w10 ⟨rfl,h,f⟩
 replace B:=B.M h f
 go_wp2_with fail
 refine bk hK ?_
 clear hK K
 try go_frame
 refine tj 18 ?_
 refine wpAnyH_done (by decide+kernel) ?_ _
 cases cb
 · rw [HCB.out _ rfl] at B
   go_wp2
   exact G8
 · go_wp2_with fail
   refine (G9 B 0).mono ?_
   rintro e w3 ⟨rfl,B⟩
   go_wp2
   exact G8
theorem Q91 (c:Q0) (g:QC) (r:J2) (M:List Int) (hr:g.ret=some r) (hst:g.st=3):Qv c g M=(if (Qn r M).1.done then (if (Qn r M).1.swapped then {g with ret:=some (Qn r M).1}.end_ 0 else {g with ret:=some (Qn r M).1,st:=1}) else {g with ret:=some (Qn r M).1},(Qn r M).2):=by
 obtain ⟨gw,gi,ggen,gdis,gst,gclosed,gword,gret,ge⟩:=g
 dsimp only at hst hr
 subst hst
 subst hr
 rfl
theorem Q5a {w:World} {p pm qm:Nat} {pr:Option Nat} {c:Q0} {g:QC} {M:List Int} {n:Int} (hT:XU w p pm qm pr c g) (hM:Qm w pm qm M n) (hG:Qe w 0 Qc) (hn:n≤1000000000) (r:J2) (hrt:g.ret=some r) (hst:g.st=3) (hok:r.ok):
 Calls Tryz.prog 210 #[.pointer (some ⟨p,0,none⟩),.pointer (some ⟨pm,0,none⟩)] w (Zy w p pm qm pr c n (Qv c g M)):=by
 obtain ⟨qr,rfl, -⟩:=(show Yf w pr (some r) from hrt▸hT.rt).get
 have hne:=hT.ft.fr qr rfl
 have HST:=hid fun w' hq h hg=>Yk w' qr pm qm r M n hok hq h hn ⟨hne.2.1,hne.2.2.1⟩ hg
 have HDO:=hid fun w' r' h=>YR w' qr r' h
 rw [Q91 c g r M hrt hst]
 generalize Qn r M=x at HST ⊢
 obtain ⟨r',M'⟩:=x
 dsimp only
 obtain ⟨dn,hdn⟩:∃b,r'.done=b:=⟨_,rfl⟩
 obtain ⟨sw,hsw⟩:∃b,r'.swapped=b:=⟨_,rfl⟩
 rw [hdn,hsw]
 refine Zy.of hT hM hG fun S wo sl sst wa us gw gi ggen gdis gst gclosed gword gret ge X hc hg HX B=> ?_
 subst hc hg
 dsimp only at hst hrt HX
 subst hst hrt
 clear hT hM hG hne hok
 have q:=B.q 0
 simp only [Xu] at q
 go_in
 go_wp2_with fail
 refine (HST.out _ (B.g 2) (B.g 1) (B.g 3)).mono ?_
 rintro e w1 ⟨rfl,hr,hm,f⟩
 replace B:=B.up2 2 1 (T:=tRt (some qr) (some r')) (T':=tM pm qm M' (n+1)) hr hm f
 clear q hr hm
 dsimp only
 rw [hdn]
 cases dn
 · go_wp2
   exact G8
 · have q:=B.q 0;have u:=B.u 0
   simp only [Xu] at q
   go_wp2_with fail
   clear q u
   generalize hw:World.setCell _ _ _=w2
   replace B:=(B.s 0).e hw
   refine (HDO.out _ _ (B.g 2)).mono ?_
   rintro e w3 ⟨rfl,f⟩
   replace B:=B.tm f
   rw [hsw,hdn]
   cases sw
   · go_wp2
     exact G8
   · go_wp2_with fail
     refine (G9 B 0).mono ?_
     rintro e w3 ⟨rfl,B⟩
     go_wp2
     exact G8
theorem Gt {c:Q0} {i:Int} (hc:c.fits) (h:0≤Q5 c i):0≤i∧i<c.sl∧Q5 c i=c.slot i:=by
 unfold Q5 at h ⊢
 split at h
 · rename_i h';rw [if_pos h'];exact ⟨h'.1,h'.2,rfl⟩
 · omega
structure QC.ok (c:Q0) (g:QC):Prop where
 s0:0≤g.st
 s1:g.st≤4
 w0:0≤g.w
 w1:g.w≤15
 wd:g.st=2→∃s,Q7.right s∧g.word=s.enc
 rt:g.st=3→∃r,g.ret=some r∧r.ok
def Q07 (w:World) (p pm qm:Nat) (pr:Option Nat) (c:Q0) (n:Int) (x:QC×List Int) (e:Ending) (w':World):Prop:=
 e=.returned (.bool (decide (x.1.st=4)))∧∃pr',XU w' p pm qm pr' c x.1∧Qm w' pm qm x.2 (n+1)∧Fr (p::pm::qm::pr.toList) w w'∧(∀b,pr'=some b→pr=some b∨w.heap.size≤b)
theorem Q2S {w w2:World} {p pm qm:Nat} {pr:Option Nat} {c:Q0} {n:Int} {x:QC×List Int} {e:Ending} (h:Zy w p pm qm pr c n x e w2):Q07 w p pm qm pr c n x (.returned (.bool (decide (x.1.st=4)))) w2:=⟨rfl,h.2⟩
theorem Q6Z {w:World} {p pm qm:Nat} {pr:Option Nat} {c:Q0} {g:QC} {n:Int} {X:QC×List Int} (hb:Xf w p pr c g)
 (h:(g.st=0∧Calls Tryz.prog 207 #[.pointer (some ⟨p,0,none⟩),.pointer (some ⟨pm,0,none⟩)] w (Zy w p pm qm pr c n X))∨(g.st=1∧Calls Tryz.prog 208 #[.pointer (some ⟨p,0,none⟩),.pointer (some ⟨pm,0,none⟩)] w (Zy w p pm qm pr c n X))∨(g.st=2∧Calls Tryz.prog 209 #[.pointer (some ⟨p,0,none⟩),.pointer (some ⟨pm,0,none⟩)] w (Zy w p pm qm pr c n X))∨(g.st=3∧Calls Tryz.prog 210 #[.pointer (some ⟨p,0,none⟩),.pointer (some ⟨pm,0,none⟩)] w (Zy w p pm qm pr c n X))):
 Calls Tryz.prog 147 #[.pointer (some ⟨p,0,none⟩),.pointer (some ⟨pm,0,none⟩)] w (Q07 w p pm qm pr c n X):=by
 have B:=Bag.one hb
 clear hb
 obtain ⟨gw,gi,ggen,gdis,gst,gclosed,gword,gret,ge⟩:=g
 obtain ⟨X1,X2⟩:=X
 dsimp only at h
 rcases h with ⟨rfl,h⟩|⟨rfl,h⟩|⟨rfl,h⟩|⟨rfl,h⟩
 all_goals
  have HC:=hid h
  clear h
  have q:=B.q 0
  go_in
  go_wp2_with fail
  refine HC.out.mono ?_
  rintro e w2 h2
  have HX:=hid (Q2S h2)
  obtain ⟨rfl,pr',ht, -⟩:=h2
  clear q
  have q:=(Bag.one ht.blk).q 0
  dsimp only at HX q
  clear ht
  generalize X1.st=xs at HX q
  by_cases h4:xs=4
  · subst h4
    go_wp2
    go_ret
    exact HX.out
  · rw [decide_eq_false h4] at HX
    go_wp2
    go_ret
    first
    |exact HX.out
    |(rw [show (xs==4)=false by simp [h4]];exact HX.out)
theorem Q58 (w:World) (p pm qm:Nat) (pr:Option Nat) (c:Q0) (g:QC) (M:List Int) (n:Int) (hT:XU w p pm qm pr c g) (hM:Qm w pm qm M n) (hn:n≤1000000000) (hok:g.ok c) (hlive:g.st≠4) (hS:X5 c M) (hc:c.fits) (hG:Qe w 0 Qc):
 Calls Tryz.prog 147 #[.pointer (some ⟨p,0,none⟩),.pointer (some ⟨pm,0,none⟩)] w (Q07 w p pm qm pr c n (Qv c g M)):=by
 have h0:=hok.s0;have h1:=hok.s1
 refine Q6Z hT.blk ?_
 rcases (by omega:g.st=0∨g.st=1∨g.st=2∨g.st=3) with h|h|h|h
 · exact .inl ⟨h,Q2T hT hM hG hn h⟩
 · refine .inr (.inl ⟨h, ?_⟩)
   by_cases hneg:Q5 c g.i<0
   · exact Q70 hT hM hG h hc hneg
   · obtain ⟨a,b,e⟩:=Gt hc (by omega:0≤Q5 c g.i)
     obtain ⟨s,hs,hld⟩:=hS g.i a b
     exact Q71 hT hM hG hn h hc s hneg hs (by rw [e];exact hld)
 · obtain ⟨s,hs,hw⟩:=hok.wd h
   exact .inr (.inr (.inl ⟨h,Q59 hT hM hG hn s h hs hw hok.w0 hok.w1 hc⟩))
 · obtain ⟨r,hr,hrk⟩:=hok.rt h
   exact .inr (.inr (.inr ⟨h,Q5a hT hM hG hn r hr h hrk⟩))
def Q9m (w:World) (c:Q0) (g:QC) (e:Ending) (w':World):Prop:=∃p,e=.returned (.pointer (some ⟨p,0,none⟩))∧w.heap.size≤p∧Xf w' p none c g∧Fr [] w w'
theorem Q1f (w:World) (c:Q0) (who i gen:Int) (dis:Bool):Calls Tryz.prog 97 #[c.val,.int .i64 who,.int .i64 i,.int .i64 gen,.bool dis] w (Q9m w c (JD who i gen dis)):=by
 exact Z0c
theorem Q1g (w:World) (p:Nat) (pr:Option Nat) (c:Q0) (g:QC) (h:Xf w p pr c g) (hst:g.st=4):Calls Tryz.prog 148 #[.pointer (some ⟨p,0,none⟩)] w fun e w'=>e=.returned (.tuple #[.int .i64 g.e,.bool true])∧Fr [] w w':=by
 have B:=Bag.one h
 clear h
 rw [hst] at B
 clear hst
 have q:=B.q 0
 exact Z10
end
end Go.Proofs.YtgjklfmnmljilaaGreatDoor
