/- A part of the proof. -/
import Derived.Test.YtgjklfmnmljilaaGreatDoorZR23
import Derived.Deep.WholeRow
namespace Go.Proofs.YtgjklfmnmljilaaGreatDoor
set_option linter.unusedVariables false
set_option linter.unusedSimpArgs false
set_option linter.unusedSectionVars false
set_option linter.unnecessarySimpa false
set_option maxRecDepth 100000
set_option maxHeartbeats 8000000
section
open Go.RowKit Go.Shelf Go.Lib
attribute [local go_sem] Oper.semAt_some
section
variable {w:World} {p pm qm:Nat} {pl pr:Option Nat} {c:Q0} {t:Qf} {M:List Int} {n:Int}
theorem Z0l {P:Prop} (h:P:=by
 go_wp2_with fail
 clear q u
 generalize hw2:World.setCell _ _ _=w2
 replace B:=(B.s 0).e hw2
 exact XO):P:=h
theorem Q3K (hT:Jw w p pm qm pl pr c t) (hM:Qm w pm qm M n) (hG:Qe w 0 Qc) (hn:n≤1000000000) (f:Qi) (hlk:t.look=some f) (hst:t.st=9) (hok:f.ok c) (hS:X5 c M) (hc:c.fits):Zx 187 w p pm qm pl pr c t M n:=by
 obtain ⟨ql,rfl, -⟩:=(show Zv w pl c (some f) from hlk▸hT.lk).get
 refine XL.of hT hM hG fun S wo sl sst wa us yw ys yep ycl yqu ylook yi yword yo yh yret X he hg HX B=> ?_
 subst he hg
 dsimp only at hst hlk
 subst hst hlk
 clear hT hM hG
 rcases (by cases (QB ⟨wo,sl,sst,wa,us⟩ f M).1.found<;>cases (QB ⟨wo,sl,sst,wa,us⟩ f M).2<;>simp:(QB ⟨wo,sl,sst,wa,us⟩ f M).1.found=true∨((QB ⟨wo,sl,sst,wa,us⟩ f M).1.found=false∧(QB ⟨wo,sl,sst,wa,us⟩ f M).2=true)∨((QB ⟨wo,sl,sst,wa,us⟩ f M).1.found=false∧(QB ⟨wo,sl,sst,wa,us⟩ f M).2=false)) with ha|⟨ha,hb⟩|⟨ha,hb⟩
 all_goals
  go_in
  go_wp2_with fail
  refine (DW B hn hc hok hS rfl ha rfl).mono ?_
  rintro e w1 ⟨rfl,B⟩
  simp only [*,Bool.not_true,Bool.not_false,Bool.and_true,Bool.and_false]
  simp only [cond_true,cond_false] at B
 · have q:=B.q 0;have u:=B.u 0
   exact Z0l
 · have q:=B.q 0;have u:=B.u 0
   exact Z0l
 · go_wp2
   exact XO
theorem Q1J (hT:Jw w p pm qm pl pr c t) (hM:Qm w pm qm M n) (hG:Qe w 0 Qc) (hn:n≤1000000000) (f:Qi) (hlk:t.look=some f) (hst:t.st=3) (hok:f.ok c) (hS:X5 c M) (hc:c.fits):Zx 181 w p pm qm pl pr c t M n:=by
 have HNW:=hid fun w' i x=>KQ w' c i x hc
 obtain ⟨ql,rfl, -⟩:=(show Zv w pl c (some f) from hlk▸hT.lk).get
 refine XL.of hT hM hG fun S wo sl sst wa us yw ys yep ycl yqu ylook yi yword yo yh yret X he hg HX B=> ?_
 subst he hg
 dsimp only [Q0.val] at hst hlk HNW
 subst hst hlk
 clear hT hM hG
 rcases (by cases (QB ⟨wo,sl,sst,wa,us⟩ f M).1.found<;>cases (QB ⟨wo,sl,sst,wa,us⟩ f M).2<;>simp:(QB ⟨wo,sl,sst,wa,us⟩ f M).1.found=true∨((QB ⟨wo,sl,sst,wa,us⟩ f M).1.found=false∧(QB ⟨wo,sl,sst,wa,us⟩ f M).2=true)∨((QB ⟨wo,sl,sst,wa,us⟩ f M).1.found=false∧(QB ⟨wo,sl,sst,wa,us⟩ f M).2=false)) with ha|⟨ha,hb⟩|⟨ha,hb⟩
 all_goals
  go_in
  go_wp2_with fail
  refine (DW B hn hc hok hS rfl ha rfl).mono ?_
  rintro e w1 ⟨rfl,B⟩
  simp only [*,Bool.not_true,Bool.not_false,Bool.and_true,Bool.and_false]
  simp only [cond_true,cond_false] at B
 · go_wp2_with fail
   refine rgc 0 15 B fun _ B=> ?_
   repeat refine tb ?_
   refine to fun K hK=> ?_
   go_simp
   refine (HNW.out _ _ _).mono ?_
   rintro e w8 ⟨qr,rfl,hq,hr,f⟩
   replace B:=B.nw (T':=tRt (some qr) (some _)) hr f (fun x hx=>by simp at hx;subst hx;exact ⟨hq,Q9 hr⟩)
   go_wp2_with fail
   refine bk hK ?_
   clear hK K
   try go_frame
   repeat refine tb ?_
   have q:=B.q 0;have u:=B.u 0
   refine to fun K hK=> ?_
   go_simp
   clear q u
   generalize hw:World.setCell _ _ _=w8
   replace B:=(B.s 0).e hw
   refine bk hK ?_
   clear hK K
   try go_frame
   refine wpAnyH_done (by decide+kernel) ?_ _
   have q:=B.q 0;have u:=B.u 0
   go_wp2_with fail
   clear q u
   generalize hw2:World.setCell _ _ _=w9
   replace B:=(B.s 0).e hw2
   replace B:=B.sel [0,1,2,5,4]
   exact XO
 · have q:=B.q 0
   go_wp2_with fail
   refine (Hy B 5 5 _).mono ?_
   exact Z15
 · go_wp2
   exact XO
theorem Q5I (hT:Jw w p pm qm pl pr c t) (hM:Qm w pm qm M n) (hG:Qe w 0 Qc) (hn:n≤1000000000) (f:Qi) (hlk:t.look=some f) (hst:t.st=5) (hok:f.ok c) (hS:X5 c M) (hc:c.fits):Zx 183 w p pm qm pl pr c t M n:=by
 obtain ⟨ql,rfl, -⟩:=(show Zv w pl c (some f) from hlk▸hT.lk).get
 refine XL.of hT hM hG fun S wo sl sst wa us yw ys yep ycl yqu ylook yi yword yo yh yret X he hg HX B=> ?_
 subst he hg
 dsimp only at hst hlk
 subst hst hlk
 clear hT hM hG
 have hcl:(ycl=0∧(ycl != 0)=false)∨(ycl≠0∧(ycl != 0)=true):=by simp;omega
 rcases (by cases (QB ⟨wo,sl,sst,wa,us⟩ f M).1.found<;>cases (QB ⟨wo,sl,sst,wa,us⟩ f M).2<;>simp:(QB ⟨wo,sl,sst,wa,us⟩ f M).1.found=true∨((QB ⟨wo,sl,sst,wa,us⟩ f M).1.found=false∧(QB ⟨wo,sl,sst,wa,us⟩ f M).2=true)∨((QB ⟨wo,sl,sst,wa,us⟩ f M).1.found=false∧(QB ⟨wo,sl,sst,wa,us⟩ f M).2=false)) with ha|⟨ha,hb⟩|⟨ha,hb⟩
 all_goals
  go_in
  go_wp2_with fail
  refine (DW B hn hc hok hS rfl ha rfl).mono ?_
  rintro e w1 ⟨rfl,B⟩
  simp only [*,Bool.not_true,Bool.not_false,Bool.and_true,Bool.and_false]
  simp only [cond_true,cond_false] at B
 · obtain ⟨o,ho⟩:∃o,(if (-1:Int)+1=yw then -1+2 else -1+1)=o:=⟨_,rfl⟩
   have ho2:=ho
   simp at ho2
   have q:=B.q 0;have u:=B.u 0
   go_wp2_with fail
   clear q u
   generalize hw2:World.setCell _ _ _=w2
   replace B:=((B.s 0).s 0).e hw2
   refine (WM B (by decide) (by decide) ho).mono ?_
   rintro e w8 ⟨rfl,B⟩
   replace B:=B
   by_cases hlt:o<wo
   · have hdl:=decide_eq_true hlt
     rw [hdl]
     go_wp2
     exact XO
   · have hdl:decide (o<wo)=false:=decide_eq_false hlt
     rw [hdl]
     exact Z0f
 · have q:=B.q 0;have u:=B.u 0
   rcases hcl with ⟨rfl,h2⟩|⟨h1,h2⟩
   all_goals
    go_wp2_with fail
    clear q u
    generalize hw2:World.setCell _ _ _=w2
    replace B:=(B.s 0).e hw2
    exact XO
 · go_wp2
   exact XO
theorem Z08 {P:Prop} (h:P:=by
 rintro e w3 ⟨rfl,h,f3⟩
 replace B:=B.up 2 (T':=tLk (some ql) ⟨wo,sl,sst,wa,us⟩ (some _)) h f3
 clear q
 have q:=B.q 0;have u:=B.u 0
 go_wp2_with fail
 clear q u
 generalize hw2:World.setCell _ _ _=w4
 replace B:=(B.s 0).e hw2
 exact XO):P:=h
theorem Q3P (hT:Jw w p pm qm pl pr c t) (hM:Qm w pm qm M n) (hG:Qe w 0 Qc) (hn:n≤1000000000) (f:Qi) (r:J2) (hlk:t.look=some f) (hrt:t.ret=some r) (hst:t.st=4) (hok:r.ok):Zx 182 w p pm qm pl pr c t M n:=by
 obtain ⟨ql,rfl, -⟩:=(show Zv w pl c (some f) from hlk▸hT.lk).get
 obtain ⟨qr,rfl, -⟩:=(show Yf w pr (some r) from hrt▸hT.rt).get
 have hne:=hT.ft.fr qr rfl
 have HST:=hid fun w' hq h hg=>Yk w' qr pm qm r M n hok hq h hn ⟨hne.2.1,hne.2.2.1⟩ hg
 refine XL.of hT hM hG fun S wo sl sst wa us yw ys yep ycl yqu ylook yi yword yo yh yret X he hg HX B=> ?_
 subst he hg
 dsimp only at hst hlk hrt
 subst hst hlk hrt
 clear hT hM hG hne hok
 have q:=B.q 0
 simp only [Xu] at q
 go_in
 go_wp2_with fail
 refine (HST.out _ (B.g 3) (B.g 1) (B.g 4)).mono ?_
 rintro e w1 ⟨rfl,hr,hm,f⟩
 replace B:=B.up2 3 1 (T:=tRt (some qr) (some _)) (T':=tM pm qm _ (n+1)) hr hm f
 clear q hr hm
 have q:=B.q 0
 simp only [Xu] at q
 rcases (by cases (Qn r M).1.done<;>simp:(Qn r M).1.done=false∨(Qn r M).1.done=true) with hdn|hdn
 · rw [hdn]
   go_wp2
   exact XO
 · rw [hdn]
   go_wp2_with fail
   refine (KA _ ql _ _ (B.g 2)).mono ?_
   exact Z08
theorem Q1M (hT:Jw w p pm qm pl pr c t) (hM:Qm w pm qm M n) (hG:Qe w 0 Qc) (hn:n≤1000000000) (f:Qi) (s:Q7) (hs:s.right) (hw:t.word=s.enc) (hlk:t.look=some f) (hst:t.st=7) (hat:0≤f.at_∧f.at_≤1000) (o0:0≤t.w) (o1:t.w≤15) (hc:c.fits):Zx 185 w p pm qm pl pr c t M n:=by
 obtain ⟨ql,rfl, -⟩:=(show Zv w pl c (some f) from hlk▸hT.lk).get
 obtain ⟨⟨M2,ok⟩,hsw⟩:∃x,Xk c t M 12 t.w=x:=⟨_,rfl⟩
 refine XL.of hT hM hG fun S wo sl sst wa us yw ys yep ycl yqu ylook yi yword yo yh yret X he hg HX B=> ?_
 subst he hg
 dsimp only at hst hlk hw hsw o0 o1
 subst hst hlk hw
 clear hT hM hG
 have q:=B.q 0
 go_in
 go_wp2_with fail
 refine (DV B hn hs (by decide) o0 o1 hc hsw).mono ?_
 rintro e w8 ⟨rfl,k,hk,B⟩
 replace B:=B
 clear q
 have q:=B.q 0
 simp only [Xu] at q
 go_wp2_with fail
 refine (Hl _ ql _ _ (B.g 2) hat.1 hat.2).mono ?_
 exact Z08
theorem Q98 {s:Q7} (h:s.right):epW s.enc=s.ep:=by unfold epW;rw [QF h]
theorem Q3M (hT:Jw w p pm qm pl pr c t) (hM:Qm w pm qm M n) (hG:Qe w 0 Qc) (hn:n≤1000000000) (f:Qi) (s:Q7) (hs:s.right) (hw:t.word=s.enc) (hlk:t.look=some f) (hst:t.st=6) (hat:0≤f.at_∧f.at_≤1000) (o0:0≤t.other) (o1:t.other<c.wo) (hb0: -4611686018427387904≤Q6 M (3+t.other)) (hb1:Q6 M (3+t.other)≤4611686018427387904) (hc:c.fits):Zx 184 w p pm qm pl pr c t M n:=by
 have HPN:=hid fun w'=>He w' c t.other hc
 rw [show Y8 c t.other=3+t.other by unfold Y8;rw [if_pos ⟨o0,o1⟩]] at HPN
 have HLD:=hid fun w' h=>Za w' pm qm M n (3+t.other) h hn
 have HBL:=hid fun w'=>Q0G w' (Q6 M (3+t.other)) s.ep hb0 hb1
 have HD:=hid fun w' h=>Ji w' s hs h
 have hep:=Q98 hs
 have hwo:c.wo≤8:=hc.1.2
 obtain ⟨ql,rfl, -⟩:=(show Zv w pl c (some f) from hlk▸hT.lk).get
 refine XL.of hT hM hG fun S wo sl sst wa us yw ys yep ycl yqu ylook yi yword yo yh yret X he hg HX B=> ?_
 subst he hg
 dsimp only [Q0.val] at hst hlk hw HPN HLD HBL hwo o0 o1
 subst hst hlk hw
 clear hT hM hG hb0 hb1 hc
 generalize hx:Q6 M (3+yo)=lx at HLD HBL
 have hbl:=hx
 generalize 3+yo=cell at HPN HLD
 obtain ⟨zst,zso,zstr,zbr,zmkd,zus,zgen,zep,zver⟩:=s
 dsimp only [Q7.val] at HD HBL hep
 generalize Q7.enc _=en at HD hep B HX
 go_in
 go_wp2_with fail
 refine rgx [0,2,3,4] B fun _ B=> ?_
 repeat refine tb ?_
 refine to fun K hK=> ?_
 go_simp
 refine (HPN.out _).mono ?_
 rintro e w8 ⟨rfl,f⟩
 replace B:=B.tm f
 go_wp2_with fail
 refine bk hK ?_
 clear hK K
 try go_frame
 refine to fun K hK=> ?_
 go_simp
 refine (HLD.out _ (B.g 1)).mono ?_
 rintro e w8 ⟨rfl,h,f⟩
 replace B:=B.M h f
 go_wp2_with fail
 refine bk hK ?_
 clear hK K
 try go_frame
 refine tb ?_
 refine wpAnyH_done (by decide+kernel) ?_ _
 have q:=B.q 0
 go_wp2_with fail
 refine (HD.out _ (B.g 4)).mono ?_
 rintro e w8 ⟨rfl,f⟩
 replace B:=B.tm f
 clear q
 go_wp2_with fail
 generalize hb:(World.heap _).size=b,hw2:World.alloc _ _=w5
 replace B:=B.al hw2 hb
 refine (HBL.out _).mono ?_
 rintro e w8 ⟨rfl,f⟩
 replace B:=B.tm f
 have q:=B.q 0
 simp only [Xu] at q
 by_cases bq:1≤lx∧lx - 1≤zep
 · rw [decide_eq_true bq]
   go_wp2_with fail
   refine (Hl _ ql _ _ (B.g 2) hat.1 hat.2).mono ?_
   exact Z08
 · rw [decide_eq_false bq]
   obtain ⟨o,ho⟩:∃o,(if yo+1=yw then yo+2 else yo+1)=o:=⟨_,rfl⟩
   go_wp2_with fail
   refine (WM B Lb Lb ho).mono ?_
   rintro e w8 ⟨rfl,B⟩
   replace B:=B
   clear q
   by_cases hlt:o<wo
   · have hdl:=decide_eq_true hlt
     rw [hdl]
     go_wp2
     exact XO
   · have hdl:decide (o<wo)=false:=decide_eq_false hlt
     rw [hdl]
     exact Z0f
end
end
section
open Go.RowKit Go.Shelf Go.Lib
attribute [local go_sem] Oper.semAt_some
section
variable {w:World} {p pm qm:Nat} {pl pr:Option Nat} {c:Q0} {t:Qf} {M:List Int} {n:Int}
theorem Q3N (hT:Jw w p pm qm pl pr c t) (hM:Qm w pm qm M n) (hG:Qe w 0 Qc) (hn:n≤1000000000) (hst:t.st=8) (hQ:Ln (mQ M)) (hqw:Q6 M 1=(wd (mQ M):Int)):Zx 186 w p pm qm pl pr c t M n:=by
 have HL:=hid fun w' h=>Za w' pm qm M n 1 h hn
 rw [hqw] at HL
 have HH:=hid fun w'=>Q2Q w' (mQ M) hQ
 refine XL.of hT hM hG fun S wo sl sst wa us yw ys yep ycl yqu ylook yi yword yo yh yret X he hg HX B=> ?_
 subst he hg
 dsimp only at hst
 subst hst
 clear hT hM hG
 clear hqw hQ
 generalize hmq:mQ M=lq at HL HH
 go_in
 go_wp2_with fail
 refine (HL.out _ (B.g 1)).mono ?_
 rintro e w8 ⟨rfl,h,f⟩
 replace B:=B.M h f
 have q:=B.q 0;have u:=B.u 0
 go_wp2_with fail
 clear q u
 generalize hw2:World.setCell _ _ _=w2
 replace B:=(B.s 0).e hw2
 have q:=B.q 0
 go_wp2_with fail
 refine (HH.out _).mono ?_
 rintro e w8 ⟨rfl,f⟩
 replace B:=B.tm f
 unfold DJ
 clear q
 by_cases hq0:lq=[]
 · subst hq0
   rw [show decide (([]:List Int)≠[])=false from rfl]
   exact Z0f
 · rw [decide_eq_true hq0]
   have q:=B.q 0;have u:=B.u 0
   go_wp2_with fail
   clear q u
   generalize hw2:World.setCell _ _ _=w3
   replace B:=(B.s 0).e hw2
   have q:=B.q 0
   go_wp2_with fail
   refine (Hy B 9 3 _).mono ?_
   exact Z15
theorem Z0g {P:Prop} (h:P:=by
 go_wp2_with fail
 clear q u
 generalize hw2:World.setCell _ _ _=w4
 replace B:=(B.s 0).e hw2
 exact XO):P:=h
theorem Q3O (hT:Jw w p pm qm pl pr c t) (hM:Qm w pm qm M n) (hG:Qe w 0 Qc) (hn:n≤1000000000) (f:Qi) (s:Q7) (hs:s.right) (hw:t.word=s.enc) (hlk:t.look=some f) (hst:t.st=10) (o0:0≤t.head) (o1:t.head≤15) (hc:c.fits):Zx 188 w p pm qm pl pr c t M n:=by
 obtain ⟨ql,rfl, -⟩:=(show Zv w pl c (some f) from hlk▸hT.lk).get
 have his:=EL hs
 obtain ⟨d,hd⟩:∃d:Nat,(if isW t.word=2 then 5 else 7)=d:=⟨_,rfl⟩
 have hd18:d<18:=by subst hd;split<;>decide
 obtain ⟨⟨M2,ok⟩,hsw⟩:∃x,Xk c t M d t.head=x:=⟨_,rfl⟩
 refine XL.of hT hM hG fun S wo sl sst wa us yw ys yep ycl yqu ylook yi yword yo yh yret X he hg HX B=> ?_
 subst he hg
 dsimp only at hst hlk hw hsw o0 o1 hd
 subst hst hlk hw
 clear hT hM hG
 rw [his] at hd
 go_in
 go_wp2_with fail
 refine (Q5K B hs).mono ?_
 rintro e w8 ⟨rfl,B⟩
 replace B:=B
 have hcase:(s.st=2∧(s.st==2)=true)∨(s.st≠2∧(s.st==2)=false):=by simp;omega
 have q:=B.q 0
 rcases hcase with ⟨h1,h2⟩|⟨h1,h2⟩
 all_goals
  simp [h1] at hd
  subst hd
  go_wp2_with fail
  refine (DV B hn hs (by decide) o0 o1 hc hsw).mono ?_
  rintro e w8 ⟨rfl,k,hk,B2⟩
  replace B:=B2
  clear B2
  clear q
  cases ok
  · have q:=B.q 0
    simp only [Xu] at q
    go_wp2_with fail
    refine (KA _ ql _ _ (B.g 2)).mono ?_
    exact Z08
  · have q:=B.q 0;have u:=B.u 0
    exact Z0g
theorem Q09 (hT:Jw w p pm qm pl pr c t) (hM:Qm w pm qm M n) (hG:Qe w 0 Qc) (hn:n≤1000000000) (s:Q7) (hs:s.right) (hw:t.word=s.enc) (hst:t.st=14) (o0:0≤t.w) (o1:t.w≤15) (hc:c.fits):Zx 192 w p pm qm pl pr c t M n:=by
 have his:=EL hs
 obtain ⟨d,hd⟩:∃d:Nat,(if isW t.word=4 then 6 else 8)=d:=⟨_,rfl⟩
 have hd18:d<18:=by subst hd;split<;>decide
 obtain ⟨⟨M2,ok⟩,hsw⟩:∃x,Xk c t M d t.w=x:=⟨_,rfl⟩
 refine XL.of hT hM hG fun S wo sl sst wa us yw ys yep ycl yqu ylook yi yword yo yh yret X he hg HX B=> ?_
 subst he hg
 dsimp only at hst hw hsw o0 o1 hd
 subst hst hw
 clear hT hM hG
 rw [his] at hd
 go_in
 go_wp2_with fail
 refine (Q5K B hs).mono ?_
 rintro e w8 ⟨rfl,B⟩
 replace B:=B
 have hcase:(s.st=4∧(s.st==4)=true)∨(s.st≠4∧(s.st==4)=false):=by simp;omega
 have q:=B.q 0;have u:=B.u 0
 rcases hcase with ⟨h1,h2⟩|⟨h1,h2⟩
 all_goals
  simp [h1] at hd
  subst hd
  go_wp2_with fail
  clear q u
  generalize hw2:World.setCell _ _ _=w2
  replace B:=(B.s 0).e hw2
  have q:=B.q 0
  go_wp2_with fail
  have hsw2:Xk ⟨wo,sl,sst,wa,us⟩ ⟨yw,13,yep,ycl,yqu,ylook,yi,s.enc,yo,yh,yret⟩ M _ yw=(M2,ok):=hsw
  refine (DV B hn hs (by decide) o0 o1 hc hsw2).mono ?_
  rintro e w8 ⟨rfl,k,hk,B2⟩
  replace B:=B2
  clear B2
  clear q
  cases ok
  · go_wp2
    exact XO
  · have q:=B.q 0;have u:=B.u 0
    exact Z0g
theorem Q3Q (hT:Jw w p pm qm pl pr c t) (hM:Qm w pm qm M n) (hG:Qe w 0 Qc) (hn:n≤1000000000) (s:Q7) (hst:t.st=13) (hs:s.right) (hw:Q6 M (Q5 c t.i)=s.enc) (hc:c.fits):Zx 191 w p pm qm pl pr c t M n:=by
 have HSL:=hid fun w'=>J9 w' c t.i hc
 have HL:=hid fun w' h=>Za w' pm qm M n (Q5 c t.i) h hn
 rw [hw] at HL
 have his:=EL hs
 refine XL.of hT hM hG fun S wo sl sst wa us yw ys yep ycl yqu ylook yi yword yo yh yret X he hg HX B=> ?_
 subst he hg
 dsimp only [Q0.val] at hst hw HSL HL
 subst hst
 clear hT hM hG
 go_in
 go_wp2_with fail
 refine rgm 0 12 14 [0,2,3,4] B fun _ B=> ?_
 repeat refine tb ?_
 refine to fun K hK=> ?_
 go_simp
 refine (HSL.out _).mono ?_
 rintro e w8 ⟨rfl,f⟩
 replace B:=B.tm f
 go_wp2_with fail
 refine bk hK ?_
 clear hK K
 try go_frame
 refine to fun K hK=> ?_
 go_simp
 refine (HL.out _ (B.g 1)).mono ?_
 rintro e w8 ⟨rfl,h,f⟩
 replace B:=B.M h f
 go_wp2_with fail
 refine bk hK ?_
 clear hK K
 try go_frame
 repeat refine tb ?_
 have q:=B.q 0;have u:=B.u 0
 refine to fun K hK=> ?_
 go_simp
 clear q u
 generalize hw3:World.setCell _ _ _=w3
 replace B:=(B.s 0).e hw3
 refine bk hK ?_
 clear hK K
 try go_frame
 refine wpAnyH_done (by decide+kernel) ?_ _
 have q:=B.q 0;have u:=B.u 0
 go_wp2_with fail
 clear q u
 generalize hw2:World.setCell _ _ _=w4
 replace B:=(B.s 0).e hw2
 refine (Q5K B hs).mono ?_
 rintro e w8 ⟨rfl,B⟩
 replace B:=B
 have hcase:(s.st=4∧(s.st==4)=true)∨(s.st=5∧(s.st==4)=false∧(s.st==5)=true)∨(s.st≠4∧s.st≠5∧(s.st==4)=false∧(s.st==5)=false):=by simp;omega
 have q:=B.q 0;have u:=B.u 0
 rcases hcase with ⟨h1,h2⟩|⟨h1,h2,h3⟩|⟨h1,h2,h3,h4⟩
 iterate 2
  · go_wp2_with fail
    clear q u
    generalize hw2:World.setCell _ _ _=w5
    replace B:=(B.s 0).e hw2
    exact XO
 · go_wp2
   exact XO
theorem Q8D {M Q:List Int} (hQ:MOk M) (hL:Ln Q):(mQ M=Q∧Qx M 1 (wd Q:Int)=true∧QI M 1 (wd Q:Int) (wd Q.tail:Int)=M.set 1 (wd Q.tail:Int))∨(mQ M≠Q∧Qx M 1 (wd Q:Int)=false∧QI M 1 (wd Q:Int) (wd Q.tail:Int)=M):=by
 have h1:=Q1w hQ hL
 by_cases e:mQ M=Q
 · rw [decide_eq_true e] at h1
   exact .inl ⟨e,h1,Q7n h1⟩
 · rw [decide_eq_false e] at h1
   exact .inr ⟨e,h1,K8 h1⟩
theorem Q5G (hT:Jw w p pm qm pl pr c t) (hM:Qm w pm qm M n) (hG:Qe w 0 Qc) (hn:n≤1000000000) (hst:t.st=11) (hQ:MOk M) (hLn:Ln t.queue):Zx 189 w p pm qm pl pr c t M n:=by
 have HP:=hid fun w'=>Q6s w' t.queue hLn
 have HC:=hid fun w' h=>Uw w' pm qm M n 1 (wd t.queue:Int) (wd t.queue.tail:Int) h hn
 have hcs:=Q8D hQ hLn
 refine XL.of hT hM hG fun S wo sl sst wa us yw ys yep ycl yqu ylook yi yword yo yh yret X he hg HX B=> ?_
 subst he hg
 dsimp only at hst HP HC hcs
 subst hst
 clear hT hM hG hQ hLn
 have q:=B.q 0;have u:=B.u 0
 go_in
 go_wp2_with fail
 clear q u
 generalize hw2:World.setCell _ _ _=w2
 replace B:=(B.s 0).e hw2
 refine rgx [0,2,3,4] B fun _ B=> ?_
 repeat refine tb ?_
 refine to fun K hK=> ?_
 go_simp
 refine (HP.out _).mono ?_
 rintro e w8 ⟨rfl,f⟩
 replace B:=B.tm f
 go_wp2_with fail
 refine bk hK ?_
 clear hK K
 try go_frame
 refine to fun K hK=> ?_
 go_simp
 refine (HC.out _ (B.g 1)).mono ?_
 rintro e w8 ⟨rfl,h,f⟩
 replace B:=B.M h f
 go_wp2_with fail
 refine bk hK ?_
 clear hK K
 try go_frame
 refine wpAnyH_done (by decide+kernel) ?_ _
 rcases hcs with ⟨h1,h2,h3⟩|⟨h1,h2,h3⟩
 · rw [h2]
   rw [h3] at B
   exact Z0f
 · rw [h2]
   rw [h3] at B
   go_wp2
   exact XO
end
end
section
open Go.RowKit Go.Shelf Go.Lib
attribute [local go_sem] Oper.semAt_some
def Z4:List FuncId:=[178,179,180,181,182,183,184,185,186,187,188,189,190,191,192,193,194,195]
theorem Q0a (w:World):Calls Tryz.prog 121 #[] w fun e w'=>e=.returned (.agg (Xm Z4))∧Fr [] w w':=by
 have HF:=hid ((Fr.refl [] w).alloc (.cells (Xm Z4) 183))
 have hl:=run_loadVar_new (P:=Tryz.prog) w 183 (Xm Z4) 18 182 (by kernel_rfl) (by kernel_rfl)
 go_in
 go_wp2
 refine ⟨rfl,.agg (Xm Z4), ?_,rfl,HF.out⟩
 clear HF
 change Sem.run _ (results Tryz.f121 #[.pointer (some {block:=w.heap.size,off:=0}),.agg (Xm Z4)]) (w.alloc (.cells (Xm Z4) 183))=.ok (.agg (Xm Z4)) (w.alloc (.cells (Xm Z4) 183))
 generalize Xm Z4=A at hl ⊢
 have e:results Tryz.f121 #[.pointer (some {block:=w.heap.size,off:=0}),.agg A]=(do let v ←loadVar 183 ⟨w.heap.size,0,none⟩;pure v):=by
  simp [results,Tryz.f121,go_sem]
 rw [e]
 simp only [Sem.run_bind,hl,Result.andThen_ok,Sem.run_pure]
def Q00 (w:World) (p pm qm:Nat) (pl pr:Option Nat) (c:Q0) (n:Int) (x:Qf×List Int) (e:Ending) (w':World):Prop:=
 e=.returned (.bool (decide (x.1.st=17)))∧∃pl' pr',Jw w' p pm qm pl' pr' c x.1∧Qm w' pm qm x.2 (n+1)∧Fr (p::pm::qm::(pl.toList++pr.toList)) w w'∧
  (∀b,pl'=some b→pl=some b∨w.heap.size≤b)∧(∀b,pr'=some b→pr=some b∨w.heap.size≤b)
theorem Z0L {P:Prop} (h:P:=by
 obtain ⟨-,pl',pr',ht,hm,hf,h1,h2⟩:=h
 exact ⟨rfl,pl',pr',ht,hm,(f.mono Lc).trans hf,fun b hb=>(h1 b hb).imp id (Nat.le_trans f.size),fun b hb=>(h2 b hb).imp id (Nat.le_trans f.size)⟩):P:=h
theorem Q1K {w w1 w2:World} {p pm qm:Nat} {pl pr:Option Nat} {c:Q0} {n:Int} {x:Qf×List Int} {e:Ending} (f:Fr [] w w1) (h:XL w1 p pm qm pl pr c n x e w2):Q00 w p pm qm pl pr c n x (.returned (.bool (decide (x.1.st=17)))) w2:=by
 exact Z0L
theorem yd_fr {w w':World} {p pm qm:Nat} {pl pr:Option Nat} {c:Q0} {t:Qf} (h:Jw w p pm qm pl pr c t) (f:Fr [] w w'):Jw w' p pm qm pl pr c t:=
 have lk:=h.lk.fr f Lc
 have rt:=h.rt.fr f Lc
 ⟨h.blk.fr f Lc,lk,rt,K6 h.ft f.size (fun b hb=>.inl hb) (fun b hb=>.inl hb) lk.lt rt.lt h.ft.lr⟩
theorem Q3I {w:World} {p pm qm:Nat} {pl pr:Option Nat} {c:Q0} {t:Qf} {n:Int} {X:Qf×List Int} {k:Nat} (hb:Jy w p pl pr c t) (hk:k<18) (hst:t.st=k)
 (hC:∀w',Fr [] w w'→Calls Tryz.prog (Z4.getD k 0) #[.pointer (some ⟨p,0,none⟩),.pointer (some ⟨pm,0,none⟩)] w' (XL w' p pm qm pl pr c n X)):
 Calls Tryz.prog 85 #[.pointer (some ⟨p,0,none⟩),.pointer (some ⟨pm,0,none⟩)] w (Q00 w p pm qm pl pr c n X):=by
 have hix:∀k<18,∀wx:World,(Instr.index 183 (.agg (Xm Z4)) (.int .i64 (k:Nat))).run Tryz.prog wx=.ok (.func (.func (Z4.getD k 0)) #[] #[]) wx:=fun k hk wx=>by
  rcases (by omega:k=0∨k=1∨k=2∨k=3∨k=4∨k=5∨k=6∨k=7∨k=8∨k=9∨k=10∨k=11∨k=12∨k=13∨k=14∨k=15∨k=16∨k=17) with rfl|rfl|rfl|rfl|rfl|rfl|rfl|rfl|rfl|rfl|rfl|rfl|rfl|rfl|rfl|rfl|rfl|rfl<;>kernel_rfl
 replace hix:=hix k hk
 have hcf:=VQ (P:=Tryz.prog) (L:=Z4) (k:=k) (by decide+kernel) hk
 have HC:=hid hC
 have B:=Bag.one hb
 rw [hst] at B
 clear hC hb hst hk
 have HA:=hid Q0a
 generalize Xm Z4=A at HA hix
 generalize Z4.getD k 0=fn at HC hix hcf
 generalize (k:Int)=ts at B hix
 have q:=B.q 0
 go_in
 go_wp2_with fail
 refine wp_region_held_drew (S:=fun w'=>True) (by kernel_rfl) trivial (fun hHeld=> ?_)
 refine tk 1 ?_
 refine tk 2 ?_
 refine tk 3 ?_
 refine tk 6 ?_
 refine tk 7 ?_
 refine wpAnyH_ready (rs:=[0,4]) (by kernel_rfl) Lc ?_
 refine AllReadyH.cons (o:=_) rfl (fun K hK=> ?_) (AllReadyH.cons (o:=_) rfl (fun K hK=> ?_) AllReadyH.nil)
 all_goals
  simp only [List.getElem_toArray,List.getElem_cons_succ,List.getElem_cons_zero]
  go_simp
  first
   |(refine (HA.out _).mono ?_
     rintro e w1 ⟨rfl,f1⟩
     replace B:=B.drew.tm f1
     clear q
     have q:=B.q 0
     go_wp2_with fail
     refine hK.out _ _ trivial (fun hHeld=> ?_)
     clear hK K
     try go_frame
     refine tc 4 (fun K hK=> ?_)
     go_simp
     refine hK.out _ _ trivial (fun hHeld=> ?_)
     clear hK K
     try go_frame)
   |(refine hK.out _ _ trivial (fun hHeld=> ?_)
     clear hK K
     try go_frame
     refine tc 0 (fun K hK=> ?_)
     go_simp
     refine (HA.out _).mono ?_
     rintro e w1 ⟨rfl,f1⟩
     replace B:=B.drew.tm f1
     go_wp2_with fail
     refine hK.out _ _ trivial (fun hHeld=> ?_)
     clear hK K
     try go_frame)
  clear q
  refine tk 5 ?_
  refine tc 8 (fun K hK=> ?_)
  go_simp
  refine (HC.out _ B.fr).mono ?_
  rintro e w2 h2
  have HX:=hid (Q1K B.fr h2)
  obtain ⟨rfl,pl',pr',ht, -⟩:=h2
  go_wp2_with fail
  refine hK.out _ _ trivial (fun hHeld=> ?_)
  clear hK K
  try go_frame
  refine wpAnyH_done (by kernel_rfl) ?_ _
  have q:=(Bag.one ht.blk).q 0
  clear ht B
  obtain ⟨X1,X2⟩:=X
  dsimp only at HX q
  generalize X1.st=xs at HX q
  by_cases h15:xs=17
  · subst h15
    go_wp2
    go_ret
    exact HX.out
  · rw [decide_eq_false h15] at HX
    go_wp2
    go_ret
    first
    |exact HX.out
    |(rw [show (xs==17)=false by simp [h15]];exact HX.out)
def PinsOk (c:Q0) (M:List Int):Prop:=∀k:Int,0≤k→k<c.wo→ -4611686018427387904≤Q6 M (3+k)∧Q6 M (3+k)≤4611686018427387904
structure Qf.ok (c:Q0) (t:Qf):Prop where
 s0:0≤t.st
 s1:t.st≤17
 w0:0≤t.w
 w1:t.w<c.wo
 ep:t.st=1→ -4611686018427387904≤t.epoch∧t.epoch≤4611686018427387904
 lk:t.st=3∨t.st=5∨t.st=9→∃f,t.look=some f∧f.ok c
 fd:t.st=6∨t.st=7∨t.st=10→∃f s,t.look=some f∧f.ok c∧Q7.right s∧t.word=s.enc
 rt:t.st=4→∃f r,t.look=some f∧f.ok c∧t.ret=some r∧r.ok
 ot:t.st=6→0≤t.other∧t.other<c.wo
 hd:t.st=10∨t.st=11∨t.st=12→0≤t.head∧t.head<c.wo
 ln:t.st=11→Ln t.queue
 i:10≤t.st∧t.st≤14→0≤t.i∧t.i<c.sl
 wd:t.st=14→∃s,Q7.right s∧t.word=s.enc
theorem Q3J (w:World) (p pm qm:Nat) (pl pr:Option Nat) (c:Q0) (t:Qf) (M:List Int) (n:Int) (hT:Jw w p pm qm pl pr c t) (hM:Qm w pm qm M n) (hn:n≤1000000000) (hok:t.ok c) (hS:X5 c M) (hQ:MOk M) (hP:PinsOk c M) (hc:c.fits) (hG:Qe w 0 Qc):
 Calls Tryz.prog 85 #[.pointer (some ⟨p,0,none⟩),.pointer (some ⟨pm,0,none⟩)] w (Q00 w p pm qm pl pr c n (Ql c t M)):=by
 obtain ⟨k,hk,hst⟩:∃k:Nat,k<18∧t.st=(k:Int):=⟨t.st.toNat,by have:=hok.s0;have:=hok.s1;omega,by have:=hok.s0;omega⟩
 refine Q3I hT.blk hk hst ?_
 intro w' f
 have hT':=yd_fr hT f
 have hM':=hM.fr f Lc Lc
 have hG':=hG.fr f Lc
 have w8:t.w≤15:=by have:=hok.w1;have:=hc.1.2;omega
 clear hT hM hG f
 match k,hk with
 |0,_=>exact Q1N hT' hM' hG' hn hst
 |1,_=>exact Q5H hT' hM' hG' hn hst hc hok.w0 hok.w1 (hok.ep hst).1 (hok.ep hst).2
 |2,_=>exact UK hT' hM' hG' hn hst
 |3,_=>obtain ⟨f,h1,h2⟩:=hok.lk (by rw [hst];simp);exact Q1J hT' hM' hG' hn f h1 hst h2 hS hc
 |4,_=>obtain ⟨f,r,h1,h2,h3,h4⟩:=hok.rt hst;exact Q3P hT' hM' hG' hn f r h1 h3 hst h4
 |5,_=>obtain ⟨f,h1,h2⟩:=hok.lk (by rw [hst];simp);exact Q5I hT' hM' hG' hn f h1 hst h2 hS hc
 |6,_=>obtain ⟨f,s,h1,h2,h3,h4⟩:=hok.fd (by rw [hst];simp);obtain ⟨o0,o1⟩:=hok.ot hst;obtain ⟨b0,b1⟩:=hP _ o0 o1;exact Q3M hT' hM' hG' hn f s h3 h4 h1 hst ⟨h2.a0,by have:=h2.a1;omega⟩ o0 o1 b0 b1 hc
 |7,_=>obtain ⟨f,s,h1,h2,h3,h4⟩:=hok.fd (by rw [hst];simp);exact Q1M hT' hM' hG' hn f s h3 h4 h1 hst ⟨h2.a0,by have:=h2.a1;omega⟩ hok.w0 w8 hc
 |8,_=>exact Q3N hT' hM' hG' hn hst hQ.2.1 hQ.2.2
 |9,_=>obtain ⟨f,h1,h2⟩:=hok.lk (by rw [hst];simp);exact Q3K hT' hM' hG' hn f h1 hst h2 hS hc
 |10,_=>obtain ⟨f,s,h1,h2,h3,h4⟩:=hok.fd (by rw [hst];simp);obtain ⟨o0,o1⟩:=hok.hd (by rw [hst];simp);exact Q3O hT' hM' hG' hn f s h3 h4 h1 hst o0 (by have:=hc.1.2;omega) hc
 |11,_=>exact Q5G hT' hM' hG' hn hst hQ (hok.ln hst)
 |12,_=>obtain ⟨o0,o1⟩:=hok.hd (by rw [hst];simp);obtain ⟨i0,i1⟩:=hok.i (by rw [hst];simp);exact Q1L hT' hM' hG' hn hst hc o0 o1 i0 (by have:=hc.2.1;omega)
 |13,_=>obtain ⟨i0,i1⟩:=hok.i (by rw [hst];simp);obtain ⟨s,h3,h4⟩:=hS t.i i0 i1;exact Q3Q hT' hM' hG' hn s hst h3 (by unfold Q5;rw [if_pos ⟨i0,i1⟩];exact h4) hc
 |14,_=>obtain ⟨s,h1,h2⟩:=hok.wd hst;exact Q09 hT' hM' hG' hn s h1 h2 hst hok.w0 w8 hc
 |15,_=>exact Q1I hT' hM' hG' hn hst hc hok.w0 hok.w1
 |16,_=>exact Q1O hT' hM' hG' hn hst
 |17,_=>exact Q3L hT' hM' hG' hst
 |k+18,hk=>exact absurd hk Lb
def YNewP (w:World) (c:Q0) (t:Qf) (e:Ending) (w':World):Prop:=∃p,e=.returned (.pointer (some ⟨p,0,none⟩))∧w.heap.size≤p∧Jy w' p none none c t∧Fr [] w w'
theorem Z0c {P:Prop} (h:P:=by
 obtain ⟨wo,sl,sst,wa,us⟩:=c
 dsimp only [Q0.val]
 go_in
 go_wp2
 go_ret
 exact ⟨_,rfl,Nat.le_succ _,by rw [←World.size_alloc];exact heap_alloc_new _ _,((Fr.refl [] w).alloc _).alloc _⟩):P:=h
theorem Q5J (w:World) (c:Q0) (who:Int):Calls Tryz.prog 120 #[c.val,.int .i64 who] w (YNewP w c (Qz who)):=by
 exact Z0c
end
section
open Go.RowKit Go.Shelf Go.Lib
attribute [local go_sem] Oper.semAt_some
theorem Zi (c:Q0) (t:Qd) (M:List Int) (i:Int) (s:Q7) (d:Nat) (hs:s.right):
 (∃(u:Q7) (M1:List Int),u.right∧∀k,X3 c {t with st:=k} M i s.enc d=({t with st:=k,i:=i,word:=u.enc,gen:=u.gen},M1,true))∨(∀k,X3 c {t with st:=k} M i s.enc d=({t with st:=k},M,false)):=by
 have e:=fun k=>Vw c {t with st:=k} M i s d hs
 dsimp only at e
 cases hx:Qk s d t.w 0 with
 |none=>exact .inr fun k=>by rw [e k,hx]
 |some u=>
  by_cases hc:Qx M (Q5 c i) s.enc=true
  · refine .inl ⟨u,QI M (Q5 c i) s.enc u.enc,JF hs hx,fun k=> ?_⟩
    rw [e k,hx]
    dsimp only
    rw [if_pos hc]
  · refine .inr fun k=> ?_
    rw [e k,hx]
    dsimp only
    rw [if_neg hc]
theorem Q7d {c:Q0} {f:Qi} (M:List Int) (h:f.ok c):0≤(QB c f M).1.at_∧(QB c f M).1.at_≤1000:=by
 have h0:=h.a0;have h1:=h.a1
 unfold QB
 split
 · exact ⟨h0,by show f.at_≤1000;omega⟩
 · dsimp only
   split
   · exact ⟨h0,by show f.at_≤1000;omega⟩
   · exact ⟨by show 0≤f.at_+1;omega,by show f.at_+1≤1000;omega⟩
section
variable {w:World} {p pm qm:Nat} {pl pr:Option Nat} {c:Q0} {t:Qd} {M:List Int} {n:Int} {good:Bool}
theorem Q0n (hT:Zt w p pm qm pl pr c t) (hM:Qm w pm qm M n) (hG:Qe w 0 Qc) (hn:n≤1000000000) (hst:t.st=0):Y4 218 w p pm qm pl pr c t M n good:=by
 have HL:=hid fun w' h=>Za w' pm qm M n 0 h hn
 refine Zu.of hT hM hG fun S wo sl sst wa us tw ts tlook ti tword tgen tp tret te X he hg HX B=> ?_
 subst he hg
 dsimp only at hst
 subst hst
 clear hT hM hG
 go_in
 go_wp2_with fail
 refine (HL.out _ (B.g 1)).mono ?_
 rintro e w1 ⟨rfl,h,f⟩
 replace B:=B.M h f
 have q:=B.q 0
 by_cases h2:Q6 M 0=0
 · go_wp2_with fail
   refine (G6 B 1 0 tw).mono ?_
   rintro e w2 ⟨rfl,b,B⟩
   go_wp2
   exact XW
 · go_wp2_with fail
   refine (Ko B 5).mono ?_
   rintro e w2 ⟨rfl,B⟩
   go_wp2
   exact XW
theorem tskf {P:Prop} (h:P:=by
 obtain ⟨ql,rfl, -⟩:=(show Zv w pl c (some f) from hlk▸hT.lk).get
 refine Zu.of hT hM hG fun S wo sl sst wa us tw ts tlook ti tword tgen tp tret te X he hg HX B=> ?_
 subst he hg
 dsimp only at hst hlk
 subst hst hlk
 clear hT hM hG
 rcases (by cases (QB ⟨wo,sl,sst,wa,us⟩ f M).1.found<;>cases (QB ⟨wo,sl,sst,wa,us⟩ f M).2<;>simp:(QB ⟨wo,sl,sst,wa,us⟩ f M).1.found=true∨((QB ⟨wo,sl,sst,wa,us⟩ f M).1.found=false∧(QB ⟨wo,sl,sst,wa,us⟩ f M).2=true)∨((QB ⟨wo,sl,sst,wa,us⟩ f M).1.found=false∧(QB ⟨wo,sl,sst,wa,us⟩ f M).2=false)) with ha|⟨ha,hb⟩|⟨ha,hb⟩
 all_goals
  go_in
  go_wp2_with fail
  refine (Q3a B hn hc hok hS rfl ha rfl).mono ?_
  rintro e w1 ⟨rfl,B⟩
  simp only [*,Bool.not_true,Bool.not_false,Bool.and_true,Bool.and_false]
  have q:=B.q 0;have u:=B.u 0
 · go_wp2_with fail
   clear q u
   generalize hw:World.setCell _ _ _=w2
   replace B:=(B.s 0).e hw
   exact XW
 · go_wp2_with fail
   first
    |refine (G6 B _ _ tw).mono ?_
     rintro e w2 ⟨rfl,b,B⟩
     go_wp2
     exact XW
    |refine (Ko B 3).mono ?_
     rintro e w2 ⟨rfl,B⟩
     go_wp2
     exact XW
 · go_wp2
   exact XW):P:=h
theorem Q5V (hT:Zt w p pm qm pl pr c t) (hM:Qm w pm qm M n) (hG:Qe w 0 Qc) (hn:n≤1000000000) (hst:t.st=1) (f:Qi) (hlk:t.look=some f) (hok:f.ok c) (hS:X5 c M) (hc:c.fits):Y4 219 w p pm qm pl pr c t M n good:=tskf
theorem Q5Y (hT:Zt w p pm qm pl pr c t) (hM:Qm w pm qm M n) (hG:Qe w 0 Qc) (hn:n≤1000000000) (hst:t.st=3) (f:Qi) (hlk:t.look=some f) (hok:f.ok c) (hS:X5 c M) (hc:c.fits):Y4 221 w p pm qm pl pr c t M n good:=tskf
theorem Q44 (hT:Zt w p pm qm pl pr c t) (hM:Qm w pm qm M n) (hG:Qe w 0 Qc) (hn:n≤1000000000) (hst:t.st=7) (f:Qi) (hlk:t.look=some f) (hok:f.ok c) (hS:X5 c M) (hc:c.fits):Y4 225 w p pm qm pl pr c t M n good:=tskf
theorem Z0N {P:Prop} (h:P:=by
 go_wp2_with fail
 clear q u
 generalize hw2:World.setCell _ _ _=w4
 replace B:=(B.s 0).e hw2
 exact XW):P:=h
theorem Ei (hT:Zt w p pm qm pl pr c t) (hM:Qm w pm qm M n) (hG:Qe w 0 Qc) (hn:n≤1000000000) (hst:t.st=2) (f:Qi) (s:Q7) (hlk:t.look=some f) (hfd:f.found=true) (hs:s.right) (hw:f.word=s.enc) (o0:0≤t.w) (o1:t.w≤15) (hc:c.fits):Y4 220 w p pm qm pl pr c t M n good:=by
 obtain ⟨ql,rfl, -⟩:=(show Zv w pl c (some f) from hlk▸hT.lk).get
 rcases Zi c t M f.at_ s 3 hs with ⟨u,M1,hu,hsw⟩|hsw
 all_goals
  refine Zu.of hT hM hG fun S wo sl sst wa us tw ts tlook ti tword tgen tp tret te X he hg HX B=> ?_
  subst he hg
  dsimp only at hst hlk hsw o0 o1
  subst hst hlk
  have h0:=hsw 2
  clear hT hM hG
  have q:=B.q 0;have u:=B.u 0
  go_in
  go_wp2_with fail
  clear q u
  generalize hw2:World.setCell _ _ _=w2
  replace B:=(B.s 0).e hw2
  refine (WU B hn hfd hw hs (by decide) o0 o1 hc (hsw 1)).mono ?_
  rintro e w3 ⟨rfl,k,hk,B⟩
 · have q:=B.q 0;have u:=B.u 0
   exact Z0N
 · go_wp2
   exact XW
theorem UN (hT:Zt w p pm qm pl pr c t) (hM:Qm w pm qm M n) (hG:Qe w 0 Qc) (hn:n≤1000000000) (hst:t.st=8) (f:Qi) (s:Q7) (hlk:t.look=some f) (hfd:f.found=true) (hs:s.right) (hw:f.word=s.enc) (o0:0≤t.w) (o1:t.w≤15) (hc:c.fits):Y4 226 w p pm qm pl pr c t M n good:=by
 obtain ⟨ql,rfl, -⟩:=(show Zv w pl c (some f) from hlk▸hT.lk).get
 rcases Zi c t M f.at_ s 0 hs with ⟨u,M1,hu,hsw⟩|hsw
 all_goals
  refine Zu.of hT hM hG fun S wo sl sst wa us tw ts tlook ti tword tgen tp tret te X he hg HX B=> ?_
  subst he hg
  dsimp only at hst hlk hsw o0 o1
  subst hst hlk
  have h0:=hsw 8
  clear hT hM hG
  have q:=B.q 0;have u:=B.u 0
  go_in
  go_wp2_with fail
  clear q u
  generalize hw2:World.setCell _ _ _=w2
  replace B:=(B.s 0).e hw2
  refine (WU B hn hfd hw hs (by decide) o0 o1 hc (hsw 7)).mono ?_
  rintro e w3 ⟨rfl,k,hk,B⟩
 · have q:=B.q 0;have u:=B.u 0
   exact Z0N
 · go_wp2
   exact XW
end
end
section
open Go.RowKit Go.Shelf Go.Lib
attribute [local go_sem] Oper.semAt_some
section
variable {w:World} {p pm qm:Nat} {pl pr:Option Nat} {c:Q0} {t:Qd} {M:List Int} {n:Int} {good:Bool}
theorem Q1Z (hT:Zt w p pm qm pl pr c t) (hM:Qm w pm qm M n) (hG:Qe w 0 Qc) (hn:n≤1000000000) (hst:t.st=10):Y4 228 w p pm qm pl pr c t M n good:=by
 have HL:=hid fun w' h=>Za w' pm qm M n 0 h hn
 refine Zu.of hT hM hG fun S wo sl sst wa us tw ts tlook ti tword tgen tp tret te X he hg HX B=> ?_
 subst he hg
 dsimp only at hst
 subst hst
 clear hT hM hG
 go_in
 go_wp2_with fail
 refine (HL.out _ (B.g 1)).mono ?_
 rintro e w1 ⟨rfl,h,f⟩
 replace B:=B.M h f
 have q:=B.q 0;have u:=B.u 0
 by_cases h2:Q6 M 0=0
 · go_wp2_with fail
   refine (Ko B 0).mono ?_
   rintro e w2 ⟨rfl,B⟩
   go_wp2
   exact XW
 · go_wp2_with fail
   clear q u
   generalize hw2:World.setCell _ _ _=w2
   replace B:=(B.s 0).e hw2
   exact XW
theorem Q3Z (hT:Zt w p pm qm pl pr c t) (hM:Qm w pm qm M n) (hG:Qe w 0 Qc) (hst:t.st=15):Y4 233 w p pm qm pl pr c t M n good:=by
 refine Zu.of hT hM hG fun S wo sl sst wa us tw ts tlook ti tword tgen tp tret te X he hg HX B=> ?_
 subst he hg
 dsimp only at hst
 subst hst
 go_in
 go_wp2
 exact XW
theorem El (hT:Zt w p pm qm pl pr c t) (hM:Qm w pm qm M n) (hG:Qe w 0 Qc) (hn:n≤1000000000) (hst:t.st=4) (f:Qi) (s:Q7) (hlk:t.look=some f) (hfd:f.found=true) (hs:s.right) (hw:f.word=s.enc) (o0:0≤t.w) (o1:t.w≤15) (hc:c.fits):Y4 222 w p pm qm pl pr c t M n good:=by
 have HFD:=hid fun w' q h=>X4 w' q c f h
 rw [hfd,if_pos rfl,hw] at HFD
 have HD:=hid fun w' h=>Ji w' s hs h
 have hde:=QF hs
 obtain ⟨ql,rfl, -⟩:=(show Zv w pl c (some f) from hlk▸hT.lk).get
 rcases Zi c t M f.at_ s 3 hs with ⟨u,M1,hu,hsw⟩|hsw
 all_goals
  refine Zu.of hT hM hG fun S wo sl sst wa us tw ts tlook ti tword tgen tp tret te X he hg HX B=> ?_
  subst he hg
  dsimp only at hst hlk hsw o0 o1
  subst hst hlk
  have h0:=hsw 4
  clear hT hM hG
  have q:=B.q 0
  simp only [Xu] at q
  go_in
  go_wp2_with fail
  refine (HFD.out _ _ (B.g 2)).mono ?_
  rintro e w1 ⟨rfl,f1⟩
  replace B:=B.tm f1
  clear q
  have q:=B.q 0;have u:=B.u 0
  go_wp2_with fail
  clear q u
  generalize hw2:World.setCell _ _ _=w2
  replace B:=(B.s 0).e hw2
  refine (WU B hn hfd hw hs (by decide) o0 o1 hc (hsw 3)).mono ?_
  rintro e w3 ⟨rfl,k,hk,B⟩
 · have q:=B.q 0;have v:=B.u 0
   go_wp2_with fail
   clear q v
   generalize hw2:World.setCell _ _ _=w4
   replace B:=(B.s 0).e hw2
   refine (HD.out _ (B.g 4)).mono ?_
   rintro e w5 ⟨rfl,f5⟩
   replace B:=B.tm f5
   dsimp only [Q7.val]
   go_wp2_with fail
   generalize hb:(World.heap _).size=b,hw:World.alloc _ _=w6
   replace B:=B.al hw hb
   refine rg B fun _ B=> ?_
   repeat refine tb ?_
   refine wpAnyH_done (by decide+kernel) ?_ _
   have q:=B.q 0;have v:=B.u 0;have r:=B.q 5
   rcases (by simp;omega:(s.own≠tw∧(s.own != tw)=true)∨(s.own=tw∧(s.own != tw)=false)) with ⟨h1,h2⟩|⟨h1,h2⟩
   · go_wp2_with fail
     clear q v r
     generalize hw2:World.setCell _ _ _=w7
     replace B:=(B.s 0).e hw2
     have r:=B.q 5
     go_wp2_with fail
     refine (G6 (B.tk 5) 5 0 _).mono ?_
     rintro e w2 ⟨rfl,b,B⟩
     go_wp2
     exact XW
   · go_wp2
     exact XW
 · go_wp2
   exact XW
theorem Q40 (hT:Zt w p pm qm pl pr c t) (hM:Qm w pm qm M n) (hG:Qe w 0 Qc) (hn:n≤1000000000) (hst:t.st=5) (f:Qi) (hlk:t.look=some f) (hok:f.ok c) (hS:X5 c M) (hc:c.fits):Y4 223 w p pm qm pl pr c t M n good:=by
 have hat:=Q7d M hok
 obtain ⟨ql,rfl, -⟩:=(show Zv w pl c (some f) from hlk▸hT.lk).get
 refine Zu.of hT hM hG fun S wo sl sst wa us tw ts tlook ti tword tgen tp tret te X he hg HX B=> ?_
 subst he hg
 dsimp only at hst hlk
 subst hst hlk
 clear hT hM hG
 rcases (by cases (QB ⟨wo,sl,sst,wa,us⟩ f M).1.found<;>cases (QB ⟨wo,sl,sst,wa,us⟩ f M).2<;>cases tp<;>simp:((QB ⟨wo,sl,sst,wa,us⟩ f M).1.found=true∧tp=true)∨((QB ⟨wo,sl,sst,wa,us⟩ f M).1.found=true∧tp=false)∨((QB ⟨wo,sl,sst,wa,us⟩ f M).1.found=false∧(QB ⟨wo,sl,sst,wa,us⟩ f M).2=true)∨((QB ⟨wo,sl,sst,wa,us⟩ f M).1.found=false∧(QB ⟨wo,sl,sst,wa,us⟩ f M).2=false)) with ⟨ha,rfl⟩|⟨ha,rfl⟩|⟨ha,hb⟩|⟨ha,hb⟩
 all_goals
  go_in
  go_wp2_with fail
  refine (Q3a B hn hc hok hS rfl ha rfl).mono ?_
  rintro e w1 ⟨rfl,B⟩
  simp only [*,Bool.not_true,Bool.not_false,Bool.and_true,Bool.and_false]
  have q:=B.q 0;have u:=B.u 0
  simp only [Xu] at q
 · go_wp2_with fail
   clear q u
   generalize hw:World.setCell _ _ _=w2
   replace B:=(B.s 0).e hw
   have q:=B.q 0
   simp only [Xu] at q
   go_wp2_with fail
   refine (Hl _ ql _ _ (B.g 2) hat.1 hat.2).mono ?_
   rintro e w3 ⟨rfl,h,f3⟩
   replace B:=B.up 2 (T':=tLk (some ql) ⟨wo,sl,sst,wa,us⟩ (some _)) h f3
   go_wp2
   exact XW
 · go_wp2_with fail
   clear q u
   generalize hw:World.setCell _ _ _=w2
   replace B:=((B.s 0).s 0).e hw
   exact XW
 · go_wp2_with fail
   clear q u
   generalize hw:World.setCell _ _ _=w2
   replace B:=(B.s 0).e hw
   exact XW
 · go_wp2
   exact XW
theorem Q1X (hT:Zt w p pm qm pl pr c t) (hM:Qm w pm qm M n) (hG:Qe w 0 Qc) (hn:n≤1000000000) (hst:t.st=13) (hc:c.fits):Y4 231 w p pm qm pl pr c t M n good:=by
 have HSL:=hid fun w'=>J9 w' c t.i hc
 have HLD:=hid fun w' h=>Za w' pm qm M n (Q5 c t.i) h hn
 refine Zu.of hT hM hG fun S wo sl sst wa us tw ts tlook ti tword tgen tp tret te X he hg HX B=> ?_
 subst he hg
 dsimp only [Q0.val] at hst HSL HLD
 subst hst
 clear hT hM hG
 have q:=B.q 0;have u:=B.u 0
 go_in
 go_wp2_with fail
 clear q u
 refine rgm 0 9 13 [0,2,3,4] B fun _ B=> ?_
 repeat refine tb ?_
 refine to fun K hK=> ?_
 go_simp
 refine (HSL.out _).mono ?_
 rintro e w1 ⟨rfl,f⟩
 replace B:=B.tm f
 go_wp2_with fail
 refine bk hK ?_
 clear hK K
 try go_frame
 refine to fun K hK=> ?_
 go_simp
 refine (HLD.out _ (B.g 1)).mono ?_
 rintro e w2 ⟨rfl,h,f⟩
 replace B:=B.M h f
 go_wp2_with fail
 refine bk hK ?_
 clear hK K
 try go_frame
 repeat refine tb ?_
 have q:=B.q 0;have u:=B.u 0
 refine to fun K hK=> ?_
 go_simp
 clear q u
 generalize hw:World.setCell _ _ _=w3
 replace B:=(B.s 0).e hw
 refine bk hK ?_
 clear hK K
 try go_frame
 refine wpAnyH_done (by decide+kernel) ?_ _
 have q:=B.q 0;have u:=B.u 0
 exact Z0N
end
end
end Go.Proofs.YtgjklfmnmljilaaGreatDoor
