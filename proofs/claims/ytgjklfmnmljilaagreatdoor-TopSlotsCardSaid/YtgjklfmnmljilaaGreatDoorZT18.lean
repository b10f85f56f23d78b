/- A part of the proof: TpYq to TpYs. -/
import Derived.Test.YtgjklfmnmljilaaGreatDoorZT03
import Derived.Test.YtgjklfmnmljilaaGreatDoorZT17
namespace Go.Proofs.YtgjklfmnmljilaaGreatDoor
set_option linter.unusedVariables false
set_option linter.unusedSimpArgs false
set_option linter.unusedSectionVars false
set_option linter.unnecessarySimpa false
set_option maxRecDepth 100000
set_option maxHeartbeats 8000000
section
open Go.RowKit Go.Shelf Go.Lib
attribute [local go_sem] Oper.semAt_some
section
variable {w:World} {p pm qm:Nat} {pl pr:Option Nat} {c:Q0} {t:Qh} {M:List Int} {n:Int}
theorem Q21 (hT:Jp w p pm qm pl pr c t) (hM:Ql w pm qm M n) (hG:Qf w 0 Qc) (hn:n≤1000000000) (hst:t.st=0):Zv 178 w p pm qm pl pr c t M n:=by
 have HL:=hid fun w' h=>Za w' pm qm M n 2 h hn
 refine XK.of hT hM hG fun S wo sl sst wa us yw ys yep ycl yqu ylook yi yword yo yh yret X he hg HX B=> ?_
 subst he hg
 dsimp only at hst
 subst hst
 clear hT hM hG
 go_in
 go_wp2_with fail
 refine (HL.out _ (B.g 1)).mono ?_
 rintro e w8 ⟨rfl,h,f⟩
 replace B:=B.M h f
 have q:=B.q 0;have u:=B.u 0
 go_wp2_with fail
 clear q u
 generalize hw2:World.setCell _ _ _=w2
 replace B:=((B.s 0).s 0).e hw2
 exact XM
theorem Q5X (hT:Jp w p pm qm pl pr c t) (hM:Ql w pm qm M n) (hG:Qf w 0 Qc) (hn:n≤1000000000) (hst:t.st=1) (hc:c.fits) (w0:0≤t.w) (w1:t.w<c.wo) (e0: -4611686018427387904≤t.epoch) (e1:t.epoch≤4611686018427387904):Zv 179 w p pm qm pl pr c t M n:=by
 have HPN:=hid fun w'=>Hq w' c t.w hc
 rw [show Y6 c t.w=3+t.w by unfold Y6;rw [if_pos ⟨w0,w1⟩]] at HPN
 have HPW:=hid fun w'=>DF w' t.epoch e0 e1
 have HST:=hid fun w' h=>Vz w' pm qm M n (3+t.w) (t.epoch+1) h hn
 clear w0 w1 e0 e1
 refine XK.of hT hM hG fun S wo sl sst wa us yw ys yep ycl yqu ylook yi yword yo yh yret X he hg HX B=> ?_
 subst he hg
 dsimp only [Q0.val] at hst HPN HPW HST
 subst hst
 clear hT hM hG
 go_in
 go_wp2_with fail
 refine rgx [0,2,3,4] B fun _ B=> ?_
 iterate 9 refine tb ?_
 refine tj 10 ?_
 refine tj 11 ?_
 refine tj 12 ?_
 refine tj 13 ?_
 refine tc 9 fun K hK=> ?_
 go_simp
 refine (HPN.out _).mono ?_
 rintro e w8 ⟨rfl,f⟩
 replace B:=B.tm f
 go_wp2_with fail
 refine bk hK ?_
 clear hK K
 try go_frame
 refine to fun K hK=> ?_
 go_simp
 refine (HPW.out _).mono ?_
 rintro e w8 ⟨rfl,f⟩
 replace B:=B.tm f
 go_wp2_with fail
 refine bk hK ?_
 clear hK K
 try go_frame
 refine to fun K hK=> ?_
 go_simp
 refine (HST.out _ (B.g 1)).mono ?_
 rintro e w8 ⟨rfl,h,f⟩
 replace B:=B.M h f
 go_wp2_with fail
 refine bk hK ?_
 clear hK K
 try go_frame
 refine wpAnyH_done (by decide+kernel) ?_ _
 have q:=B.q 0;have u:=B.u 0
 go_wp2_with fail
 clear q u
 generalize hw2:World.setCell _ _ _=w2
 replace B:=(B.s 0).e hw2
 exact XM
theorem UW (hT:Jp w p pm qm pl pr c t) (hM:Ql w pm qm M n) (hG:Qf w 0 Qc) (hn:n≤1000000000) (hst:t.st=2):Zv 180 w p pm qm pl pr c t M n:=by
 have HL:=hid fun w' h=>Za w' pm qm M n 0 h hn
 refine XK.of hT hM hG fun S wo sl sst wa us yw ys yep ycl yqu ylook yi yword yo yh yret X he hg HX B=> ?_
 subst he hg
 dsimp only at hst
 subst hst
 clear hT hM hG
 go_in
 go_wp2_with fail
 refine (HL.out _ (B.g 1)).mono ?_
 rintro e w8 ⟨rfl,h,f⟩
 replace B:=B.M h f
 have q:=B.q 0;have u:=B.u 0
 go_wp2_with fail
 clear q u
 generalize hw2:World.setCell _ _ _=w2
 replace B:=(B.s 0).e hw2
 have q:=B.q 0
 go_wp2_with fail
 refine (G9 B 3 4 _).mono ?_
 rintro e w8 ⟨rfl,b,B⟩
 replace B:=B
 go_wp2
 exact XM
theorem Q1W (hT:Jp w p pm qm pl pr c t) (hM:Ql w pm qm M n) (hG:Qf w 0 Qc) (hn:n≤1000000000) (hst:t.st=15) (hc:c.fits) (w0:0≤t.w) (w1:t.w<c.wo):Zv 193 w p pm qm pl pr c t M n:=by
 have HPN:=hid fun w'=>Hq w' c t.w hc
 rw [show Y6 c t.w=3+t.w by unfold Y6;rw [if_pos ⟨w0,w1⟩]] at HPN
 have HST:=hid fun w' h=>Vz w' pm qm M n (3+t.w) 0 h hn
 clear w0 w1
 refine XK.of hT hM hG fun S wo sl sst wa us yw ys yep ycl yqu ylook yi yword yo yh yret X he hg HX B=> ?_
 subst he hg
 dsimp only [Q0.val] at hst HPN HST
 subst hst
 clear hT hM hG
 go_in
 go_wp2_with fail
 refine rgx [0,2,3,4] B fun _ B=> ?_
 repeat refine tb ?_
 refine to fun K hK=> ?_
 go_simp
 refine (HPN.out _).mono ?_
 rintro e w8 ⟨rfl,f⟩
 replace B:=B.tm f
 go_wp2_with fail
 refine bk hK ?_
 clear hK K
 try go_frame
 refine to fun K hK=> ?_
 go_simp
 refine (HST.out _ (B.g 1)).mono ?_
 rintro e w8 ⟨rfl,h,f⟩
 replace B:=B.M h f
 go_wp2_with fail
 refine bk hK ?_
 clear hK K
 try go_frame
 refine wpAnyH_done (by decide+kernel) ?_ _
 have q:=B.q 0;have u:=B.u 0
 go_wp2_with fail
 clear q u
 generalize hw2:World.setCell _ _ _=w2
 replace B:=(B.s 0).e hw2
 exact XM
theorem Q22 (hT:Jp w p pm qm pl pr c t) (hM:Ql w pm qm M n) (hG:Qf w 0 Qc) (hn:n≤1000000000) (hst:t.st=16):Zv 194 w p pm qm pl pr c t M n:=by
 have HL:=hid fun w' h=>Za w' pm qm M n 2 h hn
 refine XK.of hT hM hG fun S wo sl sst wa us yw ys yep ycl yqu ylook yi yword yo yh yret X he hg HX B=> ?_
 subst he hg
 dsimp only at hst
 subst hst
 clear hT hM hG
 have q:=B.q 0;have u:=B.u 0
 go_in
 go_wp2_with fail
 clear q u
 generalize hw2:World.setCell _ _ _=w2
 replace B:=(B.s 0).e hw2
 refine rgx [0,2,3,4] B fun _ B=> ?_
 refine tb ?_
 refine tj 2 ?_
 refine tj 3 ?_
 refine tj 4 ?_
 refine tj 5 ?_
 refine tc 1 fun K hK=> ?_
 go_simp
 refine (HL.out _ (B.g 1)).mono ?_
 rintro e w8 ⟨rfl,h,f⟩
 replace B:=B.M h f
 go_wp2_with fail
 refine bk hK ?_
 clear hK K
 try go_frame
 refine tb ?_
 refine wpAnyH_done (by decide+kernel) ?_ _
 rcases (by simp;omega:(Q7 M 2=yep∧(Q7 M 2==yep)=true)∨(Q7 M 2≠yep∧(Q7 M 2==yep)=false)) with ⟨h1,h2⟩|⟨h1,h2⟩
 · rw [h2]
   have q:=B.q 0;have u:=B.u 0
   go_wp2_with fail
   clear q u
   generalize hw2:World.setCell _ _ _=w3
   replace B:=(B.s 0).e hw2
   exact XM
 · rw [h2]
   go_wp2
   exact XM
theorem Q46 (hT:Jp w p pm qm pl pr c t) (hM:Ql w pm qm M n) (hG:Qf w 0 Qc) (hst:t.st=17):Zv 195 w p pm qm pl pr c t M n:=by
 refine XK.of hT hM hG fun S wo sl sst wa us yw ys yep ycl yqu ylook yi yword yo yh yret X he hg HX B=> ?_
 subst he hg
 dsimp only at hst
 subst hst
 go_in
 go_wp2
 exact XM
theorem Q1Z (hT:Jp w p pm qm pl pr c t) (hM:Ql w pm qm M n) (hG:Qf w 0 Qc) (hn:n≤1000000000) (hst:t.st=12) (hc:c.fits) (h0:0≤t.head) (h1:t.head<c.wo) (i0:0≤t.i) (i1:t.i≤1000):Zv 190 w p pm qm pl pr c t M n:=by
 have HPN:=hid fun w'=>ZB w' c t.head hc h0 h1
 have HST:=hid fun w' h=>Vz w' pm qm M n (3+c.wo+t.head) (t.i+1) h hn
 clear h0 h1
 refine XK.of hT hM hG fun S wo sl sst wa us yw ys yep ycl yqu ylook yi yword yo yh yret X he hg HX B=> ?_
 subst he hg
 dsimp only [Q0.val] at hst HPN HST i0 i1
 subst hst
 clear hT hM hG
 have HW:=hid (show IntKind.i64.wrap (yi+1)=yi+1 by rw [IntKind.wrap_i64];omega)
 go_in
 go_wp2_with fail
 refine rgx [0,2,3,4] B fun _ B=> ?_
 iterate 9 refine tb ?_
 refine tj 10 ?_
 refine tj 11 ?_
 refine tj 12 ?_
 refine tj 13 ?_
 refine tj 14 ?_
 rw [HW.out]
 refine tc 9 fun K hK=> ?_
 go_simp
 refine (HPN.out _).mono ?_
 rintro e w8 ⟨rfl,f⟩
 replace B:=B.tm f
 go_wp2_with fail
 refine bk hK ?_
 clear hK K
 try go_frame
 refine to fun K hK=> ?_
 go_simp
 refine (HST.out _ (B.g 1)).mono ?_
 rintro e w8 ⟨rfl,h,f⟩
 replace B:=B.M h f
 go_wp2_with fail
 refine bk hK ?_
 clear hK K
 try go_frame
 refine wpAnyH_done (by decide+kernel) ?_ _
 have q:=B.q 0;have u:=B.u 0
 go_wp2_with fail
 clear q u
 generalize hw2:World.setCell _ _ _=w2
 replace B:=(B.s 0).e hw2
 exact XM
end
end
section
open Go.RowKit Go.Shelf Go.Lib
attribute [local go_sem] Oper.semAt_some
section
variable {w:World} {p pm qm:Nat} {pl pr:Option Nat} {c:Q0} {t:Qh} {M:List Int} {n:Int}
theorem Q45 (hT:Jp w p pm qm pl pr c t) (hM:Ql w pm qm M n) (hG:Qf w 0 Qc) (hn:n≤1000000000) (f:Qi) (hlk:t.look=some f) (hst:t.st=9) (hok:f.ok c) (hS:JX c M) (hc:c.fits):Zv 187 w p pm qm pl pr c t M n:=by
 obtain ⟨ql,rfl, -⟩:=(show Zu w pl c (some f) from hlk▸hT.lk).get
 refine XK.of hT hM hG fun S wo sl sst wa us yw ys yep ycl yqu ylook yi yword yo yh yret X he hg HX B=> ?_
 subst he hg
 dsimp only at hst hlk
 subst hst hlk
 clear hT hM hG
 rcases (by cases (Qx ⟨wo,sl,sst,wa,us⟩ f M).1.found<;>cases (Qx ⟨wo,sl,sst,wa,us⟩ f M).2<;>simp:(Qx ⟨wo,sl,sst,wa,us⟩ f M).1.found=true∨((Qx ⟨wo,sl,sst,wa,us⟩ f M).1.found=false∧(Qx ⟨wo,sl,sst,wa,us⟩ f M).2=true)∨((Qx ⟨wo,sl,sst,wa,us⟩ f M).1.found=false∧(Qx ⟨wo,sl,sst,wa,us⟩ f M).2=false)) with ha|⟨ha,hb⟩|⟨ha,hb⟩
 all_goals
  go_in
  go_wp2_with fail
  refine (Ef B hn hc hok hS rfl ha rfl).mono ?_
  rintro e w1 ⟨rfl,B⟩
  simp only [*,Bool.not_true,Bool.not_false,Bool.and_true,Bool.and_false]
  simp only [cond_true,cond_false] at B
 · have q:=B.q 0;have u:=B.u 0
   go_wp2_with fail
   clear q u
   generalize hw2:World.setCell _ _ _=w2
   replace B:=(B.s 0).e hw2
   exact XM
 · have q:=B.q 0;have u:=B.u 0
   go_wp2_with fail
   clear q u
   generalize hw2:World.setCell _ _ _=w2
   replace B:=(B.s 0).e hw2
   exact XM
 · go_wp2
   exact XM
theorem Q1X (hT:Jp w p pm qm pl pr c t) (hM:Ql w pm qm M n) (hG:Qf w 0 Qc) (hn:n≤1000000000) (f:Qi) (hlk:t.look=some f) (hst:t.st=3) (hok:f.ok c) (hS:JX c M) (hc:c.fits):Zv 181 w p pm qm pl pr c t M n:=by
 have HNW:=hid fun w' i x=>KQ w' c i x hc
 obtain ⟨ql,rfl, -⟩:=(show Zu w pl c (some f) from hlk▸hT.lk).get
 refine XK.of hT hM hG fun S wo sl sst wa us yw ys yep ycl yqu ylook yi yword yo yh yret X he hg HX B=> ?_
 subst he hg
 dsimp only [Q0.val] at hst hlk HNW
 subst hst hlk
 clear hT hM hG
 rcases (by cases (Qx ⟨wo,sl,sst,wa,us⟩ f M).1.found<;>cases (Qx ⟨wo,sl,sst,wa,us⟩ f M).2<;>simp:(Qx ⟨wo,sl,sst,wa,us⟩ f M).1.found=true∨((Qx ⟨wo,sl,sst,wa,us⟩ f M).1.found=false∧(Qx ⟨wo,sl,sst,wa,us⟩ f M).2=true)∨((Qx ⟨wo,sl,sst,wa,us⟩ f M).1.found=false∧(Qx ⟨wo,sl,sst,wa,us⟩ f M).2=false)) with ha|⟨ha,hb⟩|⟨ha,hb⟩
 all_goals
  go_in
  go_wp2_with fail
  refine (Ef B hn hc hok hS rfl ha rfl).mono ?_
  rintro e w1 ⟨rfl,B⟩
  simp only [*,Bool.not_true,Bool.not_false,Bool.and_true,Bool.and_false]
  simp only [cond_true,cond_false] at B
 · go_wp2_with fail
   refine rgc 0 15 B fun _ B=> ?_
   repeat refine tb ?_
   refine to fun K hK=> ?_
   go_simp
   refine (HNW.out _ _ _).mono ?_
   rintro e w8 ⟨qr,rfl,hq,hr,f⟩
   replace B:=B.nw (T':=tRt (some qr) (some _)) hr f (fun x hx=>by simp at hx;subst hx;exact ⟨hq,Q6 hr⟩)
   go_wp2_with fail
   refine bk hK ?_
   clear hK K
   try go_frame
   repeat refine tb ?_
   have q:=B.q 0;have u:=B.u 0
   refine to fun K hK=> ?_
   go_simp
   clear q u
   generalize hw:World.setCell _ _ _=w8
   replace B:=(B.s 0).e hw
   refine bk hK ?_
   clear hK K
   try go_frame
   refine wpAnyH_done (by decide+kernel) ?_ _
   have q:=B.q 0;have u:=B.u 0
   go_wp2_with fail
   clear q u
   generalize hw2:World.setCell _ _ _=w9
   replace B:=(B.s 0).e hw2
   replace B:=B.sel [0,1,2,5,4]
   exact XM
 · have q:=B.q 0
   go_wp2_with fail
   refine (G9 B 5 5 _).mono ?_
   rintro e w8 ⟨rfl,b,B⟩
   replace B:=B
   go_wp2
   exact XM
 · go_wp2
   exact XM
theorem Q5Y (hT:Jp w p pm qm pl pr c t) (hM:Ql w pm qm M n) (hG:Qf w 0 Qc) (hn:n≤1000000000) (f:Qi) (hlk:t.look=some f) (hst:t.st=5) (hok:f.ok c) (hS:JX c M) (hc:c.fits):Zv 183 w p pm qm pl pr c t M n:=by
 obtain ⟨ql,rfl, -⟩:=(show Zu w pl c (some f) from hlk▸hT.lk).get
 refine XK.of hT hM hG fun S wo sl sst wa us yw ys yep ycl yqu ylook yi yword yo yh yret X he hg HX B=> ?_
 subst he hg
 dsimp only at hst hlk
 subst hst hlk
 clear hT hM hG
 have hcl:(ycl=0∧(ycl != 0)=false)∨(ycl≠0∧(ycl != 0)=true):=by simp;omega
 rcases (by cases (Qx ⟨wo,sl,sst,wa,us⟩ f M).1.found<;>cases (Qx ⟨wo,sl,sst,wa,us⟩ f M).2<;>simp:(Qx ⟨wo,sl,sst,wa,us⟩ f M).1.found=true∨((Qx ⟨wo,sl,sst,wa,us⟩ f M).1.found=false∧(Qx ⟨wo,sl,sst,wa,us⟩ f M).2=true)∨((Qx ⟨wo,sl,sst,wa,us⟩ f M).1.found=false∧(Qx ⟨wo,sl,sst,wa,us⟩ f M).2=false)) with ha|⟨ha,hb⟩|⟨ha,hb⟩
 all_goals
  go_in
  go_wp2_with fail
  refine (Ef B hn hc hok hS rfl ha rfl).mono ?_
  rintro e w1 ⟨rfl,B⟩
  simp only [*,Bool.not_true,Bool.not_false,Bool.and_true,Bool.and_false]
  simp only [cond_true,cond_false] at B
 · obtain ⟨o,ho⟩:∃o,(if (-1:Int)+1=yw then -1+2 else -1+1)=o:=⟨_,rfl⟩
   have ho2:=ho
   simp at ho2
   have q:=B.q 0;have u:=B.u 0
   go_wp2_with fail
   clear q u
   generalize hw2:World.setCell _ _ _=w2
   replace B:=((B.s 0).s 0).e hw2
   refine (WZ B (by decide) (by decide) ho).mono ?_
   rintro e w8 ⟨rfl,B⟩
   replace B:=B
   by_cases hlt:o<wo
   · have hdl:=decide_eq_true hlt
     rw [hdl]
     go_wp2
     exact XM
   · have hdl:decide (o<wo)=false:=decide_eq_false hlt
     rw [hdl]
     have q:=B.q 0;have u:=B.u 0
     go_wp2_with fail
     clear q u
     generalize hw2:World.setCell _ _ _=w3
     replace B:=(B.s 0).e hw2
     exact XM
 · have q:=B.q 0;have u:=B.u 0
   rcases hcl with ⟨rfl,h2⟩|⟨h1,h2⟩
   all_goals
    go_wp2_with fail
    clear q u
    generalize hw2:World.setCell _ _ _=w2
    replace B:=(B.s 0).e hw2
    exact XM
 · go_wp2
   exact XM
theorem Q4a (hT:Jp w p pm qm pl pr c t) (hM:Ql w pm qm M n) (hG:Qf w 0 Qc) (hn:n≤1000000000) (f:Qi) (r:J4) (hlk:t.look=some f) (hrt:t.ret=some r) (hst:t.st=4) (hok:r.ok):Zv 182 w p pm qm pl pr c t M n:=by
 obtain ⟨ql,rfl, -⟩:=(show Zu w pl c (some f) from hlk▸hT.lk).get
 obtain ⟨qr,rfl, -⟩:=(show Yc w pr (some r) from hrt▸hT.rt).get
 have hne:=hT.ft.fr qr rfl
 have HST:=hid fun w' hq h hg=>Yh w' qr pm qm r M n hok hq h hn ⟨hne.2.1,hne.2.2.1⟩ hg
 refine XK.of hT hM hG fun S wo sl sst wa us yw ys yep ycl yqu ylook yi yword yo yh yret X he hg HX B=> ?_
 subst he hg
 dsimp only at hst hlk hrt
 subst hst hlk hrt
 clear hT hM hG hne hok
 have q:=B.q 0
 simp only [Xr] at q
 go_in
 go_wp2_with fail
 refine (HST.out _ (B.g 3) (B.g 1) (B.g 4)).mono ?_
 rintro e w1 ⟨rfl,hr,hm,f⟩
 replace B:=B.up2 3 1 (T:=tRt (some qr) (some _)) (T':=tM pm qm _ (n+1)) hr hm f
 clear q hr hm
 have q:=B.q 0
 simp only [Xr] at q
 rcases (by cases (Qn r M).1.done<;>simp:(Qn r M).1.done=false∨(Qn r M).1.done=true) with hdn|hdn
 · rw [hdn]
   go_wp2
   exact XM
 · rw [hdn]
   go_wp2_with fail
   refine (Ky _ ql _ _ (B.g 2)).mono ?_
   rintro e w3 ⟨rfl,h,f3⟩
   replace B:=B.up 2 (T':=tLk (some ql) ⟨wo,sl,sst,wa,us⟩ (some _)) h f3
   clear q
   have q:=B.q 0;have u:=B.u 0
   go_wp2_with fail
   clear q u
   generalize hw2:World.setCell _ _ _=w4
   replace B:=(B.s 0).e hw2
   exact XM
theorem Q20 (hT:Jp w p pm qm pl pr c t) (hM:Ql w pm qm M n) (hG:Qf w 0 Qc) (hn:n≤1000000000) (f:Qi) (s:Q8) (hs:s.right) (hw:t.word=s.enc) (hlk:t.look=some f) (hst:t.st=7) (hat:0≤f.at_∧f.at_≤1000) (o0:0≤t.w) (o1:t.w≤15) (hc:c.fits):Zv 185 w p pm qm pl pr c t M n:=by
 obtain ⟨ql,rfl, -⟩:=(show Zu w pl c (some f) from hlk▸hT.lk).get
 obtain ⟨⟨M2,ok⟩,hsw⟩:∃x,Xi c t M 12 t.w=x:=⟨_,rfl⟩
 refine XK.of hT hM hG fun S wo sl sst wa us yw ys yep ycl yqu ylook yi yword yo yh yret X he hg HX B=> ?_
 subst he hg
 dsimp only at hst hlk hw hsw o0 o1
 subst hst hlk hw
 clear hT hM hG
 have q:=B.q 0
 go_in
 go_wp2_with fail
 refine (Ee B hn hs (by decide) o0 o1 hc hsw).mono ?_
 rintro e w8 ⟨rfl,k,hk,B⟩
 replace B:=B
 clear q
 have q:=B.q 0
 simp only [Xr] at q
 go_wp2_with fail
 refine (Hu _ ql _ _ (B.g 2) hat.1 hat.2).mono ?_
 rintro e w3 ⟨rfl,h,f3⟩
 replace B:=B.up 2 (T':=tLk (some ql) ⟨wo,sl,sst,wa,us⟩ (some _)) h f3
 clear q
 have q:=B.q 0;have u:=B.u 0
 go_wp2_with fail
 clear q u
 generalize hw2:World.setCell _ _ _=w4
 replace B:=(B.s 0).e hw2
 exact XM
theorem Q9t {s:Q8} (h:s.right):epW s.enc=s.ep:=by unfold epW;rw [QO h]
theorem Q47 (hT:Jp w p pm qm pl pr c t) (hM:Ql w pm qm M n) (hG:Qf w 0 Qc) (hn:n≤1000000000) (f:Qi) (s:Q8) (hs:s.right) (hw:t.word=s.enc) (hlk:t.look=some f) (hst:t.st=6) (hat:0≤f.at_∧f.at_≤1000) (o0:0≤t.other) (o1:t.other<c.wo) (hb0: -4611686018427387904≤Q7 M (3+t.other)) (hb1:Q7 M (3+t.other)≤4611686018427387904) (hc:c.fits):Zv 184 w p pm qm pl pr c t M n:=by
 have HPN:=hid fun w'=>Hq w' c t.other hc
 rw [show Y6 c t.other=3+t.other by unfold Y6;rw [if_pos ⟨o0,o1⟩]] at HPN
 have HLD:=hid fun w' h=>Za w' pm qm M n (3+t.other) h hn
 have HBL:=hid fun w'=>Q0R w' (Q7 M (3+t.other)) s.ep hb0 hb1
 have HD:=hid fun w' h=>Je w' s hs h
 have hep:=Q9t hs
 have hwo:c.wo≤8:=hc.1.2
 obtain ⟨ql,rfl, -⟩:=(show Zu w pl c (some f) from hlk▸hT.lk).get
 refine XK.of hT hM hG fun S wo sl sst wa us yw ys yep ycl yqu ylook yi yword yo yh yret X he hg HX B=> ?_
 subst he hg
 dsimp only [Q0.val] at hst hlk hw HPN HLD HBL hwo o0 o1
 subst hst hlk hw
 clear hT hM hG hb0 hb1 hc
 generalize hx:Q7 M (3+yo)=lx at HLD HBL
 have hbl:=hx
 generalize 3+yo=cell at HPN HLD
 obtain ⟨zst,zso,zstr,zbr,zmkd,zus,zgen,zep,zver⟩:=s
 dsimp only [Q8.val] at HD HBL hep
 generalize Q8.enc _=en at HD hep B HX
 go_in
 go_wp2_with fail
 refine rgx [0,2,3,4] B fun _ B=> ?_
 repeat refine tb ?_
 refine to fun K hK=> ?_
 go_simp
 refine (HPN.out _).mono ?_
 rintro e w8 ⟨rfl,f⟩
 replace B:=B.tm f
 go_wp2_with fail
 refine bk hK ?_
 clear hK K
 try go_frame
 refine to fun K hK=> ?_
 go_simp
 refine (HLD.out _ (B.g 1)).mono ?_
 rintro e w8 ⟨rfl,h,f⟩
 replace B:=B.M h f
 go_wp2_with fail
 refine bk hK ?_
 clear hK K
 try go_frame
 refine tb ?_
 refine wpAnyH_done (by decide+kernel) ?_ _
 have q:=B.q 0
 go_wp2_with fail
 refine (HD.out _ (B.g 4)).mono ?_
 rintro e w8 ⟨rfl,f⟩
 replace B:=B.tm f
 clear q
 go_wp2_with fail
 generalize hb:(World.heap _).size=b,hw2:World.alloc _ _=w5
 replace B:=B.al hw2 hb
 refine (HBL.out _).mono ?_
 rintro e w8 ⟨rfl,f⟩
 replace B:=B.tm f
 have q:=B.q 0
 simp only [Xr] at q
 by_cases bq:1≤lx∧lx - 1≤zep
 · rw [decide_eq_true bq]
   go_wp2_with fail
   refine (Hu _ ql _ _ (B.g 2) hat.1 hat.2).mono ?_
   rintro e w3 ⟨rfl,h,f3⟩
   replace B:=B.up 2 (T':=tLk (some ql) ⟨wo,sl,sst,wa,us⟩ (some _)) h f3
   clear q
   have q:=B.q 0;have u:=B.u 0
   go_wp2_with fail
   clear q u
   generalize hw2:World.setCell _ _ _=w4
   replace B:=(B.s 0).e hw2
   exact XM
 · rw [decide_eq_false bq]
   obtain ⟨o,ho⟩:∃o,(if yo+1=yw then yo+2 else yo+1)=o:=⟨_,rfl⟩
   go_wp2_with fail
   refine (WZ B (by omega) (by omega) ho).mono ?_
   rintro e w8 ⟨rfl,B⟩
   replace B:=B
   clear q
   by_cases hlt:o<wo
   · have hdl:=decide_eq_true hlt
     rw [hdl]
     go_wp2
     exact XM
   · have hdl:decide (o<wo)=false:=decide_eq_false hlt
     rw [hdl]
     have q:=B.q 0;have u:=B.u 0
     go_wp2_with fail
     clear q u
     generalize hw2:World.setCell _ _ _=w3
     replace B:=(B.s 0).e hw2
     exact XM
end
end
section
open Go.RowKit Go.Shelf Go.Lib
attribute [local go_sem] Oper.semAt_some
section
variable {w:World} {p pm qm:Nat} {pl pr:Option Nat} {c:Q0} {t:Qh} {M:List Int} {n:Int}
theorem Q48 (hT:Jp w p pm qm pl pr c t) (hM:Ql w pm qm M n) (hG:Qf w 0 Qc) (hn:n≤1000000000) (hst:t.st=8) (hQ:Ln (mQ M)) (hqw:Q7 M 1=(wd (mQ M):Int)):Zv 186 w p pm qm pl pr c t M n:=by
 have HL:=hid fun w' h=>Za w' pm qm M n 1 h hn
 rw [hqw] at HL
 have HH:=hid fun w'=>Q37 w' (mQ M) hQ
 refine XK.of hT hM hG fun S wo sl sst wa us yw ys yep ycl yqu ylook yi yword yo yh yret X he hg HX B=> ?_
 subst he hg
 dsimp only at hst
 subst hst
 clear hT hM hG
 clear hqw hQ
 generalize hmq:mQ M=lq at HL HH
 go_in
 go_wp2_with fail
 refine (HL.out _ (B.g 1)).mono ?_
 rintro e w8 ⟨rfl,h,f⟩
 replace B:=B.M h f
 have q:=B.q 0;have u:=B.u 0
 go_wp2_with fail
 clear q u
 generalize hw2:World.setCell _ _ _=w2
 replace B:=(B.s 0).e hw2
 have q:=B.q 0
 go_wp2_with fail
 refine (HH.out _).mono ?_
 rintro e w8 ⟨rfl,f⟩
 replace B:=B.tm f
 unfold DY
 clear q
 by_cases hq0:lq=[]
 · subst hq0
   rw [show decide (([]:List Int)≠[])=false from rfl]
   have q:=B.q 0;have u:=B.u 0
   go_wp2_with fail
   clear q u
   generalize hw2:World.setCell _ _ _=w3
   replace B:=(B.s 0).e hw2
   exact XM
 · rw [decide_eq_true hq0]
   have q:=B.q 0;have u:=B.u 0
   go_wp2_with fail
   clear q u
   generalize hw2:World.setCell _ _ _=w3
   replace B:=(B.s 0).e hw2
   have q:=B.q 0
   go_wp2_with fail
   refine (G9 B 9 3 _).mono ?_
   rintro e w8 ⟨rfl,b,B⟩
   replace B:=B
   go_wp2
   exact XM
theorem Q49 (hT:Jp w p pm qm pl pr c t) (hM:Ql w pm qm M n) (hG:Qf w 0 Qc) (hn:n≤1000000000) (f:Qi) (s:Q8) (hs:s.right) (hw:t.word=s.enc) (hlk:t.look=some f) (hst:t.st=10) (o0:0≤t.head) (o1:t.head≤15) (hc:c.fits):Zv 188 w p pm qm pl pr c t M n:=by
 obtain ⟨ql,rfl, -⟩:=(show Zu w pl c (some f) from hlk▸hT.lk).get
 have his:=EZ hs
 obtain ⟨d,hd⟩:∃d:Nat,(if isW t.word=2 then 5 else 7)=d:=⟨_,rfl⟩
 have hd18:d<18:=by subst hd;split<;>decide
 obtain ⟨⟨M2,ok⟩,hsw⟩:∃x,Xi c t M d t.head=x:=⟨_,rfl⟩
 refine XK.of hT hM hG fun S wo sl sst wa us yw ys yep ycl yqu ylook yi yword yo yh yret X he hg HX B=> ?_
 subst he hg
 dsimp only at hst hlk hw hsw o0 o1 hd
 subst hst hlk hw
 clear hT hM hG
 rw [his] at hd
 go_in
 go_wp2_with fail
 refine (Q60 B hs).mono ?_
 rintro e w8 ⟨rfl,B⟩
 replace B:=B
 have hcase:(s.st=2∧(s.st==2)=true)∨(s.st≠2∧(s.st==2)=false):=by simp;omega
 have q:=B.q 0
 rcases hcase with ⟨h1,h2⟩|⟨h1,h2⟩
 all_goals
  simp [h1] at hd
  subst hd
  go_wp2_with fail
  refine (Ee B hn hs (by decide) o0 o1 hc hsw).mono ?_
  rintro e w8 ⟨rfl,k,hk,B2⟩
  replace B:=B2
  clear B2
  clear q
  cases ok
  · have q:=B.q 0
    simp only [Xr] at q
    go_wp2_with fail
    refine (Ky _ ql _ _ (B.g 2)).mono ?_
    rintro e w3 ⟨rfl,h,f3⟩
    replace B:=B.up 2 (T':=tLk (some ql) ⟨wo,sl,sst,wa,us⟩ (some _)) h f3
    clear q
    have q:=B.q 0;have u:=B.u 0
    go_wp2_with fail
    clear q u
    generalize hw2:World.setCell _ _ _=w4
    replace B:=(B.s 0).e hw2
    exact XM
  · have q:=B.q 0;have u:=B.u 0
    go_wp2_with fail
    clear q u
    generalize hw2:World.setCell _ _ _=w4
    replace B:=(B.s 0).e hw2
    exact XM
theorem Q0h (hT:Jp w p pm qm pl pr c t) (hM:Ql w pm qm M n) (hG:Qf w 0 Qc) (hn:n≤1000000000) (s:Q8) (hs:s.right) (hw:t.word=s.enc) (hst:t.st=14) (o0:0≤t.w) (o1:t.w≤15) (hc:c.fits):Zv 192 w p pm qm pl pr c t M n:=by
 have his:=EZ hs
 obtain ⟨d,hd⟩:∃d:Nat,(if isW t.word=4 then 6 else 8)=d:=⟨_,rfl⟩
 have hd18:d<18:=by subst hd;split<;>decide
 obtain ⟨⟨M2,ok⟩,hsw⟩:∃x,Xi c t M d t.w=x:=⟨_,rfl⟩
 refine XK.of hT hM hG fun S wo sl sst wa us yw ys yep ycl yqu ylook yi yword yo yh yret X he hg HX B=> ?_
 subst he hg
 dsimp only at hst hw hsw o0 o1 hd
 subst hst hw
 clear hT hM hG
 rw [his] at hd
 go_in
 go_wp2_with fail
 refine (Q60 B hs).mono ?_
 rintro e w8 ⟨rfl,B⟩
 replace B:=B
 have hcase:(s.st=4∧(s.st==4)=true)∨(s.st≠4∧(s.st==4)=false):=by simp;omega
 have q:=B.q 0;have u:=B.u 0
 rcases hcase with ⟨h1,h2⟩|⟨h1,h2⟩
 all_goals
  simp [h1] at hd
  subst hd
  go_wp2_with fail
  clear q u
  generalize hw2:World.setCell _ _ _=w2
  replace B:=(B.s 0).e hw2
  have q:=B.q 0
  go_wp2_with fail
  have hsw2:Xi ⟨wo,sl,sst,wa,us⟩ ⟨yw,13,yep,ycl,yqu,ylook,yi,s.enc,yo,yh,yret⟩ M _ yw=(M2,ok):=hsw
  refine (Ee B hn hs (by decide) o0 o1 hc hsw2).mono ?_
  rintro e w8 ⟨rfl,k,hk,B2⟩
  replace B:=B2
  clear B2
  clear q
  cases ok
  · go_wp2
    exact XM
  · have q:=B.q 0;have u:=B.u 0
    go_wp2_with fail
    clear q u
    generalize hw2:World.setCell _ _ _=w4
    replace B:=(B.s 0).e hw2
    exact XM
theorem Q4b (hT:Jp w p pm qm pl pr c t) (hM:Ql w pm qm M n) (hG:Qf w 0 Qc) (hn:n≤1000000000) (s:Q8) (hst:t.st=13) (hs:s.right) (hw:Q7 M (Q5 c t.i)=s.enc) (hc:c.fits):Zv 191 w p pm qm pl pr c t M n:=by
 have HSL:=hid fun w'=>J2 w' c t.i hc
 have HL:=hid fun w' h=>Za w' pm qm M n (Q5 c t.i) h hn
 rw [hw] at HL
 have his:=EZ hs
 refine XK.of hT hM hG fun S wo sl sst wa us yw ys yep ycl yqu ylook yi yword yo yh yret X he hg HX B=> ?_
 subst he hg
 dsimp only [Q0.val] at hst hw HSL HL
 subst hst
 clear hT hM hG
 go_in
 go_wp2_with fail
 refine rgm 0 12 14 [0,2,3,4] B fun _ B=> ?_
 repeat refine tb ?_
 refine to fun K hK=> ?_
 go_simp
 refine (HSL.out _).mono ?_
 rintro e w8 ⟨rfl,f⟩
 replace B:=B.tm f
 go_wp2_with fail
 refine bk hK ?_
 clear hK K
 try go_frame
 refine to fun K hK=> ?_
 go_simp
 refine (HL.out _ (B.g 1)).mono ?_
 rintro e w8 ⟨rfl,h,f⟩
 replace B:=B.M h f
 go_wp2_with fail
 refine bk hK ?_
 clear hK K
 try go_frame
 repeat refine tb ?_
 have q:=B.q 0;have u:=B.u 0
 refine to fun K hK=> ?_
 go_simp
 clear q u
 generalize hw3:World.setCell _ _ _=w3
 replace B:=(B.s 0).e hw3
 refine bk hK ?_
 clear hK K
 try go_frame
 refine wpAnyH_done (by decide+kernel) ?_ _
 have q:=B.q 0;have u:=B.u 0
 go_wp2_with fail
 clear q u
 generalize hw2:World.setCell _ _ _=w4
 replace B:=(B.s 0).e hw2
 refine (Q60 B hs).mono ?_
 rintro e w8 ⟨rfl,B⟩
 replace B:=B
 have hcase:(s.st=4∧(s.st==4)=true)∨(s.st=5∧(s.st==4)=false∧(s.st==5)=true)∨(s.st≠4∧s.st≠5∧(s.st==4)=false∧(s.st==5)=false):=by simp;omega
 have q:=B.q 0;have u:=B.u 0
 rcases hcase with ⟨h1,h2⟩|⟨h1,h2,h3⟩|⟨h1,h2,h3,h4⟩
 iterate 2
  · go_wp2_with fail
    clear q u
    generalize hw2:World.setCell _ _ _=w5
    replace B:=(B.s 0).e hw2
    exact XM
 · go_wp2
   exact XM
theorem Q8X {M Q:List Int} (hQ:MOk M) (hL:Ln Q):(mQ M=Q∧Qv M 1 (wd Q:Int)=true∧QL M 1 (wd Q:Int) (wd Q.tail:Int)=M.set 1 (wd Q.tail:Int))∨(mQ M≠Q∧Qv M 1 (wd Q:Int)=false∧QL M 1 (wd Q:Int) (wd Q.tail:Int)=M):=by
 have h1:=Q1I hQ hL
 by_cases e:mQ M=Q
 · rw [decide_eq_true e] at h1
   exact .inl ⟨e,h1,Q7N h1⟩
 · rw [decide_eq_false e] at h1
   exact .inr ⟨e,h1,K4 h1⟩
theorem Q5W (hT:Jp w p pm qm pl pr c t) (hM:Ql w pm qm M n) (hG:Qf w 0 Qc) (hn:n≤1000000000) (hst:t.st=11) (hQ:MOk M) (hLn:Ln t.queue):Zv 189 w p pm qm pl pr c t M n:=by
 have HP:=hid fun w'=>Q6S w' t.queue hLn
 have HC:=hid fun w' h=>UH w' pm qm M n 1 (wd t.queue:Int) (wd t.queue.tail:Int) h hn
 have hcs:=Q8X hQ hLn
 refine XK.of hT hM hG fun S wo sl sst wa us yw ys yep ycl yqu ylook yi yword yo yh yret X he hg HX B=> ?_
 subst he hg
 dsimp only at hst HP HC hcs
 subst hst
 clear hT hM hG hQ hLn
 have q:=B.q 0;have u:=B.u 0
 go_in
 go_wp2_with fail
 clear q u
 generalize hw2:World.setCell _ _ _=w2
 replace B:=(B.s 0).e hw2
 refine rgx [0,2,3,4] B fun _ B=> ?_
 repeat refine tb ?_
 refine to fun K hK=> ?_
 go_simp
 refine (HP.out _).mono ?_
 rintro e w8 ⟨rfl,f⟩
 replace B:=B.tm f
 go_wp2_with fail
 refine bk hK ?_
 clear hK K
 try go_frame
 refine to fun K hK=> ?_
 go_simp
 refine (HC.out _ (B.g 1)).mono ?_
 rintro e w8 ⟨rfl,h,f⟩
 replace B:=B.M h f
 go_wp2_with fail
 refine bk hK ?_
 clear hK K
 try go_frame
 refine wpAnyH_done (by decide+kernel) ?_ _
 rcases hcs with ⟨h1,h2,h3⟩|⟨h1,h2,h3⟩
 · rw [h2]
   rw [h3] at B
   have q:=B.q 0;have u:=B.u 0
   go_wp2_with fail
   clear q u
   generalize hw2:World.setCell _ _ _=w3
   replace B:=(B.s 0).e hw2
   exact XM
 · rw [h2]
   rw [h3] at B
   go_wp2
   exact XM
end
end
end Go.Proofs.YtgjklfmnmljilaaGreatDoor
