/- A part of the proof: TpRt to TpFb. -/
import Derived.Test.YtgjklfmnmljilaaGreatDoorZT03
import Derived.Test.YtgjklfmnmljilaaGreatDoorZT10
import Derived.Test.YtgjklfmnmljilaaGreatDoorZT11
import Derived.Test.YtgjklfmnmljilaaGreatDoorZT13
import Derived.Test.YtgjklfmnmljilaaGreatDoorZT14
import Derived.Maps.Own
namespace Go.Proofs.YtgjklfmnmljilaaGreatDoor
set_option linter.unusedVariables false
set_option linter.unusedSimpArgs false
set_option linter.unusedSectionVars false
set_option linter.unnecessarySimpa false
set_option maxRecDepth 100000
set_option maxHeartbeats 8000000
section
open Go.RowKit Go.Shelf Go.Lib
attribute [local go_sem] Oper.semAt_some
def RSt.fn:RSt→FuncId
 |.swap=>250
 |.look=>266
 |.age=>270
 |.J5=>271
 |.done=>265
def JF (w:World) (p:Nat) (r:J4):Prop:=
 w.heap[p]?=some (.cells #[.int .i64 r.cell,.int .i64 r.word,.int .i64 r.epoch,.func (.func r.st.fn) #[.pointer (some ⟨p,0,none⟩)] #[],.bool r.swapped,.bool r.done] 227 (0,0))
theorem JF.fr {w w':World} {p:Nat} {r:J4} (h:JF w p r) {S:List Nat} (f:Fr S w w') (hp:p∉S):JF w' p r:=f.at h hp
theorem XJ {s:Q8} (h:s.right) (d:Nat) (own more:Int):J6 s.enc d own more=(Qj s d own more).map fun t=>(t,t.enc):=by
 unfold J6;rw [QO h];rfl
def Y2 (w:World) (p pm qm:Nat) (n:Int) (x:J4×List Int) (e:Ending) (w':World):Prop:=
 e=.returned (.bool x.1.done)∧JF w' p x.1∧Ql w' pm qm x.2 (n+1)∧Fr [p,pm,qm] w w'
theorem KS (w:World) (p pm:Nat) (r:J4) (h:JF w p r):Calls Tryz.prog 265 #[.pointer (some ⟨p,0,none⟩),.pointer (some ⟨pm,0,none⟩)] w fun e w'=>e=.returned (.bool true)∧JF w' p r.fin∧Fr [p] w w':=by
 obtain ⟨cell,word,epoch,st,swapped,done⟩:=r
 unfold JF at h
 dsimp only at h
 have q3:=cell_of (i:=3) h rfl;have q5:=cell_of (i:=5) h rfl
 have u3:=Q9 (i:=3) h;have u5:=Q9 (i:=5) h
 have hb:=heap_setCell_same (i:=3) (heap_setCell_same (i:=5) h (.bool true)) (.func (.func 265) #[.pointer (some ⟨p,0,none⟩)] #[])
 simp only [List.setIfInBounds_toArray,List.set_cons_zero,List.set_cons_succ] at hb
 have HB:=hid (show JF _ p (J4.fin ⟨cell,word,epoch,st,swapped,done⟩) from hb)
 have HF:=hid (((Fr.refl [p] w).sc p 5 (.bool true)).setCell (p:=⟨p,3,none⟩) (.inl (by simp)) (.func (.func 265) #[.pointer (some ⟨p,0,none⟩)] #[]))
 clear hb h
 go_in
 go_wp2
 go_ret
 exact ⟨rfl,HB.out,HF.out⟩
theorem Q4F (w:World) (p pm qm:Nat) (r:J4) (M:List Int) (n:Int) (hst:r.st=.look) (hd:r.done=false) (h:JF w p r) (hM:Ql w pm qm M n) (hn:n≤1000000000) (hp:p≠pm∧p≠qm):
 Calls Tryz.prog 266 #[.pointer (some ⟨p,0,none⟩),.pointer (some ⟨pm,0,none⟩)] w (Y2 w p pm qm n (Qn r M)):=by
 obtain ⟨cell,word,epoch,st,swapped,done⟩:=r
 dsimp only at hst hd
 subst hst hd
 have HP:=hid hp
 have HL:=hid (Za w pm qm M n 2 hM hn)
 have HA:=hid h
 unfold Qn
 dsimp only
 generalize Q7 M 2=x at HL ⊢
 clear h hM
 go_in
 go_wp2_with fail
 refine HL.out.mono ?_
 rintro e w1 ⟨rfl,hm1,f1⟩
 have h1:=f1.at HA.out (by simp;exact HP.out)
 have q2:=cell_of (i:=2) h1 rfl;have q3:=cell_of (i:=3) h1 rfl
 have u2:=Q9 (i:=2) h1;have u3:=Q9 (i:=3) h1
 have hb:=heap_setCell_same (i:=3) (heap_setCell_same (i:=2) h1 (.int .i64 x)) (.func (.func 270) #[.pointer (some ⟨p,0,none⟩)] #[])
 simp only [List.setIfInBounds_toArray,List.set_cons_zero,List.set_cons_succ] at hb
 have fs:=((Fr.refl [p] w1).sc p 2 (.int .i64 x)).setCell (p:=⟨p,3,none⟩) (.inl (by simp)) (.func (.func 270) #[.pointer (some ⟨p,0,none⟩)] #[])
 have HR:=hid (show Y2 w p pm qm n (⟨cell,word,x,.age,swapped,false⟩,M) (.returned (.bool false)) _ from ⟨rfl,hb,hm1.fr fs (by simp;exact Ne.symm HP.out.1) (by simp;exact Ne.symm HP.out.2),(f1.mono (S':=[p,pm,qm]) (by simp+contextual)).trans (fs.mono (by simp))⟩)
 clear hb fs h1 hm1 f1
 go_wp2
 go_ret
 exact HR.out
theorem Q4G (w:World) (p pm qm:Nat) (r:J4) (M:List Int) (n:Int) (hst:r.st=.J5) (h:JF w p r) (hM:Ql w pm qm M n) (hn:n≤1000000000) (hp:p≠pm∧p≠qm):
 Calls Tryz.prog 271 #[.pointer (some ⟨p,0,none⟩),.pointer (some ⟨pm,0,none⟩)] w (Y2 w p pm qm n (Qn r M)):=by
 have HP:=hid hp
 have HL:=hid (addN w pm qm M n 2 1 hM hn)
 have HA:=hid h
 have e:Qn r M=(r.fin,Gw M 2 1):=by unfold Qn;rw [hst]
 rw [e]
 clear h hM e
 go_in
 go_wp2_with fail
 refine HL.out.mono ?_
 rintro e w1 ⟨rfl,hm1,f1⟩
 have HE:=hid (KS w1 p pm r (HA.out.fr f1 (by simp;exact HP.out)))
 have HM1:=hid hm1;have F1:=hid f1
 clear hm1 f1
 go_wp2_with fail
 refine HE.out.mono ?_
 rintro e w2 ⟨rfl,hr2,f2⟩
 have HR:=hid (show Y2 w p pm qm n (r.fin,Gw M 2 1) (.returned (.bool true)) w2 from ⟨rfl,hr2,HM1.out.fr f2 (by simp;exact Ne.symm HP.out.1) (by simp;exact Ne.symm HP.out.2),(F1.out.mono (S':=[p,pm,qm]) (by simp+contextual)).trans (f2.mono (by simp))⟩)
 clear hr2 f2
 go_wp2
 go_ret
 exact HR.out
theorem Q4B (w:World) (p pm qm:Nat) (r:J4) (s:Q8) (M:List Int) (n:Int) (hs:s.right) (hw:r.word=s.enc) (hst:r.st=.swap) (hd:r.done=false) (h:JF w p r) (hM:Ql w pm qm M n) (hn:n≤1000000000) (hp:p≠pm∧p≠qm) (hG:Qf w 0 Qc):
 Calls Tryz.prog 250 #[.pointer (some ⟨p,0,none⟩),.pointer (some ⟨pm,0,none⟩)] w (Y2 w p pm qm n (Qn r M)):=by
 have e:Qn r M=match Qj s 11 0 4095 with
  |some t=>if Qv M r.cell r.word then ({r with word:=t.enc,swapped:=true,st:=.look},QL M r.cell r.word t.enc) else (r.fin,M)
  |none=>(r.fin,M):=by
  unfold Qn
  rw [hst,hw,XJ hs]
  cases Qj s 11 0 4095<;>rfl
 rw [e]
 have HA:=hid (Ul w s 11 4095 hs (by omega) hG)
 rw [←hw,show ((11:Nat):Int)=11 from rfl] at HA
 clear hG hs hw e
 generalize Qj s 11 0 4095=co at HA ⊢
 have HP:=hid hp
 have HR0:=hid h
 have HM:=hid hM
 obtain ⟨cell,word,epoch,st,swapped,done⟩:=r
 dsimp only at hst hd
 subst hst hd
 unfold JF at h
 dsimp only [J4.fin] at h HA ⊢
 have q0:=cell_of (i:=0) h rfl;have q1:=cell_of (i:=1) h rfl
 clear h hM
 cases co with
 |none=>
  dsimp only [Q04,Option.isSome] at HA ⊢
  go_in
  go_wp2_with fail
  refine HA.out.mono ?_
  rintro e w1 ⟨rfl,f1⟩
  have y0:=f1.cell q0 (by simp);have y1:=f1.cell q1 (by simp)
  have F1:=hid f1
  clear f1 q0 q1
  go_wp2_with fail
  refine wp_region_held_drew (S:=fun w'=>w'.cell? ⟨p,0,none⟩=some (.int .i64 cell)∧w'.cell? ⟨p,1,none⟩=some (.int .i64 word)) (by kernel_rfl) ⟨y0,y1⟩ (fun hHeld=> ?_)
  refine tk 0 ?_
  refine tk 1 ?_
  refine tk 2 ?_
  refine tu 3 ?_
  refine tu 4 ?_
  refine tu 5 ?_
  refine tu 6 ?_
  refine tu 7 ?_
  refine tu 8 ?_
  refine tu 9 ?_
  refine tu 10 ?_
  refine tu 11 ?_
  refine tu 12 ?_
  refine tu 13 ?_
  refine tu 14 ?_
  refine tk 15 ?_
  refine wpAnyH_done (by kernel_rfl) ?_ _
  have f02:=F1.out.drew
  have HE:=hid (KS _ p pm _ (HR0.out.fr f02 (by simp)))
  have HM2:=hid (HM.out.fr f02 (by simp) (by simp))
  have F2:=hid f02
  clear f02 hHeld y0 y1
  go_wp2_with fail
  refine HE.out.mono ?_
  rintro e w3 ⟨rfl,hr3,f3⟩
  have HX:=hid (show Y2 w p pm qm n (_,M) (.returned (.bool true)) w3 from ⟨rfl,hr3,(HM2.out.fr f3 (by simp;exact Ne.symm HP.out.1) (by simp;exact Ne.symm HP.out.2)).mono (by omega),(F2.out.mono (S':=[p,pm,qm]) (by simp)).trans (f3.mono (by simp))⟩)
  clear hr3 f3
  go_wp2
  go_ret
  exact HX.out
 |some t=>
  dsimp only [Q04,Option.isSome] at HA ⊢
  generalize t.enc=te at HA ⊢
  obtain ⟨cb,hcb⟩:∃cb,Qv M cell word=cb:=⟨_,rfl⟩
  rw [hcb]
  have HCB:=hid hcb
  clear hcb
  cases cb
  · rw [if_neg (by simp)]
    go_in
    go_wp2_with fail
    refine HA.out.mono ?_
    rintro e w1 ⟨rfl,f1⟩
    have y0:=f1.cell q0 (by simp);have y1:=f1.cell q1 (by simp)
    have F1:=hid f1
    have HC:=hid (UH w1.drew pm qm M n cell word te (HM.out.fr f1.drew (by simp) (by simp)) hn)
    rw [HCB.out,K4 HCB.out] at HC
    clear f1 q0 q1
    go_wp2_with fail
    refine wp_region_held_drew (S:=fun w'=>w'.cell? ⟨p,0,none⟩=some (.int .i64 cell)∧w'.cell? ⟨p,1,none⟩=some (.int .i64 word)) (by kernel_rfl) ⟨y0,y1⟩ (fun hHeld=> ?_)
    refine tk 0 ?_
    refine tk 1 ?_
    refine tk 2 ?_
    refine tk 3 ?_
    refine tk 4 ?_
    refine tk 5 ?_
    refine tk 6 ?_
    refine tk 7 ?_
    refine tk 8 ?_
    refine tk 9 ?_
    refine tk 10 ?_
    refine tk 11 ?_
    refine tk 12 ?_
    refine tc 13 (fun K hK=> ?_)
    go_simp
    refine (HC.out).mono ?_
    rintro e w4 ⟨rfl,hm4,f4⟩
    go_wp2_with fail
    refine hK.out _ _ ⟨f4.cell hHeld.1 (by simp;exact HP.out),f4.cell hHeld.2 (by simp;exact HP.out)⟩ (fun hHeld=> ?_)
    clear hK K
    try go_frame
    refine tk 14 ?_
    refine tk 15 ?_
    refine wpAnyH_done (by kernel_rfl) ?_ _
    have f04:=(F1.out.drew.mono (S':=[pm,qm]) (by simp)).trans f4
    have HE:=hid (KS _ p pm _ (HR0.out.fr f04 (by simp;exact HP.out)))
    have F4:=hid f04
    have HM4:=hid hm4
    clear f04 hm4 f4 hHeld y0 y1
    go_wp2_with fail
    refine HE.out.mono ?_
    rintro e w5 ⟨rfl,hr5,f5⟩
    have HX:=hid (show Y2 w p pm qm n (_,M) (.returned (.bool true)) w5 from ⟨rfl,hr5,HM4.out.fr f5 (by simp;exact Ne.symm HP.out.1) (by simp;exact Ne.symm HP.out.2),(F4.out.mono (S':=[p,pm,qm]) (by simp+contextual)).trans (f5.mono (by simp))⟩)
    clear hr5 f5
    go_wp2
    go_ret
    exact HX.out
  · rw [if_pos rfl]
    go_in
    go_wp2_with fail
    refine HA.out.mono ?_
    rintro e w1 ⟨rfl,f1⟩
    have y0:=f1.cell q0 (by simp);have y1:=f1.cell q1 (by simp)
    have F1:=hid f1
    have HC:=hid (UH w1.drew pm qm M n cell word te (HM.out.fr f1.drew (by simp) (by simp)) hn)
    rw [HCB.out] at HC
    clear f1 q0 q1
    go_wp2_with fail
    refine wp_region_held_drew (S:=fun w'=>w'.cell? ⟨p,0,none⟩=some (.int .i64 cell)∧w'.cell? ⟨p,1,none⟩=some (.int .i64 word)) (by kernel_rfl) ⟨y0,y1⟩ (fun hHeld=> ?_)
    refine tk 0 ?_
    refine tk 1 ?_
    refine tk 2 ?_
    refine tk 3 ?_
    refine tk 4 ?_
    refine tk 5 ?_
    refine tk 6 ?_
    refine tk 7 ?_
    refine tk 8 ?_
    refine tk 9 ?_
    refine tk 10 ?_
    refine tk 11 ?_
    refine tk 12 ?_
    refine tc 13 (fun K hK=> ?_)
    go_simp
    refine (HC.out).mono ?_
    rintro e w4 ⟨rfl,hm4,f4⟩
    go_wp2_with fail
    refine hK.out _ _ ⟨f4.cell hHeld.1 (by simp;exact HP.out),f4.cell hHeld.2 (by simp;exact HP.out)⟩ (fun hHeld=> ?_)
    clear hK K
    try go_frame
    refine tk 14 ?_
    refine tk 15 ?_
    refine wpAnyH_done (by kernel_rfl) ?_ _
    have f04:=(F1.out.drew.mono (S':=[pm,qm]) (by simp)).trans f4
    have h4:=HR0.out.fr f04 (by simp;exact HP.out)
    unfold JF at h4
    dsimp only at h4
    have z1:=cell_of (i:=1) h4 rfl;have z3:=cell_of (i:=3) h4 rfl;have z4:=cell_of (i:=4) h4 rfl
    have u1:=Q9 (i:=1) h4;have u3:=Q9 (i:=3) h4;have u4:=Q9 (i:=4) h4
    have hb:=heap_setCell_same (i:=3) (heap_setCell_same (i:=4) (heap_setCell_same (i:=1) h4 (.int .i64 te)) (.bool true)) (.func (.func 266) #[.pointer (some ⟨p,0,none⟩)] #[])
    simp only [List.setIfInBounds_toArray,List.set_cons_zero,List.set_cons_succ] at hb
    have fs:=(((Fr.refl [p] w4).sc p 1 (.int .i64 te)).sc p 4 (.bool true)).setCell (p:=⟨p,3,none⟩) (.inl (by simp)) (.func (.func 266) #[.pointer (some ⟨p,0,none⟩)] #[])
    have HX:=hid (show Y2 w p pm qm n (⟨cell,te,epoch,.look,true,false⟩,QL M cell word te) (.returned (.bool false)) _ from ⟨rfl,hb,hm4.fr fs (by simp;exact Ne.symm HP.out.1) (by simp;exact Ne.symm HP.out.2),(f04.mono (S':=[p,pm,qm]) (by simp+contextual)).trans (fs.mono (by simp))⟩)
    clear hb fs h4 hm4 f4 f04 hHeld y0 y1
    go_wp2
    go_ret
    exact HX.out
theorem Q6J (w:World) (p pm qm:Nat) (r:J4) (s:Q8) (M:List Int) (n:Int) (hs:s.right) (hw:r.word=s.enc) (hst:r.st=.age) (hd:r.done=false) (h:JF w p r) (hM:Ql w pm qm M n) (hn:n≤1000000000) (hp:p≠pm∧p≠qm) (hG:Qf w 0 Qc):
 Calls Tryz.prog 270 #[.pointer (some ⟨p,0,none⟩),.pointer (some ⟨pm,0,none⟩)] w (Y2 w p pm qm n (Qn r M)):=by
 have e:Qn r M=({r with st:=.J5},match Qj s 17 0 r.epoch with
  |some t=>QL M r.cell r.word t.enc
  |none=>M):=by
  unfold Qn
  rw [hst]
  dsimp only
  rw [hw,XJ hs]
  cases Qj s 17 0 r.epoch<;>rfl
 rw [e]
 have HA:=hid fun (w':World) (hg:Qf w' 0 Qc)=>Ul w' s 17 r.epoch hs (by omega) hg
 rw [←hw,show ((17:Nat):Int)=17 from rfl] at HA
 have HG:=hid hG
 clear hG hs hw e
 generalize Qj s 17 0 r.epoch=co at HA ⊢
 have HP:=hid hp
 have HR0:=hid h
 have HM:=hid hM
 obtain ⟨cell,word,epoch,st,swapped,done⟩:=r
 dsimp only at hst hd
 subst hst hd
 unfold JF at h
 dsimp only at h HA ⊢
 have y0:=cell_of (i:=0) h rfl;have y1:=cell_of (i:=1) h rfl;have y2:=cell_of (i:=2) h rfl
 clear h hM
 cases co with
 |none=>
  dsimp only [Q04,Option.isSome] at HA ⊢
  go_in
  go_wp2_with fail
  refine wp_region_held_drew (S:=fun w'=>w'.cell? ⟨p,0,none⟩=some (.int .i64 cell)∧w'.cell? ⟨p,1,none⟩=some (.int .i64 word)∧w'.cell? ⟨p,2,none⟩=some (.int .i64 epoch)) (by kernel_rfl) ⟨y0,y1,y2⟩ (fun hHeld=> ?_)
  refine tk 0 ?_
  refine tk 1 ?_
  refine tk 2 ?_
  refine tk 3 ?_
  refine tk 4 ?_
  refine tk 5 ?_
  refine tk 6 ?_
  refine tk 7 ?_
  refine tc 8 (fun K hK=> ?_)
  go_simp
  refine (HA.out _ (HG.out.fr (Fr.refl [] w).drew (by simp))).mono ?_
  rintro e w2 ⟨rfl,f2⟩
  go_wp2_with fail
  refine hK.out _ _ ⟨f2.cell hHeld.1 (by simp),f2.cell hHeld.2.1 (by simp),f2.cell hHeld.2.2 (by simp)⟩ (fun hHeld=> ?_)
  clear hK K
  try go_frame
  refine tk 9 ?_
  refine tk 10 ?_
  refine tk 11 ?_
  refine tk 12 ?_
  refine tk 13 ?_
  refine wpAnyH_done (by kernel_rfl) ?_ _
  have f02:=(Fr.refl [] w).drew.trans f2
  have h4:=HR0.out.fr f02 (by simp)
  have hm4:=(HM.out.fr f02 (by simp) (by simp)).mono (n':=n+1) (by omega)
  have f04:=f02.mono (S':=[p,pm,qm]) (by simp)
  clear f2 f02 hHeld y0 y1 y2
  unfold JF at h4
  dsimp only at h4
  have z3:=cell_of (i:=3) h4 rfl;have u3:=Q9 (i:=3) h4
  have hb:=heap_setCell_same (i:=3) h4 (.func (.func 271) #[.pointer (some ⟨p,0,none⟩)] #[])
  simp only [List.setIfInBounds_toArray,List.set_cons_zero,List.set_cons_succ] at hb
  have fs:=(Fr.refl [p] w2).setCell (p:=⟨p,3,none⟩) (.inl (by simp)) (.func (.func 271) #[.pointer (some ⟨p,0,none⟩)] #[])
  have HX:=hid (show Y2 w p pm qm n (⟨cell,word,epoch,.J5,swapped,false⟩,M) (.returned (.bool false)) _ from ⟨rfl,hb,hm4.fr fs (by simp;exact Ne.symm HP.out.1) (by simp;exact Ne.symm HP.out.2),f04.trans (fs.mono (by simp))⟩)
  clear hb fs h4 hm4 f04
  go_wp2
  go_ret
  exact HX.out
 |some t=>
  dsimp only [Q04,Option.isSome] at HA ⊢
  generalize t.enc=te at HA ⊢
  go_in
  go_wp2_with fail
  refine wp_region_held_drew (S:=fun w'=>w'.cell? ⟨p,0,none⟩=some (.int .i64 cell)∧w'.cell? ⟨p,1,none⟩=some (.int .i64 word)∧w'.cell? ⟨p,2,none⟩=some (.int .i64 epoch)) (by kernel_rfl) ⟨y0,y1,y2⟩ (fun hHeld=> ?_)
  refine tk 0 ?_
  refine tk 1 ?_
  refine tk 2 ?_
  refine tk 3 ?_
  refine tk 4 ?_
  refine tk 5 ?_
  refine tk 6 ?_
  refine tk 7 ?_
  refine tc 8 (fun K hK=> ?_)
  go_simp
  refine (HA.out _ (HG.out.fr (Fr.refl [] w).drew (by simp))).mono ?_
  rintro e w2 ⟨rfl,f2⟩
  go_wp2_with fail
  refine hK.out _ _ ⟨f2.cell hHeld.1 (by simp),f2.cell hHeld.2.1 (by simp),f2.cell hHeld.2.2 (by simp)⟩ (fun hHeld=> ?_)
  clear hK K
  try go_frame
  refine tk 9 ?_
  refine tk 10 ?_
  refine tk 11 ?_
  refine tk 12 ?_
  refine tk 13 ?_
  refine wpAnyH_done (by kernel_rfl) ?_ _
  have f02:=(Fr.refl [] w).drew.trans f2
  have x0:w2.cell? ⟨p,0,none⟩=some (.int .i64 cell):=f02.cell y0 (by simp);have x1:w2.cell? ⟨p,1,none⟩=some (.int .i64 word):=f02.cell y1 (by simp)
  have HC:=hid (UH w2.drew pm qm M n cell word te (HM.out.fr f02.drew (by simp) (by simp)) hn)
  have F2:=hid f02
  clear f2 f02 hHeld y0 y1 y2
  go_wp2_with fail
  refine wp_region_held_drew (S:=fun w'=>w'.cell? ⟨p,0,none⟩=some (.int .i64 cell)∧w'.cell? ⟨p,1,none⟩=some (.int .i64 word)) (by kernel_rfl) ⟨x0,x1⟩ (fun hHeld=> ?_)
  refine tk 0 ?_
  refine tk 1 ?_
  refine tk 2 ?_
  refine tk 3 ?_
  refine tk 4 ?_
  refine tk 5 ?_
  refine tk 6 ?_
  refine tk 7 ?_
  refine tk 8 ?_
  refine tk 9 ?_
  refine tc 10 (fun K hK=> ?_)
  go_simp
  refine (HC.out).mono ?_
  rintro e w4 ⟨rfl,hm4,f4⟩
  go_wp2_with fail
  refine hK.out _ _ ⟨f4.cell hHeld.1 (by simp;exact HP.out),f4.cell hHeld.2 (by simp;exact HP.out)⟩ (fun hHeld=> ?_)
  clear hK K
  try go_frame
  refine wpAnyH_done (by kernel_rfl) ?_ _
  have f04:=(F2.out.drew.mono (S':=[pm,qm]) (by simp)).trans f4
  have h4:=HR0.out.fr f04 (by simp;exact HP.out)
  have f04:=f04.mono (S':=[p,pm,qm]) (by simp+contextual)
  clear f4 hHeld x0 x1
  unfold JF at h4
  dsimp only at h4
  have z3:=cell_of (i:=3) h4 rfl;have u3:=Q9 (i:=3) h4
  have hb:=heap_setCell_same (i:=3) h4 (.func (.func 271) #[.pointer (some ⟨p,0,none⟩)] #[])
  simp only [List.setIfInBounds_toArray,List.set_cons_zero,List.set_cons_succ] at hb
  have fs:=(Fr.refl [p] w4).setCell (p:=⟨p,3,none⟩) (.inl (by simp)) (.func (.func 271) #[.pointer (some ⟨p,0,none⟩)] #[])
  have HX:=hid (show Y2 w p pm qm n (⟨cell,word,epoch,.J5,swapped,false⟩,QL M cell word te) (.returned (.bool false)) _ from ⟨rfl,hb,hm4.fr fs (by simp;exact Ne.symm HP.out.1) (by simp;exact Ne.symm HP.out.2),f04.trans (fs.mono (by simp))⟩)
  clear hb fs h4 hm4 f04
  go_wp2
  go_ret
  exact HX.out
theorem Q4H (s:RSt) (args:Array Value) (w:World):(callFunc s.fn args).run Tryz.prog w=.ok (.enter s.fn args) w:=by
 cases s
 · exact Qr Tryz.func250 (by kernel_rfl) rfl args w
 · exact Qr Tryz.func266 (by kernel_rfl) rfl args w
 · exact Qr Tryz.func270 (by kernel_rfl) rfl args w
 · exact Qr Tryz.func271 (by kernel_rfl) rfl args w
 · exact Qr Tryz.func265 (by kernel_rfl) rfl args w
structure J4.ok (r:J4):Prop where
 word:∃s:Q8,s.right∧r.word=s.enc
 done:r.st≠.done→r.done=false
 fin:r.st=.done→r.done=true
theorem Yh (w:World) (p pm qm:Nat) (r:J4) (M:List Int) (n:Int) (hok:r.ok) (h:JF w p r) (hM:Ql w pm qm M n) (hn:n≤1000000000) (hp:p≠pm∧p≠qm) (hG:Qf w 0 Qc):
 Calls Tryz.prog 161 #[.pointer (some ⟨p,0,none⟩),.pointer (some ⟨pm,0,none⟩)] w (Y2 w p pm qm n (Qn r M)):=by
 have hC:Calls Tryz.prog r.st.fn #[.pointer (some ⟨p,0,none⟩),.pointer (some ⟨pm,0,none⟩)] w (Y2 w p pm qm n (Qn r M)):=by
  obtain ⟨s,hs,hw⟩:=hok.word
  cases hst:r.st with
  |swap=>exact Q4B w p pm qm r s M n hs hw hst (hok.done (by rw [hst];simp)) h hM hn hp hG
  |look=>exact Q4F w p pm qm r M n hst (hok.done (by rw [hst];simp)) h hM hn hp
  |age=>exact Q6J w p pm qm r s M n hs hw hst (hok.done (by rw [hst];simp)) h hM hn hp hG
  |J5=>exact Q4G w p pm qm r M n hst h hM hn hp
  |done=>
   refine (KS w p pm r h).mono ?_
   rintro e w' ⟨rfl,hr,f⟩
   have e:Qn r M=(r.fin,M):=by unfold Qn;rw [hst]
   rw [e]
   exact ⟨rfl,hr,(hM.fr f (by simp;exact Ne.symm hp.1) (by simp;exact Ne.symm hp.2)).mono (by omega),f.mono (by simp)⟩
 have HC:=hid hC
 clear hC
 have hcf:=fun (args:Array Value) (wx:World)=>Q4H r.st args wx
 unfold JF at h
 have q3:=cell_of (i:=3) h rfl
 clear h hM
 generalize Qn r M=x at HC ⊢
 generalize r.st.fn=fn at HC hcf q3
 go_in
 go_wp2_with fail
 refine HC.out.mono ?_
 rintro e w' hx
 have HX:=hid hx
 obtain ⟨rfl, -⟩:=hx
 go_wp2
 go_ret
 exact HX.out
def Q80 (w:World) (r:J4) (e:Ending) (w':World):Prop:=∃p,e=.returned (.pointer (some ⟨p,0,none⟩))∧w.heap.size≤p∧JF w' p r∧Fr [] w w'
theorem KQ (w:World) (c:Q0) (i word:Int) (hc:c.fits):Calls Tryz.prog 214 #[c.val,.int .i64 i,.int .i64 word] w (Q80 w (Ji c i word)):=by
 have HS:=hid fun (w':World)=>J2 w' c i hc
 unfold Ji
 generalize Q5 c i=cell at HS ⊢
 clear hc
 obtain ⟨wo,sl,st,wa,us⟩:=c
 unfold Q0.val at*
 dsimp only at*
 have F1:=hid ((Fr.refl [] w).alloc (.cells #[.int .i64 wo,.int .i64 sl,.int .i64 st,.int .i64 wa,.int .i64 us] 30))
 go_in
 go_wp2_with fail
 refine (HS.out _).mono ?_
 rintro e w2 ⟨rfl,f2⟩
 have F2:=hid (F1.out.trans f2)
 have hs:=F2.out.size
 have hb:=heap_alloc_new w2 (.cells #[.int .i64 cell,.int .i64 word,.int .i64 0,.func (.func 250) #[.pointer (some ⟨w2.heap.size,0,none⟩)] #[],.bool false,.bool false] 227)
 have HX:=hid (show Q80 w ⟨cell,word,0,.swap,false,false⟩ (.returned (.pointer (some ⟨w2.heap.size,0,none⟩))) _ from ⟨_,rfl,hs,hb,F2.out.alloc _⟩)
 clear hb f2
 go_wp2
 go_ret
 exact HX.out
theorem YO (w:World) (p:Nat) (r:J4) (h:JF w p r):Calls Tryz.prog 162 #[.pointer (some ⟨p,0,none⟩)] w fun e w'=>e=.returned (.tuple #[.bool r.swapped,.bool r.done])∧Fr [] w w':=by
 unfold JF at h
 have q4:=cell_of (i:=4) h rfl;have q5:=cell_of (i:=5) h rfl
 clear h
 generalize r.swapped=a at*
 generalize r.done=b at*
 go_in
 go_wp2_with fail
 go_region
 all_goals go_wp2
 all_goals go_ret2
 all_goals exact ⟨rfl,(Fr.refl [] w).drew⟩
theorem beqd (a b:Int):(a==b)=decide (a=b):=by rw [Bool.eq_iff_iff];simp
theorem Q7x {P:Prop} (h:P:=by
 obtain ⟨st,so,str,br,mkd,us,gen,ep,ver⟩:=s
 unfold Q8.val isV
 dsimp only
 have FF:=fun o=>(Fr.refl [] w).alloc o
 go_in
 go_wp2
 all_goals go_ret
 all_goals exact ⟨by simp [beqd],FF _⟩):P:=h
theorem Gm (w:World) (s:Q8):Calls Tryz.prog 168 #[s.val] w fun e w'=>e=.returned (.bool (isV s 2))∧Fr [] w w':=Q7x
theorem UD (w:World) (s:Q8):Calls Tryz.prog 170 #[s.val] w fun e w'=>e=.returned (.bool (isV s 0))∧Fr [] w w':=Q7x
theorem Q7A (w:World) (s:Q8):Calls Tryz.prog 174 #[s.val] w fun e w'=>e=.returned (.bool (isV s 6))∧Fr [] w w':=Q7x
def Vs:Value:=.func (.func 168) #[] #[]
def YI (b3:Nat):Value:=.func (.func 169) #[] #[.pointer (some ⟨b3,0,none⟩)]
def VO:Value:=.func (.func 170) #[] #[]
theorem Kv (w:World) (s:Q8) (b3:Nat) (h3:w.cell? ⟨b3,0,none⟩=some Vs):Calls Tryz.prog 169 #[s.val,.pointer (some ⟨b3,0,none⟩)] w fun e w'=>e=.returned (.bool (JL s))∧Fr [] w w':=by
 have HI:=hid fun w'=>Gm w' s
 unfold isV at HI
 unfold JL
 unfold Vs at h3
 generalize decide (s.st=2)=bb at HI ⊢
 obtain ⟨st,so,str,br,mkd,us,gen,ep,ver⟩:=s
 unfold Q8.val at*
 dsimp only at*
 have ya:=fun o=>(Fr.refl [] w).alloc o
 have y3:=fun o=>(ya o).cell h3 (by simp)
 go_in
 go_wp2_with fail
 clear ya y3
 generalize hb:(World.heap w).size=b,hw:World.alloc w _=w1
 have B:=(Bag.nil [] w).al hw hb
 refine (HI.out _).mono ?_
 rintro e w2 ⟨rfl,f⟩
 replace B:=B.tm f
 have r:=B.q 0
 cases bb<;>cases br
 all_goals
  go_wp2
  go_ret
  exact ⟨by simp,B.fr⟩
theorem Q7z (w:World) (s:Q8) (own:Int) (b1 b3 b4:Nat) (h1:w.cell? ⟨b1,0,none⟩=some (.int .i64 own)) (h3:w.cell? ⟨b3,0,none⟩=some Vs) (h4:w.cell? ⟨b4,0,none⟩=some (YI b3)):
 Calls Tryz.prog 171 #[s.val,.pointer (some ⟨b4,0,none⟩),.pointer (some ⟨b1,0,none⟩)] w fun e w'=>e=.returned (.bool (JL s&&decide (s.own=own)))∧Fr [] w w':=by
 have HI:=hid fun w' h=>Kv w' s b3 h
 generalize JL s=bb at HI ⊢
 unfold YI at h4
 obtain ⟨st,so,str,br,mkd,us,gen,ep,ver⟩:=s
 unfold Q8.val at*
 dsimp only at*
 have ya:=fun o=>(Fr.refl [] w).alloc o
 have y4:=fun o=>(ya o).cell h4 (by simp);have y1:=fun o=>(ya o).cell h1 (by simp)
 go_in
 go_wp2_with fail
 clear ya y4 y1
 generalize hb:(World.heap w).size=b,hw:World.alloc w _=w1
 have B:=(Bag.nil [] w).al hw hb
 refine (HI.out _ (B.fr.cell h3 (by simp))).mono ?_
 rintro e w2 ⟨rfl,f⟩
 replace B:=B.tm f
 have r:=B.q 0;have z:=B.fr.cell h1 (by simp)
 cases bb
 all_goals
  go_wp2
  all_goals go_ret
  all_goals exact ⟨by first|(simp [*];done)|simp [*,beqd],B.fr⟩
theorem Q5t (w:World) (s:Q8) (b3 b4 b5:Nat) (h3:w.cell? ⟨b3,0,none⟩=some Vs) (h4:w.cell? ⟨b4,0,none⟩=some (YI b3)) (h5:w.cell? ⟨b5,0,none⟩=some VO):
 Calls Tryz.prog 172 #[s.val,.pointer (some ⟨b4,0,none⟩),.pointer (some ⟨b5,0,none⟩)] w fun e w'=>e=.returned (.bool (JL s||isV s 0))∧Fr [] w w':=by
 have HI:=hid fun w' h=>Kv w' s b3 h
 have HE:=hid fun w'=>UD w' s
 generalize JL s=bb at HI ⊢
 generalize isV s 0=b0 at HE ⊢
 unfold YI at h4
 unfold VO at h5
 obtain ⟨st,so,str,br,mkd,us,gen,ep,ver⟩:=s
 unfold Q8.val at*
 dsimp only at*
 have ya:=fun o=>(Fr.refl [] w).alloc o
 have y4:=fun o=>(ya o).cell h4 (by simp);have y5:=fun o=>(ya o).cell h5 (by simp)
 go_in
 go_wp2_with fail
 clear ya y4 y5
 generalize hb:(World.heap w).size=b,hw:World.alloc w _=w1
 have B:=(Bag.nil [] w).al hw hb
 refine (HI.out _ (B.fr.cell h3 (by simp))).mono ?_
 rintro e w2 ⟨rfl,f⟩
 replace B:=B.tm f
 have r:=B.q 0;have z:=B.fr.cell h5 (by simp)
 cases bb
 · go_wp2_with fail
   refine (HE.out _).mono ?_
   rintro e w3 ⟨rfl,f⟩
   go_wp2
   go_ret
   exact ⟨by simp,(B.tm f).fr⟩
 · go_wp2
   go_ret
   exact ⟨by simp,B.fr⟩
theorem Q3b (w:World) (s:Q8) (own:Int) (b1 b3:Nat) (h1:w.cell? ⟨b1,0,none⟩=some (.int .i64 own)) (h3:w.cell? ⟨b3,0,none⟩=some Vs):
 Calls Tryz.prog 173 #[s.val,.pointer (some ⟨b3,0,none⟩),.pointer (some ⟨b1,0,none⟩)] w fun e w'=>e=.returned (.bool (if isV s 2 then s.br||decide (own=1)||decide (own=2) else isV s 3&&decide (own=2)))∧Fr [] w w':=by
 have HI:=hid fun w'=>Gm w' s
 rw [show isV s 3=decide (s.st=3) from rfl]
 generalize isV s 2=bb at HI ⊢
 unfold Vs at h3
 obtain ⟨st,so,str,br,mkd,us,gen,ep,ver⟩:=s
 unfold Q8.val at*
 dsimp only at*
 have ya:=fun o=>(Fr.refl [] w).alloc o
 have y3:=fun o=>(ya o).cell h3 (by simp)
 go_in
 go_wp2_with fail
 clear ya y3
 generalize hb:(World.heap w).size=b,hw:World.alloc w _=w1
 have B:=(Bag.nil [] w).al hw hb
 refine (HI.out _).mono ?_
 rintro e w2 ⟨rfl,f⟩
 replace B:=B.tm f
 have r:=B.q 0;have z:=B.fr.cell h1 (by simp)
 cases bb<;>cases br
 all_goals
  go_wp2
  all_goals go_ret
  all_goals exact ⟨by first|(simp [*];done)|simp [*,beqd],B.fr⟩
theorem Uj {P:Program} {t kt vt:TypeId} (ht:P.underlying t=some (.map kt vt)) (hkt:P.underlying kt=some (.int .i64)) (w:World) (b:Nat) (es:Array MapEntry) (clock:Nat) (key:Int) (v:Value)
 (hw:(Lit.int .i64 key).wf=true) (hb:w.heap[b]?=some (.map es clock)) (hnew:Instr.findNow (.int .i64) (.int .i64 key) es.toList 0=some none):
 (Instr.mapUpdate t (.map (some b)) (.int .i64 key) v).run P w=.ok () (ChangeMaps.setBlock w b (.map (es.push {key:=.int .i64 key,val:=v,born:=clock}) (clock+1))):=by
 have hc:(Instr.checkKey false 10000 kt (.int .i64 key)).run P w=.ok () w:=(Maps.int_keyed hkt).check w false (Maps.keyOf_int_mk hkt hw)
 have hf:(Instr.findKey kt (.int .i64 key) es.toList).run P w=.ok none w:=by
  simp [Instr.findKey,run_underlying hkt,hnew]
 simp [Instr.mapUpdate,run_underlying ht,MapKept.run_getObj_map hb,hc,hf,MapKept.run_setObj_map _ hb,Result.andThen,ChangeMaps.setBlock]
theorem K9 {P:Program} {ops:Array Oper} {rest:List Oper} {o:Oper} {a:Act} {Q:Exit→Act→World→Prop} {w:World} (hgd:o.guard=none) (m k x:Operand) (t:TypeId)
 (ho:o.op=.insert t m k x) (kt vt:TypeId) (ht:P.underlying t=some (.map kt vt)) (hkt:P.underlying kt=some (.int .i64)) (b:Nat) (hm:a.eval m=.map (some b)) (key:Int) (hk:a.eval k=.int .i64 key) (v:Value) (hv:a.eval x=v)
 (hw:(Lit.int .i64 key).wf=true) (es:Array MapEntry) (clock:Nat) (hb:w.heap[b]?=some (.map es clock)) (hnew:Instr.findNow (.int .i64) (.int .i64 key) es.toList 0=some none)
 (h:∀w',w'.heap[b]?=some (.map (es.push {key:=.int .i64 key,val:=v,born:=clock}) (clock+1))→Fr [b] w w'→wpList P ops Q rest (a.put o.dst undef) w'):wpList P ops Q (o::rest) a w:=by
 refine wpList_plain hgd fun K' hK'=> ?_
 unfold Oper.wp
 simp [execOp,ho,hm,hk,hv,Uj ht hkt w b es clock key v hw hb hnew,Result.andThen]
 refine hK' _ _ (h _ (ChangeMaps.heap_setBlock_same hb _) ⟨rfl,rfl,rfl,by simp [ChangeMaps.setBlock],fun i _ hi=>ChangeMaps.heap_setBlock_other hb _ (fun e=>hi (by simp [e]))⟩)
theorem Ui {P:Program} {t kt vt:TypeId} (ht:P.underlying t=some (.map kt vt)) (hkt:P.underlying kt=some (.int .i64)) (w:World) (b:Nat) (es:Array MapEntry) (clock:Nat) (key:Int)
 (hw:(Lit.int .i64 key).wf=true) (hb:w.heap[b]?=some (.map es clock)) (i:Nat) (v:Value) (hf:Instr.findNow (.int .i64) (.int .i64 key) es.toList 0=some (some (i,v))) (hne:es.isEmpty=false):
 (Instr.lookup t (.map (some b)) (.int .i64 key) true).run P w=.ok (.tuple #[v,.bool true]) w:=by
 have hc:(Instr.checkKey es.isEmpty 10000 kt (.int .i64 key)).run P w=.ok () w:=(Maps.int_keyed hkt).check w _ (Maps.keyOf_int_mk hkt hw)
 have hf:(Instr.findKey kt (.int .i64 key) es.toList).run P w=.ok (some (i,v)) w:=by
  simp [Instr.findKey,run_underlying hkt,hf]
 simp [Instr.lookup,run_underlying ht,MapKept.run_getObj_map hb,hc,hf,Result.andThen]
def Q7W (b1 b3 b4 b5:Nat):Array MapEntry:=#[⟨.int .i64 0,.func (.func 171) #[] #[.pointer (some ⟨b4,0,none⟩),.pointer (some ⟨b1,0,none⟩)],0⟩,⟨.int .i64 1,YI b3,1⟩,⟨.int .i64 2,VO,2⟩,
 ⟨.int .i64 3,.func (.func 172) #[] #[.pointer (some ⟨b4,0,none⟩),.pointer (some ⟨b5,0,none⟩)],3⟩,⟨.int .i64 4,.func (.func 173) #[] #[.pointer (some ⟨b3,0,none⟩),.pointer (some ⟨b1,0,none⟩)],4⟩,
 ⟨.int .i64 5,.func (.func 174) #[] #[],5⟩,⟨.int .i64 6,Vs,6⟩]
def Q8a (w:World) (own:Int) (e:Ending) (w':World):Prop:=∃b1 b3 b4 b5 bm,e=.returned (.map (some bm))∧w'.heap[bm]?=some (.map (Q7W b1 b3 b4 b5) 7)∧
 w'.cell? ⟨b1,0,none⟩=some (.int .i64 own)∧w'.cell? ⟨b3,0,none⟩=some Vs∧w'.cell? ⟨b4,0,none⟩=some (YI b3)∧w'.cell? ⟨b5,0,none⟩=some VO∧Fr [] w w'
abbrev tMap (b:Nat) (es:Array MapEntry) (k:Nat):Th:=⟨true,[b],fun w=>w.heap[b]?=some (.map es k),fun f h x=>f.at x (h b (by simp))⟩
theorem Q7V (w:World) (own:Int):Calls Tryz.prog 112 #[.int .i64 own] w (Q8a w own):=by
 have hmm:=@run_makeMap Tryz.prog
 have hm0:(((((w.alloc (.cells #[.int .i64 own] 3)).alloc (.cells #[Vs] 97)).alloc (.cells #[YI (w.heap.size+1)] 97)).alloc (.cells #[VO] 97)).alloc (.map #[] 0)).heap[w.heap.size+1+1+1+1]?=some (.map #[] 0):=Y9 (by simp)
 unfold Vs YI VO at hm0
 have HM0:=hid hm0
 clear hm0
 go_in
 go_wp2_with (refine K9 rfl _ _ _ 168 rfl _ _ Tryz.underlying168 Tryz.underlying3 _ rfl _ rfl _ rfl (by decide) _ _ HM0.out rfl ?_)
 intro w9 hm f9
 clear HM0
 revert hm f9
 generalize hw:World.alloc w _=w1,hb:(World.heap w).size=b
 generalize hw2:World.alloc w1 _=w2
 generalize hw3:World.alloc w2 _=w3
 generalize hw4:World.alloc w3 _=w4
 intro hm f9
 have e2:w2.heap.size=b+1+1:=by rw [←hw2,World.size_alloc,←hw,World.size_alloc,hb]
 have e4:w4.heap.size=b+1+1+1+1:=by rw [←hw4,World.size_alloc,←hw3,World.size_alloc,e2]
 have B:=((Bag.nil [] w).al2 hw hb hw2).al2 hw3 e2 hw4
 replace B:=B.nw (T':=tMap (b+1+1+1+1) _ _) hm (((Fr.refl [] w4).alloc (.map #[] 0)).then f9 (fun x hx=>by simp at hx;exact .inr (by omega))) (fun x hx=>by simp at hx;subst hx;exact ⟨by omega,by have:=f9.size;rw [World.size_alloc] at this;omega⟩)
 clear hw hb hw2 hw3 hw4 e2 e4 hm f9
 iterate 6
  (have q3:=B.q 1;have q4:=B.q 2;have q5:=B.q 3
   go_wp2_with (refine K9 rfl _ _ _ 168 rfl _ _ Tryz.underlying168 Tryz.underlying3 _ rfl _ rfl _ rfl (by decide) _ _ (B.g 4) rfl ?_)
   clear q3 q4 q5
   intro w' hm f
   replace B:=B.up 4 (T':=tMap (b+1+1+1+1) _ _) hm f
   clear hm f)
 go_wp2
 go_ret
 exact ⟨b,b+1,b+1+1,b+1+1+1,_,rfl,B.g 4,B.q 0 rfl 0,B.q 1 rfl 0,B.q 2 rfl 0,B.q 3 rfl 0,B.fr⟩
end
end Go.Proofs.YtgjklfmnmljilaaGreatDoor
