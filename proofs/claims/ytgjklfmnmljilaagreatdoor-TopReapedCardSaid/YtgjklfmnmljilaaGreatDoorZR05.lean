/- A part of the proof. -/
import Derived.Test.YtgjklfmnmljilaaGreatDoorZR04
import Derived.Laws.EntriesVeiled
namespace Go.Proofs.YtgjklfmnmljilaaGreatDoor
set_option linter.unusedVariables false
set_option linter.unusedSimpArgs false
set_option linter.unusedSectionVars false
set_option linter.unnecessarySimpa false
set_option maxRecDepth 100000
set_option maxHeartbeats 8000000
section
open Go.RowKit
theorem Z0p {P:Prop} (h:P:=by
 go_wp2_with fail
 refine HE3.out.mono ?_
 rintro en w5 ⟨rfl,h5,f5⟩
 have HE:=Lib.hid (show JH w p pm qm c {s with line:=Q,e:=7} .done M (t+tch M 1) (.returned .nilFunc) w5 from ⟨rfl,h5,HM3.out.fr f5 (by simp;exact Ne.symm HP.out.1) (by simp;exact Ne.symm HP.out.2),HF3.out.trans (f5.mono Lc)⟩)
 clear h5 f5
 go_wp2
 go_ret
 exact HE.out):P:=h
theorem Q4u (w:World) (p pm qm:Nat) (c:Q0) (s:QuS) (M:List Int) (t:Int) (Q:List Int) (h:Jd w p c s) (hM:QJ 112 w pm qm M t) (ht0:0≤t) (ht1:t≤1000000000) (hp:p≠pm∧p≠qm) (hQ:Ln Q) (hl:Q6 M 1=(wd Q:Int)):
 Calls Tryz.prog 234 #[.pointer (some ⟨p,0,none⟩),.pointer (some ⟨pm,0,none⟩)] w
  (JH w p pm qm c (if c.wa≤(Q.length:Int)∨s.w∈Q then {s with line:=Q,e:=7} else {s with line:=Q}) (if c.wa≤(Q.length:Int)∨s.w∈Q then .done else .push) M (t+tch M 1)):=by
 by_cases hfull:c.wa≤(Q.length:Int)
 · rw [if_pos (.inl hfull),if_pos (.inl hfull)]
   have HFD:=Lib.hid (decide_eq_true hfull)
   clear hfull
   have hld:=XG w pm qm M t 1 hM ht0 Lb
   rw [hl] at hld
   have HLD:=Lib.hid hld;have H:=Lib.hid h;have HP:=Lib.hid hp
   clear hld h hM hl
   go_in
   go_wp2_with fail
   refine HLD.out.mono ?_
   rintro en w1 ⟨rfl,hm1,f1⟩
   have h1:=H.out.fr f1 (by simp;exact HP.out)
   have q6:=cell_of (i:=6) h1 rfl
   have z6:=Qb (i:=6) h1
   have h2:=h1.Vb Q
   have HM1:=Lib.hid hm1;have HF1:=Lib.hid f1;have H2:=Lib.hid h2
   have HM2:=Lib.hid (hm1.fr ((Fr.refl [p] w1).setCell (p:=⟨p,6,none⟩) (.inl Lc) (.int .i64 (wd Q:Int))) (by simp;exact Ne.symm HP.out.1) (by simp;exact Ne.symm HP.out.2))
   have HF2:=Lib.hid (((f1.mono (S':=[p,pm,qm]) (by simp+contextual)).setCell (p:=⟨p,6,none⟩) (.inl Lc) (.int .i64 (wd Q:Int))))
   have r6:=cell_of (i:=6) H2.out rfl
   have r5:=cell_of (i:=5) H2.out rfl
   have r3:=cell_of (i:=3) H2.out rfl
   clear h1 hm1 f1 h2
   go_wp2_with fail
   clear q6 z6
   generalize w1.setCell ⟨p,6,none⟩ (.int .i64 (wd Q:Int))=w2 at H2 HM2 HF2 r6 r5 r3 ⊢
   refine wp_region_held_drew (S:=fun w'=>w'.cell? ⟨p,6,none⟩=some (.int .i64 (wd Q:Int))∧w'.cell? ⟨p,5,none⟩=some (.int .i64 s.w)∧w'.cell? ⟨p,3,none⟩=some (.int .i64 c.wa)) (by kernel_rfl) ⟨r6,r5,r3⟩ (fun hHeld=> ?_)
   refine tk 0 ?_
   refine tk 1 ?_
   refine tk 2 ?_
   refine tk 3 ?_
   refine tk 5 ?_
   refine tk 6 ?_
   refine tk 7 ?_
   refine tk 8 ?_
   refine tk 9 ?_
   refine tc 4 (fun K hK=> ?_)
   go_simp
   refine (Q19 w2.drew Q hQ).mono ?_
   rintro en w3 ⟨rfl,f3⟩
   go_wp2_with fail
   refine hK.out _ _ ⟨f3.cell r6 Lc,f3.cell r5 Lc,f3.cell r3 Lc⟩ (fun hHeld=> ?_)
   clear hK K
   try go_frame
   refine tk 10 ?_
   try rw [HFD.out]
   refine tk 11 ?_
   refine tu 12 ?_
   refine tu 13 ?_
   refine tu 14 ?_
   refine tu 15 ?_
   refine tu 16 ?_
   refine tu 17 ?_
   refine tu 18 ?_
   refine tu 19 ?_
   refine tu 20 ?_
   refine tk 21 ?_
   refine wpAnyH_done (by kernel_rfl) ?_ _
   have F3:=(Fr.refl [] w2).drew.trans f3
   have HE3:=Lib.hid (YS w3 p c {s with line:=Q} 7 (H2.out.fr F3 Lc))
   have HM3:=Lib.hid (HM2.out.fr F3 Lc Lc);have HF3:=Lib.hid (HF2.out.trans (F3.mono Lc))
   exact Z0p
 · by_cases hin:s.w∈Q
   · rw [if_pos (.inr hin),if_pos (.inr hin)]
     have HIND:=Lib.hid (decide_eq_true hin)
     have HFD:=Lib.hid (decide_eq_false hfull)
     clear hin hfull
     have hld:=XG w pm qm M t 1 hM ht0 Lb
     rw [hl] at hld
     have HLD:=Lib.hid hld;have H:=Lib.hid h;have HP:=Lib.hid hp
     clear hld h hM hl
     go_in
     go_wp2_with fail
     refine HLD.out.mono ?_
     rintro en w1 ⟨rfl,hm1,f1⟩
     have h1:=H.out.fr f1 (by simp;exact HP.out)
     have q6:=cell_of (i:=6) h1 rfl
     have z6:=Qb (i:=6) h1
     have h2:=h1.Vb Q
     have HM1:=Lib.hid hm1;have HF1:=Lib.hid f1;have H2:=Lib.hid h2
     have HM2:=Lib.hid (hm1.fr ((Fr.refl [p] w1).setCell (p:=⟨p,6,none⟩) (.inl Lc) (.int .i64 (wd Q:Int))) (by simp;exact Ne.symm HP.out.1) (by simp;exact Ne.symm HP.out.2))
     have HF2:=Lib.hid (((f1.mono (S':=[p,pm,qm]) (by simp+contextual)).setCell (p:=⟨p,6,none⟩) (.inl Lc) (.int .i64 (wd Q:Int))))
     have r6:=cell_of (i:=6) H2.out rfl
     have r5:=cell_of (i:=5) H2.out rfl
     have r3:=cell_of (i:=3) H2.out rfl
     clear h1 hm1 f1 h2
     go_wp2_with fail
     clear q6 z6
     generalize w1.setCell ⟨p,6,none⟩ (.int .i64 (wd Q:Int))=w2 at H2 HM2 HF2 r6 r5 r3 ⊢
     refine wp_region_held_drew (S:=fun w'=>w'.cell? ⟨p,6,none⟩=some (.int .i64 (wd Q:Int))∧w'.cell? ⟨p,5,none⟩=some (.int .i64 s.w)∧w'.cell? ⟨p,3,none⟩=some (.int .i64 c.wa)) (by kernel_rfl) ⟨r6,r5,r3⟩ (fun hHeld=> ?_)
     refine tk 0 ?_
     refine tk 1 ?_
     refine tk 2 ?_
     refine tk 3 ?_
     refine tk 5 ?_
     refine tk 6 ?_
     refine tk 7 ?_
     refine tk 8 ?_
     refine tk 9 ?_
     refine tc 4 (fun K hK=> ?_)
     go_simp
     refine (Q19 w2.drew Q hQ).mono ?_
     rintro en w3 ⟨rfl,f3⟩
     go_wp2_with fail
     refine hK.out _ _ ⟨f3.cell r6 Lc,f3.cell r5 Lc,f3.cell r3 Lc⟩ (fun hHeld=> ?_)
     clear hK K
     try go_frame
     refine tk 10 ?_
     try rw [HFD.out]
     refine tk 11 ?_
     refine tk 12 ?_
     refine tk 13 ?_
     refine tk 14 ?_
     refine tk 15 ?_
     refine tk 16 ?_
     refine tk 17 ?_
     refine tk 18 ?_
     refine tk 19 ?_
     refine tc 20 (fun K hK=> ?_)
     go_simp
     refine (Q1d w3 Q s.w hQ).mono ?_
     rintro en w4 ⟨rfl,f4⟩
     rw [HIND.out]
     go_wp2_with fail
     refine hK.out _ _ ⟨f4.cell (f3.cell r6 Lc) Lc,f4.cell (f3.cell r5 Lc) Lc,f4.cell (f3.cell r3 Lc) Lc⟩ (fun hHeld=> ?_)
     clear hK K
     try go_frame
     refine tk 21 ?_
     refine wpAnyH_done (by kernel_rfl) ?_ _
     have F3:=(Fr.refl [] w2).drew.trans f3
     have F4:=F3.trans f4
     have HE3:=Lib.hid (YS w4 p c {s with line:=Q} 7 (H2.out.fr F4 Lc))
     have HM3:=Lib.hid (HM2.out.fr F4 Lc Lc);have HF3:=Lib.hid (HF2.out.trans (F4.mono Lc))
     exact Z0p
   · have hno:¬(c.wa≤(Q.length:Int)∨s.w∈Q):=fun e=>e.elim hfull hin
     rw [if_neg hno,if_neg hno]
     have HIND:=Lib.hid (decide_eq_false hin)
     have HFD:=Lib.hid (decide_eq_false hfull)
     clear hin hno hfull
     have hld:=XG w pm qm M t 1 hM ht0 Lb
     rw [hl] at hld
     have HLD:=Lib.hid hld;have H:=Lib.hid h;have HP:=Lib.hid hp
     clear hld h hM hl
     go_in
     go_wp2_with fail
     refine HLD.out.mono ?_
     rintro en w1 ⟨rfl,hm1,f1⟩
     have h1:=H.out.fr f1 (by simp;exact HP.out)
     have q6:=cell_of (i:=6) h1 rfl
     have z6:=Qb (i:=6) h1
     have h2:=h1.Vb Q
     have HM1:=Lib.hid hm1;have HF1:=Lib.hid f1;have H2:=Lib.hid h2
     have HM2:=Lib.hid (hm1.fr ((Fr.refl [p] w1).setCell (p:=⟨p,6,none⟩) (.inl Lc) (.int .i64 (wd Q:Int))) (by simp;exact Ne.symm HP.out.1) (by simp;exact Ne.symm HP.out.2))
     have HF2:=Lib.hid (((f1.mono (S':=[p,pm,qm]) (by simp+contextual)).setCell (p:=⟨p,6,none⟩) (.inl Lc) (.int .i64 (wd Q:Int))))
     have r6:=cell_of (i:=6) H2.out rfl
     have r5:=cell_of (i:=5) H2.out rfl
     have r3:=cell_of (i:=3) H2.out rfl
     clear h1 hm1 f1 h2
     go_wp2_with fail
     clear q6 z6
     generalize w1.setCell ⟨p,6,none⟩ (.int .i64 (wd Q:Int))=w2 at H2 HM2 HF2 r6 r5 r3 ⊢
     refine wp_region_held_drew (S:=fun w'=>w'.cell? ⟨p,6,none⟩=some (.int .i64 (wd Q:Int))∧w'.cell? ⟨p,5,none⟩=some (.int .i64 s.w)∧w'.cell? ⟨p,3,none⟩=some (.int .i64 c.wa)) (by kernel_rfl) ⟨r6,r5,r3⟩ (fun hHeld=> ?_)
     refine tk 0 ?_
     refine tk 1 ?_
     refine tk 2 ?_
     refine tk 3 ?_
     refine tk 5 ?_
     refine tk 6 ?_
     refine tk 7 ?_
     refine tk 8 ?_
     refine tk 9 ?_
     refine tc 4 (fun K hK=> ?_)
     go_simp
     refine (Q19 w2.drew Q hQ).mono ?_
     rintro en w3 ⟨rfl,f3⟩
     go_wp2_with fail
     refine hK.out _ _ ⟨f3.cell r6 Lc,f3.cell r5 Lc,f3.cell r3 Lc⟩ (fun hHeld=> ?_)
     clear hK K
     try go_frame
     refine tk 10 ?_
     try rw [HFD.out]
     refine tk 11 ?_
     refine tk 12 ?_
     refine tk 13 ?_
     refine tk 14 ?_
     refine tk 15 ?_
     refine tk 16 ?_
     refine tk 17 ?_
     refine tk 18 ?_
     refine tk 19 ?_
     refine tc 20 (fun K hK=> ?_)
     go_simp
     refine (Q1d w3 Q s.w hQ).mono ?_
     rintro en w4 ⟨rfl,f4⟩
     rw [HIND.out]
     go_wp2_with fail
     refine hK.out _ _ ⟨f4.cell (f3.cell r6 Lc) Lc,f4.cell (f3.cell r5 Lc) Lc,f4.cell (f3.cell r3 Lc) Lc⟩ (fun hHeld=> ?_)
     clear hK K
     try go_frame
     refine tk 21 ?_
     refine wpAnyH_done (by kernel_rfl) ?_ _
     have F3:=(Fr.refl [] w2).drew.trans f3
     have F4:=F3.trans f4
     have HE:=Lib.hid (show JH w p pm qm c {s with line:=Q} .push M (t+tch M 1) (.returned (QSt.push.val p)) w4 from ⟨rfl,H2.out.fr F4 Lc,HM2.out.fr F4 Lc Lc,HF2.out.trans (F4.mono Lc)⟩)
     go_wp2
     go_ret
     exact HE.out
theorem Q4t (w:World) (p pm qm:Nat) (c:Q0) (s:QuS) (M:List Int) (t:Int) (Q:List Int) (h:Jd w p c s) (hM:QJ 112 w pm qm M t) (ht0:0≤t) (ht1:t≤1000000000) (hp:p≠pm∧p≠qm) (hQ:Ln Q) (hl:Q6 M 1=(wd Q:Int)):
 Calls Tryz.prog 217 #[.pointer (some ⟨p,0,none⟩),.pointer (some ⟨pm,0,none⟩)] w
  (JH w p pm qm c (if Q=[] then {s with line:=Q,e:=0} else {s with line:=Q,first:=Zc Q}) (if Q=[] then .done else .pop) M (t+tch M 1)):=by
 by_cases hq:Q=[]
 · rw [if_pos hq,if_pos hq]
   have HNE:=Lib.hid (show decide (Q≠[])=false from decide_eq_false (fun e=>e hq))
   clear hq
   have hld:=XG w pm qm M t 1 hM ht0 Lb
   rw [hl] at hld
   have HLD:=Lib.hid hld;have H:=Lib.hid h;have HP:=Lib.hid hp
   clear hld h hM hl
   go_in
   go_wp2_with fail
   refine HLD.out.mono ?_
   rintro en w1 ⟨rfl,hm1,f1⟩
   have h1:=H.out.fr f1 (by simp;exact HP.out)
   have q6:=cell_of (i:=6) h1 rfl
   have z6:=Qb (i:=6) h1
   have h2:=h1.Vb Q
   have HM1:=Lib.hid hm1;have HF1:=Lib.hid f1;have H2:=Lib.hid h2
   have HM2:=Lib.hid (hm1.fr ((Fr.refl [p] w1).setCell (p:=⟨p,6,none⟩) (.inl Lc) (.int .i64 (wd Q:Int))) (by simp;exact Ne.symm HP.out.1) (by simp;exact Ne.symm HP.out.2))
   have HF2:=Lib.hid (((f1.mono (S':=[p,pm,qm]) (by simp+contextual)).setCell (p:=⟨p,6,none⟩) (.inl Lc) (.int .i64 (wd Q:Int))))
   have r6:=cell_of (i:=6) H2.out rfl
   have r5:=cell_of (i:=5) H2.out rfl
   have r3:=cell_of (i:=3) H2.out rfl
   clear h1 hm1 f1 h2
   have hhd:=Q2Q (w1.setCell ⟨p,6,none⟩ (.int .i64 (wd Q:Int))) Q hQ
   unfold DJ at hhd
   rw [HNE.out] at hhd
   have HHD:=Lib.hid hhd
   clear hhd
   go_wp2_with fail
   refine HHD.out.mono ?_
   rintro en w3 ⟨rfl,f3⟩
   have H3:=Lib.hid (H2.out.fr f3 Lc);have HM3:=Lib.hid (HM2.out.fr f3 Lc Lc);have HF3:=Lib.hid (HF2.out.trans (f3.mono Lc))
   clear r6 r5 r3 f3 q6 z6
   have HE3:=Lib.hid (YS w3 p c {s with line:=Q} 0 H3.out)
   go_wp2_with fail
   refine HE3.out.mono ?_
   rintro en w5 ⟨rfl,h5,f5⟩
   have HE:=Lib.hid (show JH w p pm qm c {s with line:=Q,e:=0} .done M (t+tch M 1) (.returned .nilFunc) w5 from ⟨rfl,h5,HM3.out.fr f5 (by simp;exact Ne.symm HP.out.1) (by simp;exact Ne.symm HP.out.2),HF3.out.trans (f5.mono Lc)⟩)
   clear h5 f5
   go_wp2
   go_ret
   exact HE.out
 · rw [if_neg hq,if_neg hq]
   have HNE:=Lib.hid (show decide (Q≠[])=true from decide_eq_true hq)
   clear hq
   have hld:=XG w pm qm M t 1 hM ht0 Lb
   rw [hl] at hld
   have HLD:=Lib.hid hld;have H:=Lib.hid h;have HP:=Lib.hid hp
   clear hld h hM hl
   go_in
   go_wp2_with fail
   refine HLD.out.mono ?_
   rintro en w1 ⟨rfl,hm1,f1⟩
   have h1:=H.out.fr f1 (by simp;exact HP.out)
   have q6:=cell_of (i:=6) h1 rfl
   have z6:=Qb (i:=6) h1
   have h2:=h1.Vb Q
   have HM1:=Lib.hid hm1;have HF1:=Lib.hid f1;have H2:=Lib.hid h2
   have HM2:=Lib.hid (hm1.fr ((Fr.refl [p] w1).setCell (p:=⟨p,6,none⟩) (.inl Lc) (.int .i64 (wd Q:Int))) (by simp;exact Ne.symm HP.out.1) (by simp;exact Ne.symm HP.out.2))
   have HF2:=Lib.hid (((f1.mono (S':=[p,pm,qm]) (by simp+contextual)).setCell (p:=⟨p,6,none⟩) (.inl Lc) (.int .i64 (wd Q:Int))))
   have r6:=cell_of (i:=6) H2.out rfl
   have r5:=cell_of (i:=5) H2.out rfl
   have r3:=cell_of (i:=3) H2.out rfl
   clear h1 hm1 f1 h2
   have hhd:=Q2Q (w1.setCell ⟨p,6,none⟩ (.int .i64 (wd Q:Int))) Q hQ
   unfold DJ at hhd
   rw [HNE.out] at hhd
   have HHD:=Lib.hid hhd
   clear hhd
   go_wp2_with fail
   refine HHD.out.mono ?_
   rintro en w3 ⟨rfl,f3⟩
   have H3:=Lib.hid (H2.out.fr f3 Lc);have HM3:=Lib.hid (HM2.out.fr f3 Lc Lc);have HF3:=Lib.hid (HF2.out.trans (f3.mono Lc))
   clear r6 r5 r3 f3 q6 z6
   have q7:=cell_of (i:=7) H3.out rfl
   have z7:=Qb (i:=7) H3.out
   have HE:=Lib.hid (show JH w p pm qm c {s with line:=Q,first:=Zc Q} .pop M (t+tch M 1) (.returned (QSt.pop.val p)) (w3.setCell ⟨p,7,none⟩ (.int .i64 (Zc Q))) from ⟨rfl,H3.out.Q69 (Zc Q),HM3.out.fr ((Fr.refl [p] w3).setCell (p:=⟨p,7,none⟩) (.inl Lc) _) (by simp;exact Ne.symm HP.out.1) (by simp;exact Ne.symm HP.out.2),HF3.out.setCell (p:=⟨p,7,none⟩) (.inl Lc) _⟩)
   go_wp2
   go_ret
   exact HE.out
def QSt.fn:QSt→Option FuncId
 |.come=>some 234
 |.push=>some 259
 |.closed=>some 269
 |.look=>some 122
 |.drop=>some 198
 |.head=>some 217
 |.pop=>some 251
 |.tell=>some 267
 |.done=>none
theorem QSt.V6 {n:QSt} {f:FuncId} (h:n.fn=some f) (p:Nat):n.val p=.func (.func f) #[.pointer (some ⟨p,0,none⟩)] #[]:=by
 cases n<;>first|(injection h with h;subst h;rfl)|cases h
theorem QSt.XV {n:QSt} (h:n.fn=none) (p:Nat):n.val p=.nilFunc:=by
 cases n<;>first|rfl|cases h
theorem Jl {P:Program} (w:World) {t:TypeId} {ps rs:Array TypeId} {v:Bool} (h:P.underlying t=some (.func ps rs v)) (f:Fn) (a b:Array Value):
 (binOp .neq t (.func f a b) .nilFunc).run P w=.ok (.bool true) w:=by
 have hd:∀d:Nat,(Op.equalIn (d+1) t (.func f a b) .nilFunc).run P w=.ok false w:=fun d=>by simp [Op.equalIn,run_underlying h]
 simp only [binOp]
 simp [Op.equal,Op.maxDepth,hd 9999]
theorem run_eql_nil_nil {P:Program} (w:World) {t:TypeId} {ps rs:Array TypeId} {v:Bool} (h:P.underlying t=some (.func ps rs v)):
 (binOp .eql t .nilFunc .nilFunc).run P w=.ok (.bool true) w:=by
 have hd:∀d:Nat,(Op.equalIn (d+1) t .nilFunc .nilFunc).run P w=.ok true w:=fun d=>by simp [Op.equalIn,run_underlying h]
 simp only [binOp]
 simp [Op.equal,Op.maxDepth,hd 9999]
theorem run_neq_nil_nil {P:Program} (w:World) {t:TypeId} {ps rs:Array TypeId} {v:Bool} (h:P.underlying t=some (.func ps rs v)):
 (binOp .neq t .nilFunc .nilFunc).run P w=.ok (.bool false) w:=by
 have hd:∀d:Nat,(Op.equalIn (d+1) t .nilFunc .nilFunc).run P w=.ok true w:=fun d=>by simp [Op.equalIn,run_underlying h]
 simp only [binOp]
 simp [Op.equal,Op.maxDepth,hd 9999]
def Jv (w:World) (p pm qm:Nat) (c:Q0) (s':QuS) (M':List Int) (t':Int) (en:Ending) (w':World):Prop:=
 en=.returned (.bool s'.nx.fn.isNone)∧Jd w' p c s'∧QJ 112 w' pm qm M' t'∧Fr [p,pm,qm] w w'
theorem Q2f (w:World) (p pm:Nat) (c:Q0) (s:QuS) (h:Jd w p c s) (hn:s.nx.fn=none):
 Calls Tryz.prog 82 #[.pointer (some ⟨p,0,none⟩),.pointer (some ⟨pm,0,none⟩)] w fun en w'=>en=.returned (.bool true)∧w'=w:=by
 have q8:w.cell? ⟨p,8,none⟩=some .nilFunc:=by
  have:=cell_of (i:=8) h rfl
  rw [←QSt.XV hn p]
  exact this
 clear h
 have e1:=fun (wx:World)=>run_neq_nil_nil (P:=Tryz.prog) wx Tryz.underlying178
 have e2:=fun (wx:World)=>run_eql_nil_nil (P:=Tryz.prog) wx Tryz.underlying178
 go_in
 go_wp2
 go_ret
 exact ⟨rfl,rfl⟩
theorem Z01 {P:Prop} (h:P:=by
 have HQ:=Lib.hid (show Jv w p pm qm c {s' with nx:=nx} M' t' (.returned (.bool false)) (w1.setCell ⟨p,8,none⟩ (nx.val p)) from ⟨by show _=Ending.returned (.bool nx.fn.isNone);rw [hf];rfl,HS.out,HM.out,HF.out⟩)
 rw [QSt.V6 hf p] at v8 HQ ⊢
 go_wp2
 go_ret
 exact HQ.out):P:=h
theorem Z02 {P:Prop} (h:P:=by
 have HQ:=Lib.hid (show Jv w p pm qm c {s' with nx:=nx} M' t' (.returned (.bool true)) (w1.setCell ⟨p,8,none⟩ (nx.val p)) from ⟨by show _=Ending.returned (.bool nx.fn.isNone);rw [hf];rfl,HS.out,HM.out,HF.out⟩)
 rw [QSt.XV hf p] at v8 HQ ⊢
 go_wp2
 go_ret
 exact HQ.out):P:=h
theorem Z0r {P:Prop} (h:P:=by
 have:=cell_of (i:=8) h rfl
 rw [hn] at this
 exact this):P:=h
theorem Q2g (w:World) (p pm qm:Nat) (c:Q0) (s s':QuS) (nx:QSt) (M':List Int) (t':Int) (h:Jd w p c s) (hp:p≠pm∧p≠qm) (hn:s.nx=.come)
 (hC:Calls Tryz.prog 234 #[.pointer (some ⟨p,0,none⟩),.pointer (some ⟨pm,0,none⟩)] w (JH w p pm qm c s' nx M' t')):
 Calls Tryz.prog 82 #[.pointer (some ⟨p,0,none⟩),.pointer (some ⟨pm,0,none⟩)] w (Jv w p pm qm c {s' with nx:=nx} M' t'):=by
 have q8:w.cell? ⟨p,8,none⟩=some (.func (.func 234) #[.pointer (some ⟨p,0,none⟩)] #[]):=by
  exact Z0r
 have HC:=Lib.hid hC;have HP:=Lib.hid hp
 clear hC h
 have e1:=fun (wx:World)=>Jl (P:=Tryz.prog) wx Tryz.underlying178 (.func 234) #[.pointer (some ⟨p,0,none⟩)] #[]
 have e2:=fun (wx:World)=>run_eql_nil_nil (P:=Tryz.prog) wx Tryz.underlying178
 have e3:=fun (wx:World) (f':FuncId)=>J8 (P:=Tryz.prog) wx Tryz.underlying178 (.func f') #[.pointer (some ⟨p,0,none⟩)] #[]
 go_in
 go_wp2_with fail
 refine HC.out.mono ?_
 rintro en w1 ⟨rfl,h1,hm1,f1⟩
 have r8:=cell_of (i:=8) h1 rfl
 have z8:=Qb (i:=8) h1
 have hs:=h1.Gw nx
 have HS:=Lib.hid hs
 have HM:=Lib.hid (hm1.fr ((Fr.refl [p] w1).sc p 8 (nx.val p)) (by simp;exact Ne.symm HP.out.1) (by simp;exact Ne.symm HP.out.2))
 have HF:=Lib.hid (f1.sc p 8 (nx.val p))
 have v8:(w1.setCell ⟨p,8,none⟩ (nx.val p)).cell? ⟨p,8,none⟩=some (nx.val p):=cell_of (i:=8) hs rfl
 clear h1 hm1 f1 hs q8
 cases hf:nx.fn with
 |none=>
  exact Z02
 |some f'=>
  exact Z01
theorem Q2b (w:World) (p pm qm:Nat) (c:Q0) (s s':QuS) (nx:QSt) (M':List Int) (t':Int) (h:Jd w p c s) (hp:p≠pm∧p≠qm) (hn:s.nx=.push)
 (hC:Calls Tryz.prog 259 #[.pointer (some ⟨p,0,none⟩),.pointer (some ⟨pm,0,none⟩)] w (JH w p pm qm c s' nx M' t')):
 Calls Tryz.prog 82 #[.pointer (some ⟨p,0,none⟩),.pointer (some ⟨pm,0,none⟩)] w (Jv w p pm qm c {s' with nx:=nx} M' t'):=by
 have q8:w.cell? ⟨p,8,none⟩=some (.func (.func 259) #[.pointer (some ⟨p,0,none⟩)] #[]):=by
  exact Z0r
 have HC:=Lib.hid hC;have HP:=Lib.hid hp
 clear hC h
 have e1:=fun (wx:World)=>Jl (P:=Tryz.prog) wx Tryz.underlying178 (.func 259) #[.pointer (some ⟨p,0,none⟩)] #[]
 have e2:=fun (wx:World)=>run_eql_nil_nil (P:=Tryz.prog) wx Tryz.underlying178
 have e3:=fun (wx:World) (f':FuncId)=>J8 (P:=Tryz.prog) wx Tryz.underlying178 (.func f') #[.pointer (some ⟨p,0,none⟩)] #[]
 go_in
 go_wp2_with fail
 refine HC.out.mono ?_
 rintro en w1 ⟨rfl,h1,hm1,f1⟩
 have r8:=cell_of (i:=8) h1 rfl
 have z8:=Qb (i:=8) h1
 have hs:=h1.Gw nx
 have HS:=Lib.hid hs
 have HM:=Lib.hid (hm1.fr ((Fr.refl [p] w1).sc p 8 (nx.val p)) (by simp;exact Ne.symm HP.out.1) (by simp;exact Ne.symm HP.out.2))
 have HF:=Lib.hid (f1.sc p 8 (nx.val p))
 have v8:(w1.setCell ⟨p,8,none⟩ (nx.val p)).cell? ⟨p,8,none⟩=some (nx.val p):=cell_of (i:=8) hs rfl
 clear h1 hm1 f1 hs q8
 cases hf:nx.fn with
 |none=>
  exact Z02
 |some f'=>
  exact Z01
theorem Eu (w:World) (p pm qm:Nat) (c:Q0) (s s':QuS) (nx:QSt) (M':List Int) (t':Int) (h:Jd w p c s) (hp:p≠pm∧p≠qm) (hn:s.nx=.closed)
 (hC:Calls Tryz.prog 269 #[.pointer (some ⟨p,0,none⟩),.pointer (some ⟨pm,0,none⟩)] w (JH w p pm qm c s' nx M' t')):
 Calls Tryz.prog 82 #[.pointer (some ⟨p,0,none⟩),.pointer (some ⟨pm,0,none⟩)] w (Jv w p pm qm c {s' with nx:=nx} M' t'):=by
 have q8:w.cell? ⟨p,8,none⟩=some (.func (.func 269) #[.pointer (some ⟨p,0,none⟩)] #[]):=by
  exact Z0r
 have HC:=Lib.hid hC;have HP:=Lib.hid hp
 clear hC h
 have e1:=fun (wx:World)=>Jl (P:=Tryz.prog) wx Tryz.underlying178 (.func 269) #[.pointer (some ⟨p,0,none⟩)] #[]
 have e2:=fun (wx:World)=>run_eql_nil_nil (P:=Tryz.prog) wx Tryz.underlying178
 have e3:=fun (wx:World) (f':FuncId)=>J8 (P:=Tryz.prog) wx Tryz.underlying178 (.func f') #[.pointer (some ⟨p,0,none⟩)] #[]
 go_in
 go_wp2_with fail
 refine HC.out.mono ?_
 rintro en w1 ⟨rfl,h1,hm1,f1⟩
 have r8:=cell_of (i:=8) h1 rfl
 have z8:=Qb (i:=8) h1
 have hs:=h1.Gw nx
 have HS:=Lib.hid hs
 have HM:=Lib.hid (hm1.fr ((Fr.refl [p] w1).sc p 8 (nx.val p)) (by simp;exact Ne.symm HP.out.1) (by simp;exact Ne.symm HP.out.2))
 have HF:=Lib.hid (f1.sc p 8 (nx.val p))
 have v8:(w1.setCell ⟨p,8,none⟩ (nx.val p)).cell? ⟨p,8,none⟩=some (nx.val p):=cell_of (i:=8) hs rfl
 clear h1 hm1 f1 hs q8
 cases hf:nx.fn with
 |none=>
  exact Z02
 |some f'=>
  exact Z01
theorem Q2c (w:World) (p pm qm:Nat) (c:Q0) (s s':QuS) (nx:QSt) (M':List Int) (t':Int) (h:Jd w p c s) (hp:p≠pm∧p≠qm) (hn:s.nx=.look)
 (hC:Calls Tryz.prog 122 #[.pointer (some ⟨p,0,none⟩),.pointer (some ⟨pm,0,none⟩)] w (JH w p pm qm c s' nx M' t')):
 Calls Tryz.prog 82 #[.pointer (some ⟨p,0,none⟩),.pointer (some ⟨pm,0,none⟩)] w (Jv w p pm qm c {s' with nx:=nx} M' t'):=by
 have q8:w.cell? ⟨p,8,none⟩=some (.func (.func 122) #[.pointer (some ⟨p,0,none⟩)] #[]):=by
  exact Z0r
 have HC:=Lib.hid hC;have HP:=Lib.hid hp
 clear hC h
 have e1:=fun (wx:World)=>Jl (P:=Tryz.prog) wx Tryz.underlying178 (.func 122) #[.pointer (some ⟨p,0,none⟩)] #[]
 have e2:=fun (wx:World)=>run_eql_nil_nil (P:=Tryz.prog) wx Tryz.underlying178
 have e3:=fun (wx:World) (f':FuncId)=>J8 (P:=Tryz.prog) wx Tryz.underlying178 (.func f') #[.pointer (some ⟨p,0,none⟩)] #[]
 go_in
 go_wp2_with fail
 refine HC.out.mono ?_
 rintro en w1 ⟨rfl,h1,hm1,f1⟩
 have r8:=cell_of (i:=8) h1 rfl
 have z8:=Qb (i:=8) h1
 have hs:=h1.Gw nx
 have HS:=Lib.hid hs
 have HM:=Lib.hid (hm1.fr ((Fr.refl [p] w1).sc p 8 (nx.val p)) (by simp;exact Ne.symm HP.out.1) (by simp;exact Ne.symm HP.out.2))
 have HF:=Lib.hid (f1.sc p 8 (nx.val p))
 have v8:(w1.setCell ⟨p,8,none⟩ (nx.val p)).cell? ⟨p,8,none⟩=some (nx.val p):=cell_of (i:=8) hs rfl
 clear h1 hm1 f1 hs q8
 cases hf:nx.fn with
 |none=>
  exact Z02
 |some f'=>
  exact Z01
theorem Q2e (w:World) (p pm qm:Nat) (c:Q0) (s s':QuS) (nx:QSt) (M':List Int) (t':Int) (h:Jd w p c s) (hp:p≠pm∧p≠qm) (hn:s.nx=.drop)
 (hC:Calls Tryz.prog 198 #[.pointer (some ⟨p,0,none⟩),.pointer (some ⟨pm,0,none⟩)] w (JH w p pm qm c s' nx M' t')):
 Calls Tryz.prog 82 #[.pointer (some ⟨p,0,none⟩),.pointer (some ⟨pm,0,none⟩)] w (Jv w p pm qm c {s' with nx:=nx} M' t'):=by
 have q8:w.cell? ⟨p,8,none⟩=some (.func (.func 198) #[.pointer (some ⟨p,0,none⟩)] #[]):=by
  exact Z0r
 have HC:=Lib.hid hC;have HP:=Lib.hid hp
 clear hC h
 have e1:=fun (wx:World)=>Jl (P:=Tryz.prog) wx Tryz.underlying178 (.func 198) #[.pointer (some ⟨p,0,none⟩)] #[]
 have e2:=fun (wx:World)=>run_eql_nil_nil (P:=Tryz.prog) wx Tryz.underlying178
 have e3:=fun (wx:World) (f':FuncId)=>J8 (P:=Tryz.prog) wx Tryz.underlying178 (.func f') #[.pointer (some ⟨p,0,none⟩)] #[]
 go_in
 go_wp2_with fail
 refine HC.out.mono ?_
 rintro en w1 ⟨rfl,h1,hm1,f1⟩
 have r8:=cell_of (i:=8) h1 rfl
 have z8:=Qb (i:=8) h1
 have hs:=h1.Gw nx
 have HS:=Lib.hid hs
 have HM:=Lib.hid (hm1.fr ((Fr.refl [p] w1).sc p 8 (nx.val p)) (by simp;exact Ne.symm HP.out.1) (by simp;exact Ne.symm HP.out.2))
 have HF:=Lib.hid (f1.sc p 8 (nx.val p))
 have v8:(w1.setCell ⟨p,8,none⟩ (nx.val p)).cell? ⟨p,8,none⟩=some (nx.val p):=cell_of (i:=8) hs rfl
 clear h1 hm1 f1 hs q8
 cases hf:nx.fn with
 |none=>
  exact Z02
 |some f'=>
  exact Z01
theorem Q2d (w:World) (p pm qm:Nat) (c:Q0) (s s':QuS) (nx:QSt) (M':List Int) (t':Int) (h:Jd w p c s) (hp:p≠pm∧p≠qm) (hn:s.nx=.head)
 (hC:Calls Tryz.prog 217 #[.pointer (some ⟨p,0,none⟩),.pointer (some ⟨pm,0,none⟩)] w (JH w p pm qm c s' nx M' t')):
 Calls Tryz.prog 82 #[.pointer (some ⟨p,0,none⟩),.pointer (some ⟨pm,0,none⟩)] w (Jv w p pm qm c {s' with nx:=nx} M' t'):=by
 have q8:w.cell? ⟨p,8,none⟩=some (.func (.func 217) #[.pointer (some ⟨p,0,none⟩)] #[]):=by
  exact Z0r
 have HC:=Lib.hid hC;have HP:=Lib.hid hp
 clear hC h
 have e1:=fun (wx:World)=>Jl (P:=Tryz.prog) wx Tryz.underlying178 (.func 217) #[.pointer (some ⟨p,0,none⟩)] #[]
 have e2:=fun (wx:World)=>run_eql_nil_nil (P:=Tryz.prog) wx Tryz.underlying178
 have e3:=fun (wx:World) (f':FuncId)=>J8 (P:=Tryz.prog) wx Tryz.underlying178 (.func f') #[.pointer (some ⟨p,0,none⟩)] #[]
 go_in
 go_wp2_with fail
 refine HC.out.mono ?_
 rintro en w1 ⟨rfl,h1,hm1,f1⟩
 have r8:=cell_of (i:=8) h1 rfl
 have z8:=Qb (i:=8) h1
 have hs:=h1.Gw nx
 have HS:=Lib.hid hs
 have HM:=Lib.hid (hm1.fr ((Fr.refl [p] w1).sc p 8 (nx.val p)) (by simp;exact Ne.symm HP.out.1) (by simp;exact Ne.symm HP.out.2))
 have HF:=Lib.hid (f1.sc p 8 (nx.val p))
 have v8:(w1.setCell ⟨p,8,none⟩ (nx.val p)).cell? ⟨p,8,none⟩=some (nx.val p):=cell_of (i:=8) hs rfl
 clear h1 hm1 f1 hs q8
 cases hf:nx.fn with
 |none=>
  exact Z02
 |some f'=>
  exact Z01
theorem Q4r (w:World) (p pm qm:Nat) (c:Q0) (s s':QuS) (nx:QSt) (M':List Int) (t':Int) (h:Jd w p c s) (hp:p≠pm∧p≠qm) (hn:s.nx=.pop)
 (hC:Calls Tryz.prog 251 #[.pointer (some ⟨p,0,none⟩),.pointer (some ⟨pm,0,none⟩)] w (JH w p pm qm c s' nx M' t')):
 Calls Tryz.prog 82 #[.pointer (some ⟨p,0,none⟩),.pointer (some ⟨pm,0,none⟩)] w (Jv w p pm qm c {s' with nx:=nx} M' t'):=by
 have q8:w.cell? ⟨p,8,none⟩=some (.func (.func 251) #[.pointer (some ⟨p,0,none⟩)] #[]):=by
  exact Z0r
 have HC:=Lib.hid hC;have HP:=Lib.hid hp
 clear hC h
 have e1:=fun (wx:World)=>Jl (P:=Tryz.prog) wx Tryz.underlying178 (.func 251) #[.pointer (some ⟨p,0,none⟩)] #[]
 have e2:=fun (wx:World)=>run_eql_nil_nil (P:=Tryz.prog) wx Tryz.underlying178
 have e3:=fun (wx:World) (f':FuncId)=>J8 (P:=Tryz.prog) wx Tryz.underlying178 (.func f') #[.pointer (some ⟨p,0,none⟩)] #[]
 go_in
 go_wp2_with fail
 refine HC.out.mono ?_
 rintro en w1 ⟨rfl,h1,hm1,f1⟩
 have r8:=cell_of (i:=8) h1 rfl
 have z8:=Qb (i:=8) h1
 have hs:=h1.Gw nx
 have HS:=Lib.hid hs
 have HM:=Lib.hid (hm1.fr ((Fr.refl [p] w1).sc p 8 (nx.val p)) (by simp;exact Ne.symm HP.out.1) (by simp;exact Ne.symm HP.out.2))
 have HF:=Lib.hid (f1.sc p 8 (nx.val p))
 have v8:(w1.setCell ⟨p,8,none⟩ (nx.val p)).cell? ⟨p,8,none⟩=some (nx.val p):=cell_of (i:=8) hs rfl
 clear h1 hm1 f1 hs q8
 cases hf:nx.fn with
 |none=>
  exact Z02
 |some f'=>
  exact Z01
theorem Q2a (w:World) (p pm qm:Nat) (c:Q0) (s s':QuS) (nx:QSt) (M':List Int) (t':Int) (h:Jd w p c s) (hp:p≠pm∧p≠qm) (hn:s.nx=.tell)
 (hC:Calls Tryz.prog 267 #[.pointer (some ⟨p,0,none⟩),.pointer (some ⟨pm,0,none⟩)] w (JH w p pm qm c s' nx M' t')):
 Calls Tryz.prog 82 #[.pointer (some ⟨p,0,none⟩),.pointer (some ⟨pm,0,none⟩)] w (Jv w p pm qm c {s' with nx:=nx} M' t'):=by
 have q8:w.cell? ⟨p,8,none⟩=some (.func (.func 267) #[.pointer (some ⟨p,0,none⟩)] #[]):=by
  exact Z0r
 have HC:=Lib.hid hC;have HP:=Lib.hid hp
 clear hC h
 have e1:=fun (wx:World)=>Jl (P:=Tryz.prog) wx Tryz.underlying178 (.func 267) #[.pointer (some ⟨p,0,none⟩)] #[]
 have e2:=fun (wx:World)=>run_eql_nil_nil (P:=Tryz.prog) wx Tryz.underlying178
 have e3:=fun (wx:World) (f':FuncId)=>J8 (P:=Tryz.prog) wx Tryz.underlying178 (.func f') #[.pointer (some ⟨p,0,none⟩)] #[]
 go_in
 go_wp2_with fail
 refine HC.out.mono ?_
 rintro en w1 ⟨rfl,h1,hm1,f1⟩
 have r8:=cell_of (i:=8) h1 rfl
 have z8:=Qb (i:=8) h1
 have hs:=h1.Gw nx
 have HS:=Lib.hid hs
 have HM:=Lib.hid (hm1.fr ((Fr.refl [p] w1).sc p 8 (nx.val p)) (by simp;exact Ne.symm HP.out.1) (by simp;exact Ne.symm HP.out.2))
 have HF:=Lib.hid (f1.sc p 8 (nx.val p))
 have v8:(w1.setCell ⟨p,8,none⟩ (nx.val p)).cell? ⟨p,8,none⟩=some (nx.val p):=cell_of (i:=8) hs rfl
 clear h1 hm1 f1 hs q8
 cases hf:nx.fn with
 |none=>
  exact Z02
 |some f'=>
  exact Z01
theorem X6 (w:World) (p pm qm:Nat) (c:Q0) (s s':QuS) (nx:QSt) (M':List Int) (t':Int) (f:FuncId) (h:Jd w p c s) (hp:p≠pm∧p≠qm) (hn:s.nx.fn=some f)
 (hC:Calls Tryz.prog f #[.pointer (some ⟨p,0,none⟩),.pointer (some ⟨pm,0,none⟩)] w (JH w p pm qm c s' nx M' t')):
 Calls Tryz.prog 82 #[.pointer (some ⟨p,0,none⟩),.pointer (some ⟨pm,0,none⟩)] w (Jv w p pm qm c {s' with nx:=nx} M' t'):=by
 cases hx:s.nx with
 |come=>rw [hx] at hn;injection hn with hn;subst hn;exact Q2g w p pm qm c s s' nx M' t' h hp hx hC
 |push=>rw [hx] at hn;injection hn with hn;subst hn;exact Q2b w p pm qm c s s' nx M' t' h hp hx hC
 |closed=>rw [hx] at hn;injection hn with hn;subst hn;exact Eu w p pm qm c s s' nx M' t' h hp hx hC
 |look=>rw [hx] at hn;injection hn with hn;subst hn;exact Q2c w p pm qm c s s' nx M' t' h hp hx hC
 |drop=>rw [hx] at hn;injection hn with hn;subst hn;exact Q2e w p pm qm c s s' nx M' t' h hp hx hC
 |head=>rw [hx] at hn;injection hn with hn;subst hn;exact Q2d w p pm qm c s s' nx M' t' h hp hx hC
 |pop=>rw [hx] at hn;injection hn with hn;subst hn;exact Q4r w p pm qm c s s' nx M' t' h hp hx hC
 |tell=>rw [hx] at hn;injection hn with hn;subst hn;exact Q2a w p pm qm c s s' nx M' t' h hp hx hC
 |done=>rw [hx] at hn;cases hn
theorem Ya {w:World} {o:Obj} {b:Nat} (h:b=w.heap.size):(w.alloc o).heap[b]?=some o:=by subst h;exact heap_alloc_new w o
def QNew (w:World) (c:Q0) (s:QuS) (en:Ending) (w':World):Prop:=∃p,en=.returned (.pointer (some ⟨p,0,none⟩))∧w.heap.size≤p∧Jd w' p c s∧Fr [] w w'
theorem Z0o {P:Prop} (h:P:=by
 have q8:=cell_of (i:=8) hb1 rfl
 have z8:=Qb (i:=8) hb1
 rw [World.size_alloc] at q8 z8
 clear hb1
 go_in
 go_wp2
 go_ret
 exact ⟨_,rfl,Lb,Ya Lc,((Fr.refl [] w).alloc _).alloc _⟩):P:=h
theorem Q5h (w:World) (c:Q0) (who:Int):Calls Tryz.prog 177 #[c.val,.int .i64 who] w (QNew w c ⟨who,[],0,.come,0,0⟩):=by
 obtain ⟨wo,sl,st,wa,us⟩:=c
 unfold Q0.val
 have hb1:=heap_alloc_new (w.alloc (.cells #[.int .i64 wo,.int .i64 sl,.int .i64 st,.int .i64 wa,.int .i64 us] 30)) (.cells #[.int .i64 wo,.int .i64 sl,.int .i64 st,.int .i64 wa,.int .i64 us,.int .i64 who,.int .i64 0,.int .i64 0,.nilFunc,.int .i64 0,.int .i64 0] 180)
 exact Z0o
theorem Q50 (w:World) (c:Q0) (who:Int):Calls Tryz.prog 86 #[c.val,.int .i64 who] w (QNew w c ⟨who,[],0,.look,4,0⟩):=by
 obtain ⟨wo,sl,st,wa,us⟩:=c
 unfold Q0.val
 have hb1:=heap_alloc_new (w.alloc (.cells #[.int .i64 wo,.int .i64 sl,.int .i64 st,.int .i64 wa,.int .i64 us] 30)) (.cells #[.int .i64 wo,.int .i64 sl,.int .i64 st,.int .i64 wa,.int .i64 us,.int .i64 who,.int .i64 0,.int .i64 0,.nilFunc,.int .i64 4,.int .i64 0] 180)
 exact Z0o
theorem DN (w:World) (c:Q0):Calls Tryz.prog 164 #[c.val] w (QNew w c ⟨0,[],0,.head,0,0⟩):=by
 obtain ⟨wo,sl,st,wa,us⟩:=c
 unfold Q0.val
 have hb1:=heap_alloc_new (w.alloc (.cells #[.int .i64 wo,.int .i64 sl,.int .i64 st,.int .i64 wa,.int .i64 us] 30)) (.cells #[.int .i64 wo,.int .i64 sl,.int .i64 st,.int .i64 wa,.int .i64 us,.int .i64 0,.int .i64 0,.int .i64 0,.nilFunc,.int .i64 0,.int .i64 0] 180)
 exact Z0o
theorem Z0v {P:Prop} (h:P:=by
 refine tk 0 ?_
 refine tk 1 ?_
 refine tk 2 ?_
 refine tk 3 ?_
 refine tk 4 ?_
 refine tk 5 ?_
 refine tk 6 ?_
 refine tk 7 ?_
 refine tk 8 ?_
 refine tk 9 ?_
 refine tk 10 ?_
 refine wpAnyH_done (by kernel_rfl) ?_ _
 go_wp2
 go_ret2
 exact ⟨rfl,(Fr.refl [] w).drew⟩):P:=h
theorem UA (w:World) (p:Nat) (c:Q0) (s:QuS) (h:Jd w p c s):
 Calls Tryz.prog 83 #[.pointer (some ⟨p,0,none⟩)] w fun en w'=>en=.returned (.tuple #[.int .i64 s.e,.bool s.nx.fn.isNone])∧Fr [] w w':=by
 have q10:=cell_of (i:=10) h rfl
 have q8:w.cell? ⟨p,8,none⟩=some (s.nx.val p):=cell_of (i:=8) h rfl
 have e2:=fun (wx:World)=>run_eql_nil_nil (P:=Tryz.prog) wx Tryz.underlying178
 have e3:=fun (wx:World) (f':FuncId)=>J8 (P:=Tryz.prog) wx Tryz.underlying178 (.func f') #[.pointer (some ⟨p,0,none⟩)] #[]
 clear h
 cases hf:s.nx.fn with
 |none=>
  rw [QSt.XV hf p] at q8
  go_in
  go_wp2_with fail
  refine wp_region_held_drew (S:=fun w'=>w'.cell? ⟨p,10,none⟩=some (.int .i64 s.e)∧w'.cell? ⟨p,8,none⟩=some (.nilFunc)) (by kernel_rfl) ⟨q10,q8⟩ (fun hHeld=> ?_)
  exact Z0v
 |some f'=>
  rw [QSt.V6 hf p] at q8
  go_in
  go_wp2_with fail
  refine wp_region_held_drew (S:=fun w'=>w'.cell? ⟨p,10,none⟩=some (.int .i64 s.e)∧w'.cell? ⟨p,8,none⟩=some ((.func (.func f') #[.pointer (some ⟨p,0,none⟩)] #[]))) (by kernel_rfl) ⟨q10,q8⟩ (fun hHeld=> ?_)
  exact Z0v
theorem Q0F (w:World) (p pm qm:Nat) (c:Q0) (s:QuS) (M:List Int) (t:Int) (h:Jd w p c s) (hM:QJ 112 w pm qm M t) (ht0:0≤t) (ht1:t≤1000000000) (hp:p≠pm∧p≠qm) (hL:Ln s.line):
 Calls Tryz.prog 251 #[.pointer (some ⟨p,0,none⟩),.pointer (some ⟨pm,0,none⟩)] w
  (JH w p pm qm c s (if Qx M 1 (wd s.line)=true then .tell else .head) (QI M 1 (wd s.line) (wd s.line.tail:Int)) (t+tch M 1)):=by
 by_cases hcs:Qx M 1 (wd s.line)=true
 · rw [if_pos hcs]
   have HCS:=Lib.hid hcs
   clear hcs
   have q6:=cell_of (i:=6) h rfl
   have H:=Lib.hid h;have HP:=Lib.hid hp;have HM:=Lib.hid hM
   clear h hM hp
   go_in
   go_wp2_with fail
   refine wp_region_held_drew (S:=fun w'=>w'.cell? ⟨p,6,none⟩=some (.int .i64 (wd s.line:Int))) (by kernel_rfl) q6 (fun hHeld=> ?_)
   refine tk 0 ?_
   refine tk 1 ?_
   refine tk 2 ?_
   refine tk 3 ?_
   refine tk 4 ?_
   refine tk 5 ?_
   refine tk 6 ?_
   refine tk 7 ?_
   refine tk 8 ?_
   refine tc 9 (fun K hK=> ?_)
   go_simp
   refine (Q6s w.drew s.line hL).mono ?_
   rintro en w3 ⟨rfl,f3⟩
   have F3:=(Fr.refl [] w).drew.trans f3
   have hcas:=Vm w3 pm qm M t 1 (wd s.line) (wd s.line.tail:Int) (HM.out.fr F3 Lc Lc) ht0 Lb
   rw [HCS.out] at hcas
   have HCAS:=Lib.hid hcas
   clear hcas
   go_wp2_with fail
   refine hK.out _ _ (F3.cell q6 Lc) (fun hHeld=> ?_)
   clear hK K
   try go_frame
   refine tc 10 (fun K hK=> ?_)
   go_simp
   refine (HCAS.out).mono ?_
   rintro en w4 ⟨rfl,hm4,f4⟩
   go_wp2_with fail
   refine hK.out _ _ (f4.cell (F3.cell q6 Lc) (by simp;exact HP.out)) (fun hHeld=> ?_)
   clear hK K
   try go_frame
   refine wpAnyH_done (by kernel_rfl) ?_ _
   have HQ:=Lib.hid (show JH w p pm qm c s .tell _ _ (.returned (QSt.val p .tell)) w4 from ⟨rfl,(H.out.fr F3 Lc).fr f4 (by simp;exact HP.out),hm4,(F3.mono Lc).trans (f4.mono (by simp+contextual))⟩)
   go_wp2
   go_ret
   exact HQ.out
 · rw [if_neg hcs]
   have HCS:=Lib.hid (show Qx M 1 (wd s.line)=false by simpa using hcs)
   clear hcs
   have q6:=cell_of (i:=6) h rfl
   have H:=Lib.hid h;have HP:=Lib.hid hp;have HM:=Lib.hid hM
   clear h hM hp
   go_in
   go_wp2_with fail
   refine wp_region_held_drew (S:=fun w'=>w'.cell? ⟨p,6,none⟩=some (.int .i64 (wd s.line:Int))) (by kernel_rfl) q6 (fun hHeld=> ?_)
   refine tk 0 ?_
   refine tk 1 ?_
   refine tk 2 ?_
   refine tk 3 ?_
   refine tk 4 ?_
   refine tk 5 ?_
   refine tk 6 ?_
   refine tk 7 ?_
   refine tk 8 ?_
   refine tc 9 (fun K hK=> ?_)
   go_simp
   refine (Q6s w.drew s.line hL).mono ?_
   rintro en w3 ⟨rfl,f3⟩
   have F3:=(Fr.refl [] w).drew.trans f3
   have hcas:=Vm w3 pm qm M t 1 (wd s.line) (wd s.line.tail:Int) (HM.out.fr F3 Lc Lc) ht0 Lb
   rw [HCS.out] at hcas
   have HCAS:=Lib.hid hcas
   clear hcas
   go_wp2_with fail
   refine hK.out _ _ (F3.cell q6 Lc) (fun hHeld=> ?_)
   clear hK K
   try go_frame
   refine tc 10 (fun K hK=> ?_)
   go_simp
   refine (HCAS.out).mono ?_
   rintro en w4 ⟨rfl,hm4,f4⟩
   go_wp2_with fail
   refine hK.out _ _ (f4.cell (F3.cell q6 Lc) (by simp;exact HP.out)) (fun hHeld=> ?_)
   clear hK K
   try go_frame
   refine wpAnyH_done (by kernel_rfl) ?_ _
   have HQ:=Lib.hid (show JH w p pm qm c s .head _ _ (.returned (QSt.val p .head)) w4 from ⟨rfl,(H.out.fr F3 Lc).fr f4 (by simp;exact HP.out),hm4,(F3.mono Lc).trans (f4.mono (by simp+contextual))⟩)
   go_wp2
   go_ret
   exact HQ.out
end
end Go.Proofs.YtgjklfmnmljilaaGreatDoor
