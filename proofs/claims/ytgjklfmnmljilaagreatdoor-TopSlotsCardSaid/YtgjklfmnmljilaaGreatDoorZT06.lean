/- A part of the proof: QuBP to QuCP. -/
import Derived.Test.YtgjklfmnmljilaaGreatDoorZT03
import Derived.Test.YtgjklfmnmljilaaGreatDoorZT05
namespace Go.Proofs.YtgjklfmnmljilaaGreatDoor
set_option linter.unusedVariables false
set_option linter.unusedSimpArgs false
set_option linter.unusedSectionVars false
set_option linter.unnecessarySimpa false
set_option maxRecDepth 100000
set_option maxHeartbeats 8000000
section
open Go.RowKit
theorem J9.setWhy {w:World} {p:Nat} {c:Q0} {s:QuS} (h:J9 w p c s) (e:Int):J9 (w.setCell ⟨p,9,none⟩ (.int .i64 e)) p c {s with why:=e}:=by
 have hb:=heap_setCell_same (i:=9) h (.int .i64 e)
 simp only [List.setIfInBounds_toArray,List.set_cons_zero,List.set_cons_succ] at hb
 exact hb
theorem J9.Q6y {w:World} {p:Nat} {c:Q0} {s:QuS} (h:J9 w p c s) (e:Int):J9 (w.setCell ⟨p,7,none⟩ (.int .i64 e)) p c {s with first:=e}:=by
 have hb:=heap_setCell_same (i:=7) h (.int .i64 e)
 simp only [List.setIfInBounds_toArray,List.set_cons_zero,List.set_cons_succ] at hb
 exact hb
theorem J9.GK {w:World} {p:Nat} {c:Q0} {s:QuS} (h:J9 w p c s) (n:QSt):J9 (w.setCell ⟨p,8,none⟩ (n.val p)) p c {s with nx:=n}:=by
 have hb:=heap_setCell_same (i:=8) h (n.val p)
 simp only [List.setIfInBounds_toArray,List.set_cons_zero,List.set_cons_succ] at hb
 exact hb
theorem GQ (w:World) (p pm qm:Nat) (c:Q0) (s:QuS) (M:List Int) (t:Int) (h:J9 w p c s) (hM:QD 112 w pm qm M t) (ht0:0≤t) (ht1:t≤1000000000) (hp:p≠pm∧p≠qm):
 Calls Tryz.prog 269 #[.pointer (some ⟨p,0,none⟩),.pointer (some ⟨pm,0,none⟩)] w
  (JB w p pm qm c (if Q7 M 0=0 then {s with e:=0} else {s with why:=5}) (if Q7 M 0=0 then .done else .look) M (t+tch M 0)):=by
 by_cases h0:Q7 M 0=0
 · rw [if_pos h0,if_pos h0]
   have HLD:=Lib.hid (XF w pm qm M t 0 hM ht0 (by omega))
   have H:=Lib.hid h;have HP:=Lib.hid hp
   clear h hM
   go_in
   go_wp2_with fail
   refine HLD.out.mono ?_
   rintro en w1 ⟨rfl,hm1,f1⟩
   have H1:=Lib.hid (H.out.fr f1 (by simp;exact HP.out))
   have HM1:=Lib.hid hm1;have HF1:=Lib.hid (f1.mono (S':=[p,pm,qm]) (by simp+contextual))
   clear hm1 f1
   have HE:=Lib.hid (YP w1 p c s 0 H1.out)
   rw [h0]
   go_wp2_with fail
   refine HE.out.mono ?_
   rintro en w4 ⟨rfl,h4,f4⟩
   have HQ:=Lib.hid (show JB w p pm qm c {s with e:=0} .done M (t+tch M 0) (.returned .nilFunc) w4 from ⟨rfl,h4,HM1.out.fr f4 (by simp;exact Ne.symm HP.out.1) (by simp;exact Ne.symm HP.out.2),HF1.out.trans (f4.mono (by simp))⟩)
   clear h4 f4
   go_wp2
   go_ret
   exact HQ.out
 · rw [if_neg h0,if_neg h0]
   have HLD:=Lib.hid (XF w pm qm M t 0 hM ht0 (by omega))
   have H:=Lib.hid h;have HP:=Lib.hid hp
   clear h hM
   go_in
   go_wp2_with fail
   refine HLD.out.mono ?_
   rintro en w1 ⟨rfl,hm1,f1⟩
   have H1:=Lib.hid (H.out.fr f1 (by simp;exact HP.out))
   have HM1:=Lib.hid hm1;have HF1:=Lib.hid (f1.mono (S':=[p,pm,qm]) (by simp+contextual))
   clear hm1 f1
   have q9:=cell_of (i:=9) H1.out rfl
   have z9:=Q9 (i:=9) H1.out
   have HQ:=Lib.hid (show JB w p pm qm c {s with why:=5} .look M (t+tch M 0) (.returned (QSt.look.val p)) (w1.setCell ⟨p,9,none⟩ (.int .i64 5)) from ⟨rfl,H1.out.setWhy 5,HM1.out.fr ((Fr.refl [p] w1).setCell (p:=⟨p,9,none⟩) (.inl (by simp)) _) (by simp;exact Ne.symm HP.out.1) (by simp;exact Ne.symm HP.out.2),HF1.out.setCell (p:=⟨p,9,none⟩) (.inl (by simp)) _⟩)
   go_wp2
   go_ret
   exact HQ.out
theorem Dz (w:World) (p pm qm:Nat) (c:Q0) (s:QuS) (M:List Int) (t:Int) (h:J9 w p c s) (hM:QD 112 w pm qm M t) (ht0:0≤t) (ht1:t≤1000000000) (hp:p≠pm∧p≠qm) (hL:Ln s.line):
 Calls Tryz.prog 259 #[.pointer (some ⟨p,0,none⟩),.pointer (some ⟨pm,0,none⟩)] w
  (JB w p pm qm c (if Ln (s.line++[s.w])∧Qv M 1 (wd s.line)=true then s else s) (if Ln (s.line++[s.w])∧Qv M 1 (wd s.line)=true then .closed else .come) (if Ln (s.line++[s.w]) then QL M 1 (wd s.line) (wd (YQ s.line s.w):Int) else M) (if Ln (s.line++[s.w]) then t+tch M 1 else t)):=by
 by_cases hok:Ln (s.line++[s.w])
 · have HOKD:=Lib.hid (show decide (Ln (s.line++[s.w]))=true from decide_eq_true hok)
   by_cases hcs:Qv M 1 (wd s.line)=true
   · rw [if_pos ⟨hok,hcs⟩,if_pos ⟨hok,hcs⟩,if_pos hok,if_pos hok]
     have HCS:=Lib.hid (show Qv M 1 (wd s.line)=true from hcs)
     clear hok hcs
     have q6:=cell_of (i:=6) h rfl
     have q5:=cell_of (i:=5) h rfl
     have HC:=Lib.hid (Q2y w.drew s.line s.w hL)
     have H:=Lib.hid h;have HP:=Lib.hid hp;have HM:=Lib.hid hM
     clear h hM
     go_in
     go_wp2_with fail
     go_region_held3 (fun w'=>w'.cell? ⟨p,6,none⟩=some (.int .i64 (wd s.line:Int))∧w'.cell? ⟨p,5,none⟩=some (.int .i64 s.w)) (first|go_keep|exact ⟨f3.cell q6 (by simp),f3.cell q5 (by simp)⟩)
      (first|(go_at_call 268;refine HC.out.mono ?_;rintro en w3 ⟨rfl,f3⟩;rw [HOKD.out]))
     have F3:=(Fr.refl [] w).drew.trans f3
     have H3:=Lib.hid (H.out.fr F3 (by simp));have HM3:=Lib.hid (HM.out.fr F3 (by simp) (by simp));have HF3:=Lib.hid (F3.mono (S':=[p,pm,qm]) (by simp))
     have r6:=F3.cell q6 (by simp)
     clear q6 q5 f3 F3
     have hcas:=Vj w3 pm qm M t 1 (wd s.line) (wd (YQ s.line s.w):Int) HM3.out ht0 (by omega)
     rw [HCS.out] at hcas
     have HCAS:=Lib.hid hcas
     clear hcas
     go_wp2_with fail
     refine HCAS.out.mono ?_
     rintro en w4 ⟨rfl,hm4,f4⟩
     have H4:=Lib.hid (H3.out.fr f4 (by simp;exact HP.out));have HM4:=Lib.hid hm4;have HF4:=Lib.hid (HF3.out.trans (f4.mono (S':=[p,pm,qm]) (by simp+contextual)))
     clear r6 hm4 f4
     have HQ:=Lib.hid (show JB w p pm qm c s .closed _ _ (.returned (QSt.val p .closed)) w4 from ⟨rfl,H4.out,HM4.out,HF4.out⟩)
     go_wp2
     go_ret
     exact HQ.out
   · rw [if_neg (fun e=>hcs e.2),if_neg (fun e=>hcs e.2),if_pos hok,if_pos hok]
     have HCS:=Lib.hid (show Qv M 1 (wd s.line)=false from (by simpa using hcs))
     clear hok hcs
     have q6:=cell_of (i:=6) h rfl
     have q5:=cell_of (i:=5) h rfl
     have HC:=Lib.hid (Q2y w.drew s.line s.w hL)
     have H:=Lib.hid h;have HP:=Lib.hid hp;have HM:=Lib.hid hM
     clear h hM
     go_in
     go_wp2_with fail
     go_region_held3 (fun w'=>w'.cell? ⟨p,6,none⟩=some (.int .i64 (wd s.line:Int))∧w'.cell? ⟨p,5,none⟩=some (.int .i64 s.w)) (first|go_keep|exact ⟨f3.cell q6 (by simp),f3.cell q5 (by simp)⟩)
      (first|(go_at_call 268;refine HC.out.mono ?_;rintro en w3 ⟨rfl,f3⟩;rw [HOKD.out]))
     have F3:=(Fr.refl [] w).drew.trans f3
     have H3:=Lib.hid (H.out.fr F3 (by simp));have HM3:=Lib.hid (HM.out.fr F3 (by simp) (by simp));have HF3:=Lib.hid (F3.mono (S':=[p,pm,qm]) (by simp))
     have r6:=F3.cell q6 (by simp)
     clear q6 q5 f3 F3
     have hcas:=Vj w3 pm qm M t 1 (wd s.line) (wd (YQ s.line s.w):Int) HM3.out ht0 (by omega)
     rw [HCS.out] at hcas
     have HCAS:=Lib.hid hcas
     clear hcas
     go_wp2_with fail
     refine HCAS.out.mono ?_
     rintro en w4 ⟨rfl,hm4,f4⟩
     have H4:=Lib.hid (H3.out.fr f4 (by simp;exact HP.out));have HM4:=Lib.hid hm4;have HF4:=Lib.hid (HF3.out.trans (f4.mono (S':=[p,pm,qm]) (by simp+contextual)))
     clear r6 hm4 f4
     have HQ:=Lib.hid (show JB w p pm qm c s .come _ _ (.returned (QSt.val p .come)) w4 from ⟨rfl,H4.out,HM4.out,HF4.out⟩)
     go_wp2
     go_ret
     exact HQ.out
 · have HOKD:=Lib.hid (show decide (Ln (s.line++[s.w]))=false from decide_eq_false hok)
   rw [if_neg (fun e=>hok e.1),if_neg (fun e=>hok e.1),if_neg hok,if_neg hok]
   clear hok
   have q6:=cell_of (i:=6) h rfl
   have q5:=cell_of (i:=5) h rfl
   have HC:=Lib.hid (Q2y w.drew s.line s.w hL)
   have H:=Lib.hid h;have HP:=Lib.hid hp;have HM:=Lib.hid hM
   clear h hM
   go_in
   go_wp2_with fail
   go_region_held3 (fun w'=>w'.cell? ⟨p,6,none⟩=some (.int .i64 (wd s.line:Int))∧w'.cell? ⟨p,5,none⟩=some (.int .i64 s.w)) (first|go_keep|exact ⟨f3.cell q6 (by simp),f3.cell q5 (by simp)⟩)
    (first|(go_at_call 268;refine HC.out.mono ?_;rintro en w3 ⟨rfl,f3⟩;rw [HOKD.out]))
   have F3:=(Fr.refl [] w).drew.trans f3
   have H3:=Lib.hid (H.out.fr F3 (by simp));have HM3:=Lib.hid (HM.out.fr F3 (by simp) (by simp));have HF3:=Lib.hid (F3.mono (S':=[p,pm,qm]) (by simp))
   have r6:=F3.cell q6 (by simp)
   clear q6 q5 f3 F3
   have HQ:=Lib.hid (show JB w p pm qm c s .come M t (.returned (QSt.val p .come)) w3 from ⟨rfl,H3.out,HM3.out,HF3.out⟩)
   go_wp2
   go_ret
   exact HQ.out
theorem DC (w:World) (p pm qm:Nat) (c:Q0) (s:QuS) (M:List Int) (t:Int) (h:J9 w p c s) (hM:QD 112 w pm qm M t) (ht0:0≤t) (ht1:t≤1000000000) (hp:p≠pm∧p≠qm) (hL:Ln s.line):
 Calls Tryz.prog 198 #[.pointer (some ⟨p,0,none⟩),.pointer (some ⟨pm,0,none⟩)] w
  (JB w p pm qm c (if s.w∈s.line∧Qv M 1 (wd s.line)=true then {s with e:=s.why} else s) (if s.w∈s.line∧Qv M 1 (wd s.line)=true then .done else .look) (if s.w∈s.line then QL M 1 (wd s.line) (wd (rm s.line s.w):Int) else M) (if s.w∈s.line then t+tch M 1 else t)):=by
 by_cases hok:s.w∈s.line
 · have HOKD:=Lib.hid (show decide (s.w∈s.line)=true from decide_eq_true hok)
   by_cases hcs:Qv M 1 (wd s.line)=true
   · rw [if_pos ⟨hok,hcs⟩,if_pos ⟨hok,hcs⟩,if_pos hok,if_pos hok]
     have HCS:=Lib.hid (show Qv M 1 (wd s.line)=true from hcs)
     clear hok hcs
     have q6:=cell_of (i:=6) h rfl
     have q5:=cell_of (i:=5) h rfl
     have HC:=Lib.hid (Q3d w.drew s.line s.w hL)
     have H:=Lib.hid h;have HP:=Lib.hid hp;have HM:=Lib.hid hM
     clear h hM
     go_in
     go_wp2_with fail
     go_region_held3 (fun w'=>w'.cell? ⟨p,6,none⟩=some (.int .i64 (wd s.line:Int))∧w'.cell? ⟨p,5,none⟩=some (.int .i64 s.w)) (first|go_keep|exact ⟨f3.cell q6 (by simp),f3.cell q5 (by simp)⟩)
      (first|(go_at_call 245;refine HC.out.mono ?_;rintro en w3 ⟨rfl,f3⟩;rw [HOKD.out]))
     have F3:=(Fr.refl [] w).drew.trans f3
     have H3:=Lib.hid (H.out.fr F3 (by simp));have HM3:=Lib.hid (HM.out.fr F3 (by simp) (by simp));have HF3:=Lib.hid (F3.mono (S':=[p,pm,qm]) (by simp))
     have r6:=F3.cell q6 (by simp)
     clear q6 q5 f3 F3
     have hcas:=Vj w3 pm qm M t 1 (wd s.line) (wd (rm s.line s.w):Int) HM3.out ht0 (by omega)
     rw [HCS.out] at hcas
     have HCAS:=Lib.hid hcas
     clear hcas
     go_wp2_with fail
     refine HCAS.out.mono ?_
     rintro en w4 ⟨rfl,hm4,f4⟩
     have H4:=Lib.hid (H3.out.fr f4 (by simp;exact HP.out));have HM4:=Lib.hid hm4;have HF4:=Lib.hid (HF3.out.trans (f4.mono (S':=[p,pm,qm]) (by simp+contextual)))
     clear r6 hm4 f4
     have q9:=cell_of (i:=9) H4.out rfl
     have HE:=Lib.hid (YP w4 p c s s.why H4.out)
     go_wp2_with fail
     refine HE.out.mono ?_
     rintro en w5 ⟨rfl,h5,f5⟩
     have HQ:=Lib.hid (show JB w p pm qm c {s with e:=s.why} .done _ _ (.returned .nilFunc) w5 from ⟨rfl,h5,HM4.out.fr f5 (by simp;exact Ne.symm HP.out.1) (by simp;exact Ne.symm HP.out.2),HF4.out.trans (f5.mono (by simp))⟩)
     clear h5 f5
     go_wp2
     go_ret
     exact HQ.out
   · rw [if_neg (fun e=>hcs e.2),if_neg (fun e=>hcs e.2),if_pos hok,if_pos hok]
     have HCS:=Lib.hid (show Qv M 1 (wd s.line)=false from (by simpa using hcs))
     clear hok hcs
     have q6:=cell_of (i:=6) h rfl
     have q5:=cell_of (i:=5) h rfl
     have HC:=Lib.hid (Q3d w.drew s.line s.w hL)
     have H:=Lib.hid h;have HP:=Lib.hid hp;have HM:=Lib.hid hM
     clear h hM
     go_in
     go_wp2_with fail
     go_region_held3 (fun w'=>w'.cell? ⟨p,6,none⟩=some (.int .i64 (wd s.line:Int))∧w'.cell? ⟨p,5,none⟩=some (.int .i64 s.w)) (first|go_keep|exact ⟨f3.cell q6 (by simp),f3.cell q5 (by simp)⟩)
      (first|(go_at_call 245;refine HC.out.mono ?_;rintro en w3 ⟨rfl,f3⟩;rw [HOKD.out]))
     have F3:=(Fr.refl [] w).drew.trans f3
     have H3:=Lib.hid (H.out.fr F3 (by simp));have HM3:=Lib.hid (HM.out.fr F3 (by simp) (by simp));have HF3:=Lib.hid (F3.mono (S':=[p,pm,qm]) (by simp))
     have r6:=F3.cell q6 (by simp)
     clear q6 q5 f3 F3
     have hcas:=Vj w3 pm qm M t 1 (wd s.line) (wd (rm s.line s.w):Int) HM3.out ht0 (by omega)
     rw [HCS.out] at hcas
     have HCAS:=Lib.hid hcas
     clear hcas
     go_wp2_with fail
     refine HCAS.out.mono ?_
     rintro en w4 ⟨rfl,hm4,f4⟩
     have H4:=Lib.hid (H3.out.fr f4 (by simp;exact HP.out));have HM4:=Lib.hid hm4;have HF4:=Lib.hid (HF3.out.trans (f4.mono (S':=[p,pm,qm]) (by simp+contextual)))
     clear r6 hm4 f4
     have HQ:=Lib.hid (show JB w p pm qm c s .look _ _ (.returned (QSt.val p .look)) w4 from ⟨rfl,H4.out,HM4.out,HF4.out⟩)
     go_wp2
     go_ret
     exact HQ.out
 · have HOKD:=Lib.hid (show decide (s.w∈s.line)=false from decide_eq_false hok)
   rw [if_neg (fun e=>hok e.1),if_neg (fun e=>hok e.1),if_neg hok,if_neg hok]
   clear hok
   have q6:=cell_of (i:=6) h rfl
   have q5:=cell_of (i:=5) h rfl
   have HC:=Lib.hid (Q3d w.drew s.line s.w hL)
   have H:=Lib.hid h;have HP:=Lib.hid hp;have HM:=Lib.hid hM
   clear h hM
   go_in
   go_wp2_with fail
   go_region_held3 (fun w'=>w'.cell? ⟨p,6,none⟩=some (.int .i64 (wd s.line:Int))∧w'.cell? ⟨p,5,none⟩=some (.int .i64 s.w)) (first|go_keep|exact ⟨f3.cell q6 (by simp),f3.cell q5 (by simp)⟩)
    (first|(go_at_call 245;refine HC.out.mono ?_;rintro en w3 ⟨rfl,f3⟩;rw [HOKD.out]))
   have F3:=(Fr.refl [] w).drew.trans f3
   have H3:=Lib.hid (H.out.fr F3 (by simp));have HM3:=Lib.hid (HM.out.fr F3 (by simp) (by simp));have HF3:=Lib.hid (F3.mono (S':=[p,pm,qm]) (by simp))
   have r6:=F3.cell q6 (by simp)
   clear q6 q5 f3 F3
   have HQ:=Lib.hid (show JB w p pm qm c s .look M t (.returned (QSt.val p .look)) w3 from ⟨rfl,H3.out,HM3.out,HF3.out⟩)
   go_wp2
   go_ret
   exact HQ.out
theorem Q4N (w:World) (p pm qm:Nat) (c:Q0) (s:QuS) (M:List Int) (t:Int) (Q:List Int) (h:J9 w p c s) (hM:QD 112 w pm qm M t) (ht0:0≤t) (ht1:t≤1000000000) (hp:p≠pm∧p≠qm) (hQ:Ln Q) (hl:Q7 M 1=(wd Q:Int)):
 Calls Tryz.prog 234 #[.pointer (some ⟨p,0,none⟩),.pointer (some ⟨pm,0,none⟩)] w
  (JB w p pm qm c (if c.wa≤(Q.length:Int)∨s.w∈Q then {s with line:=Q,e:=7} else {s with line:=Q}) (if c.wa≤(Q.length:Int)∨s.w∈Q then .done else .push) M (t+tch M 1)):=by
 by_cases hfull:c.wa≤(Q.length:Int)
 · rw [if_pos (.inl hfull),if_pos (.inl hfull)]
   have HFD:=Lib.hid (decide_eq_true hfull)
   clear hfull
   have hld:=XF w pm qm M t 1 hM ht0 (by omega)
   rw [hl] at hld
   have HLD:=Lib.hid hld;have H:=Lib.hid h;have HP:=Lib.hid hp
   clear hld h hM hl
   go_in
   go_wp2_with fail
   refine HLD.out.mono ?_
   rintro en w1 ⟨rfl,hm1,f1⟩
   have h1:=H.out.fr f1 (by simp;exact HP.out)
   have q6:=cell_of (i:=6) h1 rfl
   have z6:=Q9 (i:=6) h1
   have h2:=h1.V9 Q
   have HM1:=Lib.hid hm1;have HF1:=Lib.hid f1;have H2:=Lib.hid h2
   have HM2:=Lib.hid (hm1.fr ((Fr.refl [p] w1).setCell (p:=⟨p,6,none⟩) (.inl (by simp)) (.int .i64 (wd Q:Int))) (by simp;exact Ne.symm HP.out.1) (by simp;exact Ne.symm HP.out.2))
   have HF2:=Lib.hid (((f1.mono (S':=[p,pm,qm]) (by simp+contextual)).setCell (p:=⟨p,6,none⟩) (.inl (by simp)) (.int .i64 (wd Q:Int))))
   have r6:=cell_of (i:=6) H2.out rfl
   have r5:=cell_of (i:=5) H2.out rfl
   have r3:=cell_of (i:=3) H2.out rfl
   clear h1 hm1 f1 h2
   go_wp2_with fail
   clear q6 z6
   generalize w1.setCell ⟨p,6,none⟩ (.int .i64 (wd Q:Int))=w2 at H2 HM2 HF2 r6 r5 r3 ⊢
   refine wp_region_held_drew (S:=fun w'=>w'.cell? ⟨p,6,none⟩=some (.int .i64 (wd Q:Int))∧w'.cell? ⟨p,5,none⟩=some (.int .i64 s.w)∧w'.cell? ⟨p,3,none⟩=some (.int .i64 c.wa)) (by kernel_rfl) ⟨r6,r5,r3⟩ (fun hHeld=> ?_)
   refine tk 0 ?_
   refine tk 1 ?_
   refine tk 2 ?_
   refine tk 3 ?_
   refine tk 5 ?_
   refine tk 6 ?_
   refine tk 7 ?_
   refine tk 8 ?_
   refine tk 9 ?_
   refine tc 4 (fun K hK=> ?_)
   go_simp
   refine (Q1n w2.drew Q hQ).mono ?_
   rintro en w3 ⟨rfl,f3⟩
   go_wp2_with fail
   refine hK.out _ _ ⟨f3.cell r6 (by simp),f3.cell r5 (by simp),f3.cell r3 (by simp)⟩ (fun hHeld=> ?_)
   clear hK K
   try go_frame
   refine tk 10 ?_
   try rw [HFD.out]
   refine tk 11 ?_
   refine tu 12 ?_
   refine tu 13 ?_
   refine tu 14 ?_
   refine tu 15 ?_
   refine tu 16 ?_
   refine tu 17 ?_
   refine tu 18 ?_
   refine tu 19 ?_
   refine tu 20 ?_
   refine tk 21 ?_
   refine wpAnyH_done (by kernel_rfl) ?_ _
   have F3:=(Fr.refl [] w2).drew.trans f3
   have HE3:=Lib.hid (YP w3 p c {s with line:=Q} 7 (H2.out.fr F3 (by simp)))
   have HM3:=Lib.hid (HM2.out.fr F3 (by simp) (by simp));have HF3:=Lib.hid (HF2.out.trans (F3.mono (by simp)))
   go_wp2_with fail
   refine HE3.out.mono ?_
   rintro en w5 ⟨rfl,h5,f5⟩
   have HE:=Lib.hid (show JB w p pm qm c {s with line:=Q,e:=7} .done M (t+tch M 1) (.returned .nilFunc) w5 from ⟨rfl,h5,HM3.out.fr f5 (by simp;exact Ne.symm HP.out.1) (by simp;exact Ne.symm HP.out.2),HF3.out.trans (f5.mono (by simp))⟩)
   clear h5 f5
   go_wp2
   go_ret
   exact HE.out
 · by_cases hin:s.w∈Q
   · rw [if_pos (.inr hin),if_pos (.inr hin)]
     have HIND:=Lib.hid (decide_eq_true hin)
     have HFD:=Lib.hid (decide_eq_false hfull)
     clear hin hfull
     have hld:=XF w pm qm M t 1 hM ht0 (by omega)
     rw [hl] at hld
     have HLD:=Lib.hid hld;have H:=Lib.hid h;have HP:=Lib.hid hp
     clear hld h hM hl
     go_in
     go_wp2_with fail
     refine HLD.out.mono ?_
     rintro en w1 ⟨rfl,hm1,f1⟩
     have h1:=H.out.fr f1 (by simp;exact HP.out)
     have q6:=cell_of (i:=6) h1 rfl
     have z6:=Q9 (i:=6) h1
     have h2:=h1.V9 Q
     have HM1:=Lib.hid hm1;have HF1:=Lib.hid f1;have H2:=Lib.hid h2
     have HM2:=Lib.hid (hm1.fr ((Fr.refl [p] w1).setCell (p:=⟨p,6,none⟩) (.inl (by simp)) (.int .i64 (wd Q:Int))) (by simp;exact Ne.symm HP.out.1) (by simp;exact Ne.symm HP.out.2))
     have HF2:=Lib.hid (((f1.mono (S':=[p,pm,qm]) (by simp+contextual)).setCell (p:=⟨p,6,none⟩) (.inl (by simp)) (.int .i64 (wd Q:Int))))
     have r6:=cell_of (i:=6) H2.out rfl
     have r5:=cell_of (i:=5) H2.out rfl
     have r3:=cell_of (i:=3) H2.out rfl
     clear h1 hm1 f1 h2
     go_wp2_with fail
     clear q6 z6
     generalize w1.setCell ⟨p,6,none⟩ (.int .i64 (wd Q:Int))=w2 at H2 HM2 HF2 r6 r5 r3 ⊢
     refine wp_region_held_drew (S:=fun w'=>w'.cell? ⟨p,6,none⟩=some (.int .i64 (wd Q:Int))∧w'.cell? ⟨p,5,none⟩=some (.int .i64 s.w)∧w'.cell? ⟨p,3,none⟩=some (.int .i64 c.wa)) (by kernel_rfl) ⟨r6,r5,r3⟩ (fun hHeld=> ?_)
     refine tk 0 ?_
     refine tk 1 ?_
     refine tk 2 ?_
     refine tk 3 ?_
     refine tk 5 ?_
     refine tk 6 ?_
     refine tk 7 ?_
     refine tk 8 ?_
     refine tk 9 ?_
     refine tc 4 (fun K hK=> ?_)
     go_simp
     refine (Q1n w2.drew Q hQ).mono ?_
     rintro en w3 ⟨rfl,f3⟩
     go_wp2_with fail
     refine hK.out _ _ ⟨f3.cell r6 (by simp),f3.cell r5 (by simp),f3.cell r3 (by simp)⟩ (fun hHeld=> ?_)
     clear hK K
     try go_frame
     refine tk 10 ?_
     try rw [HFD.out]
     refine tk 11 ?_
     refine tk 12 ?_
     refine tk 13 ?_
     refine tk 14 ?_
     refine tk 15 ?_
     refine tk 16 ?_
     refine tk 17 ?_
     refine tk 18 ?_
     refine tk 19 ?_
     refine tc 20 (fun K hK=> ?_)
     go_simp
     refine (Q1q w3 Q s.w hQ).mono ?_
     rintro en w4 ⟨rfl,f4⟩
     rw [HIND.out]
     go_wp2_with fail
     refine hK.out _ _ ⟨f4.cell (f3.cell r6 (by simp)) (by simp),f4.cell (f3.cell r5 (by simp)) (by simp),f4.cell (f3.cell r3 (by simp)) (by simp)⟩ (fun hHeld=> ?_)
     clear hK K
     try go_frame
     refine tk 21 ?_
     refine wpAnyH_done (by kernel_rfl) ?_ _
     have F3:=(Fr.refl [] w2).drew.trans f3
     have F4:=F3.trans f4
     have HE3:=Lib.hid (YP w4 p c {s with line:=Q} 7 (H2.out.fr F4 (by simp)))
     have HM3:=Lib.hid (HM2.out.fr F4 (by simp) (by simp));have HF3:=Lib.hid (HF2.out.trans (F4.mono (by simp)))
     go_wp2_with fail
     refine HE3.out.mono ?_
     rintro en w5 ⟨rfl,h5,f5⟩
     have HE:=Lib.hid (show JB w p pm qm c {s with line:=Q,e:=7} .done M (t+tch M 1) (.returned .nilFunc) w5 from ⟨rfl,h5,HM3.out.fr f5 (by simp;exact Ne.symm HP.out.1) (by simp;exact Ne.symm HP.out.2),HF3.out.trans (f5.mono (by simp))⟩)
     clear h5 f5
     go_wp2
     go_ret
     exact HE.out
   · have hno:¬(c.wa≤(Q.length:Int)∨s.w∈Q):=fun e=>e.elim hfull hin
     rw [if_neg hno,if_neg hno]
     have HIND:=Lib.hid (decide_eq_false hin)
     have HFD:=Lib.hid (decide_eq_false hfull)
     clear hin hno hfull
     have hld:=XF w pm qm M t 1 hM ht0 (by omega)
     rw [hl] at hld
     have HLD:=Lib.hid hld;have H:=Lib.hid h;have HP:=Lib.hid hp
     clear hld h hM hl
     go_in
     go_wp2_with fail
     refine HLD.out.mono ?_
     rintro en w1 ⟨rfl,hm1,f1⟩
     have h1:=H.out.fr f1 (by simp;exact HP.out)
     have q6:=cell_of (i:=6) h1 rfl
     have z6:=Q9 (i:=6) h1
     have h2:=h1.V9 Q
     have HM1:=Lib.hid hm1;have HF1:=Lib.hid f1;have H2:=Lib.hid h2
     have HM2:=Lib.hid (hm1.fr ((Fr.refl [p] w1).setCell (p:=⟨p,6,none⟩) (.inl (by simp)) (.int .i64 (wd Q:Int))) (by simp;exact Ne.symm HP.out.1) (by simp;exact Ne.symm HP.out.2))
     have HF2:=Lib.hid (((f1.mono (S':=[p,pm,qm]) (by simp+contextual)).setCell (p:=⟨p,6,none⟩) (.inl (by simp)) (.int .i64 (wd Q:Int))))
     have r6:=cell_of (i:=6) H2.out rfl
     have r5:=cell_of (i:=5) H2.out rfl
     have r3:=cell_of (i:=3) H2.out rfl
     clear h1 hm1 f1 h2
     go_wp2_with fail
     clear q6 z6
     generalize w1.setCell ⟨p,6,none⟩ (.int .i64 (wd Q:Int))=w2 at H2 HM2 HF2 r6 r5 r3 ⊢
     refine wp_region_held_drew (S:=fun w'=>w'.cell? ⟨p,6,none⟩=some (.int .i64 (wd Q:Int))∧w'.cell? ⟨p,5,none⟩=some (.int .i64 s.w)∧w'.cell? ⟨p,3,none⟩=some (.int .i64 c.wa)) (by kernel_rfl) ⟨r6,r5,r3⟩ (fun hHeld=> ?_)
     refine tk 0 ?_
     refine tk 1 ?_
     refine tk 2 ?_
     refine tk 3 ?_
     refine tk 5 ?_
     refine tk 6 ?_
     refine tk 7 ?_
     refine tk 8 ?_
     refine tk 9 ?_
     refine tc 4 (fun K hK=> ?_)
     go_simp
     refine (Q1n w2.drew Q hQ).mono ?_
     rintro en w3 ⟨rfl,f3⟩
     go_wp2_with fail
     refine hK.out _ _ ⟨f3.cell r6 (by simp),f3.cell r5 (by simp),f3.cell r3 (by simp)⟩ (fun hHeld=> ?_)
     clear hK K
     try go_frame
     refine tk 10 ?_
     try rw [HFD.out]
     refine tk 11 ?_
     refine tk 12 ?_
     refine tk 13 ?_
     refine tk 14 ?_
     refine tk 15 ?_
     refine tk 16 ?_
     refine tk 17 ?_
     refine tk 18 ?_
     refine tk 19 ?_
     refine tc 20 (fun K hK=> ?_)
     go_simp
     refine (Q1q w3 Q s.w hQ).mono ?_
     rintro en w4 ⟨rfl,f4⟩
     rw [HIND.out]
     go_wp2_with fail
     refine hK.out _ _ ⟨f4.cell (f3.cell r6 (by simp)) (by simp),f4.cell (f3.cell r5 (by simp)) (by simp),f4.cell (f3.cell r3 (by simp)) (by simp)⟩ (fun hHeld=> ?_)
     clear hK K
     try go_frame
     refine tk 21 ?_
     refine wpAnyH_done (by kernel_rfl) ?_ _
     have F3:=(Fr.refl [] w2).drew.trans f3
     have F4:=F3.trans f4
     have HE:=Lib.hid (show JB w p pm qm c {s with line:=Q} .push M (t+tch M 1) (.returned (QSt.push.val p)) w4 from ⟨rfl,H2.out.fr F4 (by simp),HM2.out.fr F4 (by simp) (by simp),HF2.out.trans (F4.mono (by simp))⟩)
     go_wp2
     go_ret
     exact HE.out
theorem Q4M (w:World) (p pm qm:Nat) (c:Q0) (s:QuS) (M:List Int) (t:Int) (Q:List Int) (h:J9 w p c s) (hM:QD 112 w pm qm M t) (ht0:0≤t) (ht1:t≤1000000000) (hp:p≠pm∧p≠qm) (hQ:Ln Q) (hl:Q7 M 1=(wd Q:Int)):
 Calls Tryz.prog 217 #[.pointer (some ⟨p,0,none⟩),.pointer (some ⟨pm,0,none⟩)] w
  (JB w p pm qm c (if Q=[] then {s with line:=Q,e:=0} else {s with line:=Q,first:=Zc Q}) (if Q=[] then .done else .pop) M (t+tch M 1)):=by
 by_cases hq:Q=[]
 · rw [if_pos hq,if_pos hq]
   have HNE:=Lib.hid (show decide (Q≠[])=false from decide_eq_false (fun e=>e hq))
   clear hq
   have hld:=XF w pm qm M t 1 hM ht0 (by omega)
   rw [hl] at hld
   have HLD:=Lib.hid hld;have H:=Lib.hid h;have HP:=Lib.hid hp
   clear hld h hM hl
   go_in
   go_wp2_with fail
   refine HLD.out.mono ?_
   rintro en w1 ⟨rfl,hm1,f1⟩
   have h1:=H.out.fr f1 (by simp;exact HP.out)
   have q6:=cell_of (i:=6) h1 rfl
   have z6:=Q9 (i:=6) h1
   have h2:=h1.V9 Q
   have HM1:=Lib.hid hm1;have HF1:=Lib.hid f1;have H2:=Lib.hid h2
   have HM2:=Lib.hid (hm1.fr ((Fr.refl [p] w1).setCell (p:=⟨p,6,none⟩) (.inl (by simp)) (.int .i64 (wd Q:Int))) (by simp;exact Ne.symm HP.out.1) (by simp;exact Ne.symm HP.out.2))
   have HF2:=Lib.hid (((f1.mono (S':=[p,pm,qm]) (by simp+contextual)).setCell (p:=⟨p,6,none⟩) (.inl (by simp)) (.int .i64 (wd Q:Int))))
   have r6:=cell_of (i:=6) H2.out rfl
   have r5:=cell_of (i:=5) H2.out rfl
   have r3:=cell_of (i:=3) H2.out rfl
   clear h1 hm1 f1 h2
   have hhd:=Q37 (w1.setCell ⟨p,6,none⟩ (.int .i64 (wd Q:Int))) Q hQ
   unfold DY at hhd
   rw [HNE.out] at hhd
   have HHD:=Lib.hid hhd
   clear hhd
   go_wp2_with fail
   refine HHD.out.mono ?_
   rintro en w3 ⟨rfl,f3⟩
   have H3:=Lib.hid (H2.out.fr f3 (by simp));have HM3:=Lib.hid (HM2.out.fr f3 (by simp) (by simp));have HF3:=Lib.hid (HF2.out.trans (f3.mono (by simp)))
   clear r6 r5 r3 f3 q6 z6
   have HE3:=Lib.hid (YP w3 p c {s with line:=Q} 0 H3.out)
   go_wp2_with fail
   refine HE3.out.mono ?_
   rintro en w5 ⟨rfl,h5,f5⟩
   have HE:=Lib.hid (show JB w p pm qm c {s with line:=Q,e:=0} .done M (t+tch M 1) (.returned .nilFunc) w5 from ⟨rfl,h5,HM3.out.fr f5 (by simp;exact Ne.symm HP.out.1) (by simp;exact Ne.symm HP.out.2),HF3.out.trans (f5.mono (by simp))⟩)
   clear h5 f5
   go_wp2
   go_ret
   exact HE.out
 · rw [if_neg hq,if_neg hq]
   have HNE:=Lib.hid (show decide (Q≠[])=true from decide_eq_true hq)
   clear hq
   have hld:=XF w pm qm M t 1 hM ht0 (by omega)
   rw [hl] at hld
   have HLD:=Lib.hid hld;have H:=Lib.hid h;have HP:=Lib.hid hp
   clear hld h hM hl
   go_in
   go_wp2_with fail
   refine HLD.out.mono ?_
   rintro en w1 ⟨rfl,hm1,f1⟩
   have h1:=H.out.fr f1 (by simp;exact HP.out)
   have q6:=cell_of (i:=6) h1 rfl
   have z6:=Q9 (i:=6) h1
   have h2:=h1.V9 Q
   have HM1:=Lib.hid hm1;have HF1:=Lib.hid f1;have H2:=Lib.hid h2
   have HM2:=Lib.hid (hm1.fr ((Fr.refl [p] w1).setCell (p:=⟨p,6,none⟩) (.inl (by simp)) (.int .i64 (wd Q:Int))) (by simp;exact Ne.symm HP.out.1) (by simp;exact Ne.symm HP.out.2))
   have HF2:=Lib.hid (((f1.mono (S':=[p,pm,qm]) (by simp+contextual)).setCell (p:=⟨p,6,none⟩) (.inl (by simp)) (.int .i64 (wd Q:Int))))
   have r6:=cell_of (i:=6) H2.out rfl
   have r5:=cell_of (i:=5) H2.out rfl
   have r3:=cell_of (i:=3) H2.out rfl
   clear h1 hm1 f1 h2
   have hhd:=Q37 (w1.setCell ⟨p,6,none⟩ (.int .i64 (wd Q:Int))) Q hQ
   unfold DY at hhd
   rw [HNE.out] at hhd
   have HHD:=Lib.hid hhd
   clear hhd
   go_wp2_with fail
   refine HHD.out.mono ?_
   rintro en w3 ⟨rfl,f3⟩
   have H3:=Lib.hid (H2.out.fr f3 (by simp));have HM3:=Lib.hid (HM2.out.fr f3 (by simp) (by simp));have HF3:=Lib.hid (HF2.out.trans (f3.mono (by simp)))
   clear r6 r5 r3 f3 q6 z6
   have q7:=cell_of (i:=7) H3.out rfl
   have z7:=Q9 (i:=7) H3.out
   have HE:=Lib.hid (show JB w p pm qm c {s with line:=Q,first:=Zc Q} .pop M (t+tch M 1) (.returned (QSt.pop.val p)) (w3.setCell ⟨p,7,none⟩ (.int .i64 (Zc Q))) from ⟨rfl,H3.out.Q6y (Zc Q),HM3.out.fr ((Fr.refl [p] w3).setCell (p:=⟨p,7,none⟩) (.inl (by simp)) _) (by simp;exact Ne.symm HP.out.1) (by simp;exact Ne.symm HP.out.2),HF3.out.setCell (p:=⟨p,7,none⟩) (.inl (by simp)) _⟩)
   go_wp2
   go_ret
   exact HE.out
end
end Go.Proofs.YtgjklfmnmljilaaGreatDoor
