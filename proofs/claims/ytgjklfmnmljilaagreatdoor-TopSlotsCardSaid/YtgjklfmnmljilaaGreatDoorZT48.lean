/- A part of the proof: TsJ to TsM. -/
import Derived.Test.YtgjklfmnmljilaaGreatDoorZT03
import Derived.Test.YtgjklfmnmljilaaGreatDoorZT47
import Derived.Deep.CutBlock
namespace Go.Proofs.YtgjklfmnmljilaaGreatDoor
set_option linter.unusedVariables false
set_option linter.unusedSimpArgs false
set_option linter.unusedSectionVars false
set_option linter.unnecessarySimpa false
set_option maxRecDepth 100000
set_option maxHeartbeats 8000000
section
open Go.RowKit Go.Shelf Go.Lib
attribute [local go_sem] Oper.semAt_some
theorem MM.settled {w w':World} {F F':List Nat} {b:Bs} {m R:Qb} {w0:World} {F0:List Nat} {q:Nat} {c:Q0} (H:MM w F b m w0 F0 q c) (A:MAt w' F' b R (2*R.entries)) (f:Fr F w w') (hF:∀x∈F',x∈F∨w.heap.size≤x):MM w' F' b R w0 F0 q c:=by
 obtain ⟨-,g,h1,h2,h3⟩:=H
 have hlt:=Q6 h3
 refine ⟨A,g.then f h1,fun y hy=> ?_,fun hq=> ?_,f.at h3 h2⟩
 · rcases hF y hy with a|a
   · exact h1 y a
   · exact .inr (Nat.le_trans g.size a)
 · rcases hF q hq with a|a
   · exact h2 a
   · omega
theorem Kz:JE.fits:=by unfold Q0.fits JE;decide
def aA:Qb×Bool:=doV (QH JE) ⟨0,0,K8,0,false⟩
def Dq:Qb×Bool:=Y5 2 K6 [] 1000 aA.1 0 0 0
def aB:Qb×Bool:=doV Dq.1 ⟨0,1,{K8 with wait:=true,dl:=9},0,false⟩
def WE:Qb×Bool:=Y5 2 K6 [] 1000 aB.1 0 0 0
def aD:Qb×Bool:=doV WE.1 ⟨0,0,{K8 with op:=2,gen:=1},0,false⟩
def ZT:Qb×Bool:=Y5 2 K6 [] 1000 aD.1 0 0 0
theorem Wq:aA.2=true∧Dq.2=true∧aB.2=true∧WE.2=true∧aD.2=true∧ZT.2=true∧(WE.1.wk 1).st=6∧(ZT.1.wk 1).st=0∧ZT.1.evs.length=6∧(ZT.1.evs.getD 5 ev0).e=0∧ZT.1.entries≤1000:=by
 have h:=Q1M
 unfold Q7U at h
 simp only [Bool.and_eq_true,decide_eq_true_eq] at h
 obtain ⟨⟨⟨⟨⟨⟨⟨⟨⟨⟨h1,h2⟩,h3⟩,h4⟩,h5⟩,h6⟩,h7⟩,h8⟩,h9⟩,h10⟩,h11⟩:=h
 exact ⟨h1,h4,h2,h5,h3,h6,h7,h8,h9,h10,h11⟩
structure JA (J:Qb→Prop):Prop where
 n:J (QH JE)
 s:∀m x,J m→m.entries≤1000→J (doV m x).1
 i:∀m,J m→MInv m.entries m∧0≤m.entries∧m.c=JE
variable {J:Qb→Prop}
theorem Q7T (hJ:JA J):J aA.1∧J Dq.1∧J aB.1∧J WE.1∧J aD.1∧J ZT.1∧(QH JE).entries=0∧aA.1.entries≤1000∧Dq.1.entries≤1000∧aB.1.entries≤1000∧WE.1.entries≤1000∧aD.1.entries≤1000:=by
 have e3:=Wq.2.2.2.2.2.2.2.2.2.2
 have d5:aD.1.entries≤ZT.1.entries:=KM _ _ _ _ _ _ _ _
 have d4:aD.1.entries=WE.1.entries+1:=ZR _ _
 have d3:aB.1.entries≤WE.1.entries:=KM _ _ _ _ _ _ _ _
 have d2:aB.1.entries=Dq.1.entries+1:=ZR _ _
 have d1:aA.1.entries≤Dq.1.entries:=KM _ _ _ _ _ _ _ _
 have K:∀m:Qb,J m→m.entries≤1000→(∀f,(Y5 2 K6 [] f m 0 0 0).1.entries≤1000→J (Y5 2 K6 [] f m 0 0 0).1):=fun m g he f hf=>by
  have:=Q2m (J:=fun m=>m.entries≤1000→J m) 2 K6 [] (by omega) (fun m w hw h he=>by
   have:=ZR m (JY w)
   exact hJ.s m _ (h (by omega)) (by omega)) f m 0 0 0 (fun _=>g)
  exact this hf
 have g0:=hJ.n
 have g1:J aA.1:=hJ.s _ _ g0 (by show (0:Int)≤_;omega)
 have g2:J Dq.1:=K _ g1 (by omega) 1000 (by show Dq.1.entries≤1000;omega)
 have g3:J aB.1:=hJ.s _ _ g2 (by omega)
 have g4:J WE.1:=K _ g3 (by omega) 1000 (by show WE.1.entries≤1000;omega)
 have g5:J aD.1:=hJ.s _ _ g4 (by omega)
 have g6:J ZT.1:=K _ g5 (by omega) 1000 (by show ZT.1.entries≤1000;omega)
 exact ⟨g1,g2,g3,g4,g5,g6,rfl,by omega,by omega,by omega,by omega,by omega⟩
theorem Q5i:Hg JE=K6:=by decide
theorem WH.nil (w:World) (g:Option Addr):WH w g []:=⟨by simp,by simp,fun j x h=>by simp at h⟩
def lies (w:World) (F:List Nat):List Nat:=F.filter fun x=>decide (x<w.heap.size)
theorem EU {w:World} {F:List Nat}:∀x∈lies w F,x<w.heap.size:=fun x hx=>by unfold lies at hx;rw [List.mem_filter,decide_eq_true_eq] at hx;exact hx.2
theorem WU {w:World} {F:List Nat}:∀x∈lies w F,x∈F:=fun x hx=>by unfold lies at hx;exact (List.mem_filter.1 hx).1
theorem Hl {w:World} {F:List Nat} {x:Nat} (h:2<x∧x<w.heap.size∧x∈F):2<x∧x<w.heap.size∧x∈lies w F:=⟨h.1,h.2.1,List.mem_filter.2 ⟨h.2.2,decide_eq_true h.2.1⟩⟩
theorem MAt.cut {w:World} {F:List Nat} {b:Bs} {m:Qb} {N:Int} (A:MAt w F b m N):MAt w (lies w F) b m N:=by
 obtain ⟨ve,vr,v,L,A⟩:=A
 exact ⟨ve,vr,v,L,A.mb,A.wr,A.me,A.ck,A.wl,A.ev,A.fl,A.db,A.nd,fun x hx=>Hl (A.bl x hx),fun x hx=>⟨Hl (A.e1 x hx).1,(A.e1 x hx).2⟩,fun x hx=>⟨Hl (A.e2 x hx).1,(A.e2 x hx).2⟩,A.th,A.ln,fun k hk x hx=>⟨Hl (A.l1 k hk x hx).1,(A.l1 k hk x hx).2⟩,A.l2⟩
theorem MM.cut {w:World} {F:List Nat} {b:Bs} {m:Qb} {w0:World} {F0:List Nat} {q:Nat} {c:Q0} (H:MM w F b m w0 F0 q c):MM w (lies w F) b m w0 F0 q c:=
 ⟨H.1.cut,H.2.1,fun x hx=>H.2.2.1 x (WU x hx),fun hx=>H.2.2.2.1 (WU _ hx),H.2.2.2.2⟩
theorem Q6w (w:World) (F:List Nat) (b:Bs) (m:Qb) (w0:World) (F0:List Nat) (q:Nat) (H:MM w F b m w0 F0 q JE) (hJ:JA J) (g:J m) (hR2:(Y5 2 K6 [] 1000 m 0 0 0).2=true) (hE:(Y5 2 K6 [] 1000 m 0 0 0).1.entries≤1000):
 Calls Tryz.prog 9 #[pt b.pM,JE.val,.slice none 0 0] w fun e w'=>e=.returned (.bool true)∧∃F',MM w' F' b (Y5 2 K6 [] 1000 m 0 0 0).1 w0 F0 q JE:=by
 have H2:=H.cut
 refine (Q0G w (lies w F) b m H2.1 EU JE Kz none 0 [] (WH.nil w _) (by simp) (by simp) 1000 J ⟨hJ.i,fun m w g he _ _=>hJ.s m _ g (by omega),by omega⟩ g 1000 _ (by rw [Q5i];rfl) hR2 hE).mono ?_
 rintro e w' ⟨rfl,F',A, -,f,hF'⟩
 exact ⟨rfl,F',H2.settled A f hF'⟩
theorem MM.ndo {w:World} {F:List Nat} {b:Bs} {m:Qb} {w0:World} {F0:List Nat} {q:Nat} {c':Q0} (H:MM w F b m w0 F0 q c') (hJ:JA J) (g:J m) (he:m.entries≤40000000) (x:QF) {r:Qb×Bool} (hr:doV m x=r):
 Calls Tryz.prog 11 #[pt b.pM,x.val] w fun e w'=>e=.returned (.bool r.2)∧∃F',MM w' F' b r.1 w0 F0 q c':=by
 obtain ⟨i,e, -⟩:=hJ.i m g
 rw [←hr];exact H.do_ i (by omega) e he x
theorem Q5Q (w:World) (h3:3≤w.heap.size) (hfl:Qf w 0 Qc) (hdb:Vo w) (hJ:JA J):Calls Tryz.prog 6 #[] w fun e w'=>e=.returned (.bool true)∧Fr [] w w':=by
 obtain ⟨t1,t2,t3,t4,t5,t6,t7,t8,t9,t10,t11⟩:=Wq
 obtain ⟨g1,g2,g3,g4,g5,g6,z0,e1,e2,e3,e4,e5⟩:=Q7T hJ
 have f1:=(Fr.refl [] w).alloc (YX JE)
 have hq:(w.alloc (YX JE)).heap[w.heap.size]?=some (YX JE):=heap_alloc_new w (YX JE)
 have hnew:=(r_new (w.alloc (YX JE)) JE Kz (by rw [World.size_alloc];omega) (hfl.fr f1 (by simp)) (hdb.fr f1 (by simp)))
 generalize hw1:w.alloc (YX JE)=w1 at hnew f1 hq
 have hw1':w.alloc (.cells #[.int .i64 2,.int .i64 1,.int .i64 0,.int .i64 1,.int .i64 9] 30 (0,0))=w1:=hw1
 have HN:=hid (show Calls Tryz.prog 17 #[.agg #[.int .i64 2,.int .i64 1,.int .i64 0,.int .i64 1,.int .i64 9]] w1 (Q3X w1 JE) from hnew)
 have HT:=hid (And.intro t1 (And.intro t2 (And.intro t3 (And.intro t4 (And.intro t5 t6)))))
 have HG:=hid (And.intro g1 (And.intro g2 (And.intro g3 (And.intro g4 (And.intro g5 g6)))))
 have HQ:=hid hq;have HF1:=hid f1;have Hz:=hid z0
 have H7:=hid t7;have H8:=hid t8;have H9:=hid t9;have H10:=hid t10;have H11:=hid t11
 have HE:=hid (And.intro e1 (And.intro e2 (And.intro e3 (And.intro e4 e5))))
 have HW1:=hid hw1';have HJ:=hid hJ
 clear hnew t1 t2 t3 t4 t5 t6 t7 t8 t9 t10 t11 g1 g2 g3 g4 g5 g6 hq f1 z0 hfl hdb e1 e2 e3 e4 e5 hw1 hw1' hJ
 have HS:=hid (show ∀(w:World) (F:List Nat) (b:Bs) (m:Qb) (w0:World) (F0:List Nat) (q:Nat),MM w F b m w0 F0 q JE→J m→(Y5 2 K6 [] 1000 m 0 0 0).2=true→(Y5 2 K6 [] 1000 m 0 0 0).1.entries≤1000→
  Calls Tryz.prog 9 #[.pointer (some ⟨b.pM,0,none⟩),.agg #[.int .i64 2,.int .i64 1,.int .i64 0,.int .i64 1,.int .i64 9],.slice none 0 0] w fun e w'=>e=.returned (.bool true)∧∃F',MM w' F' b (Y5 2 K6 [] 1000 m 0 0 0).1 w0 F0 q JE from fun w F b m w0 F0 q H g h1 h2=>Q6w w F b m w0 F0 q H HJ.out g h1 h2)
 go_in
 go_wp2_with fail
 rw [HW1.out]
 refine (HN.out).mono ?_
 rintro e w2 ⟨b,F,rfl,A,hFn,f2⟩
 have hlq:=Q6 HQ.out
 have M0:MM w2 F b (QH JE) w [] w.heap.size JE:=⟨by rw [Hz.out];exact A,HF1.out.then f2 (by simp),fun x hx=>.inr (by have:=hFn x hx;have:=HF1.out.size;omega),fun hx=>by have:=hFn _ hx;omega,f2.at HQ.out (by simp)⟩
 have HM0:=hid M0
 have q0:=cl 0 M0.2.2.2.2;have q1:=cl 1 M0.2.2.2.2;have q2:=cl 2 M0.2.2.2.2;have q3:=cl 3 M0.2.2.2.2;have q4:=cl 4 M0.2.2.2.2
 have HB:=hid M0.2.2.2.2
 clear M0 A hFn f2 hlq HN HW1
 unfold pt
 have hd:=HM0.out.ndo HJ.out HJ.out.n (by rw [Hz.out];omega) ⟨0,0,K8,0,false⟩ (show doV (QH JE) _=aA from rfl)
 have HD:=hid (show Calls Tryz.prog 11 #[.pointer (some ⟨b.pM,0,none⟩),.agg #[.int .i64 0,.int .i64 0,.int .i64 0,.int .i64 0,.bool false,.bool false,.int .i64 0,.int .i64 0,.int .i64 0,.int .i64 0,.bool false]] _ (fun e w'=>e=.returned (.bool aA.2)∧∃F',MM w' F' b aA.1 w [] w.heap.size JE) from hd)
 clear hd
 go_wp2_with fail
 refine (HD.out).mono ?_
 rintro e w3 ⟨he,F1,M1⟩
 rw [HT.out.1] at he
 subst he
 have HM1:=hid M1
 have q0:=cl 0 M1.2.2.2.2;have q1:=cl 1 M1.2.2.2.2;have q2:=cl 2 M1.2.2.2.2;have q3:=cl 3 M1.2.2.2.2;have q4:=cl 4 M1.2.2.2.2
 clear M1 HM0 HD
 have HD:=hid (HS.out _ _ _ _ _ _ _ HM1.out (HG.out.1) (HT.out.2.1) (by have h:=HE.out.2.1;exact h))
 go_wp2_with fail
 refine (HD.out).mono ?_
 rintro e w4 ⟨rfl,F2,M2⟩
 have HM2:=hid (show MM _ F2 b Dq.1 w [] w.heap.size JE from M2)
 have q0:=cl 0 M2.2.2.2.2;have q1:=cl 1 M2.2.2.2.2;have q2:=cl 2 M2.2.2.2.2;have q3:=cl 3 M2.2.2.2.2;have q4:=cl 4 M2.2.2.2.2
 clear M2 HM1 HD
 have hd:=HM2.out.ndo HJ.out (HG.out.2.1) (by have:=HE.out.2.1;omega) ⟨0,1,{K8 with wait:=true,dl:=9},0,false⟩ (show doV Dq.1 _=aB from rfl)
 have HD:=hid (show Calls Tryz.prog 11 #[.pointer (some ⟨b.pM,0,none⟩),.agg #[.int .i64 0,.int .i64 1,.int .i64 0,.int .i64 9,.bool true,.bool false,.int .i64 0,.int .i64 0,.int .i64 0,.int .i64 0,.bool false]] _ (fun e w'=>e=.returned (.bool aB.2)∧∃F',MM w' F' b aB.1 w [] w.heap.size JE) from hd)
 clear hd
 go_wp2_with fail
 refine (HD.out).mono ?_
 rintro e w5 ⟨he,F3,M3⟩
 rw [HT.out.2.2.1] at he
 subst he
 have HM3:=hid M3
 have q0:=cl 0 M3.2.2.2.2;have q1:=cl 1 M3.2.2.2.2;have q2:=cl 2 M3.2.2.2.2;have q3:=cl 3 M3.2.2.2.2;have q4:=cl 4 M3.2.2.2.2
 clear M3 HM2 HD
 have HD:=hid (HS.out _ _ _ _ _ _ _ HM3.out (HG.out.2.2.1) (HT.out.2.2.2.1) (by have h:=HE.out.2.2.2.1;exact h))
 go_wp2_with fail
 refine (HD.out).mono ?_
 rintro e w6 ⟨rfl,F4,M4⟩
 have HM4:=hid (show MM _ F4 b WE.1 w [] w.heap.size JE from M4)
 have q0:=cl 0 M4.2.2.2.2;have q1:=cl 1 M4.2.2.2.2;have q2:=cl 2 M4.2.2.2.2;have q3:=cl 3 M4.2.2.2.2;have q4:=cl 4 M4.2.2.2.2
 clear M4 HM3 HD
 have hw2:WE.1.ws.length=2:=by have h:=HJ.out.i _ HG.out.2.2.2.1;have h2:=h.1.wl;rw [h.2.2] at h2;have:JE.wo=2:=rfl;omega
 have HD:=hid (HM4.out.1.state (who:=1) (by omega))
 clear hw2
 go_wp2_with fail
 refine (HD.out).mono ?_
 rintro e w7 ⟨he,f7⟩
 rw [H7.out] at he
 subst he
 have M5:=HM4.out.fr f7
 have HM5:=hid M5
 have q0:=cl 0 M5.2.2.2.2;have q1:=cl 1 M5.2.2.2.2;have q2:=cl 2 M5.2.2.2.2;have q3:=cl 3 M5.2.2.2.2;have q4:=cl 4 M5.2.2.2.2
 clear M5 HM4 HD f7
 have hd:=HM5.out.ndo HJ.out (HG.out.2.2.2.1) (by have:=HE.out.2.2.2.1;omega) ⟨0,0,{K8 with op:=2,gen:=1},0,false⟩ (show doV WE.1 _=aD from rfl)
 have HD:=hid (show Calls Tryz.prog 11 #[.pointer (some ⟨b.pM,0,none⟩),.agg #[.int .i64 0,.int .i64 0,.int .i64 2,.int .i64 0,.bool false,.bool false,.int .i64 0,.int .i64 1,.int .i64 0,.int .i64 0,.bool false]] _ (fun e w'=>e=.returned (.bool aD.2)∧∃F',MM w' F' b aD.1 w [] w.heap.size JE) from hd)
 clear hd
 go_wp2_with fail
 refine (HD.out).mono ?_
 rintro e w8 ⟨he,F6,M6⟩
 rw [HT.out.2.2.2.2.1] at he
 subst he
 have HM6:=hid M6
 have q0:=cl 0 M6.2.2.2.2;have q1:=cl 1 M6.2.2.2.2;have q2:=cl 2 M6.2.2.2.2;have q3:=cl 3 M6.2.2.2.2;have q4:=cl 4 M6.2.2.2.2
 clear M6 HM5 HD
 have HD:=hid (HS.out _ _ _ _ _ _ _ HM6.out (HG.out.2.2.2.2.1) (HT.out.2.2.2.2.2) (H11.out))
 go_wp2_with fail
 refine (HD.out).mono ?_
 rintro e w9 ⟨rfl,F7,M7⟩
 have HM7:=hid (show MM _ F7 b ZT.1 w [] w.heap.size JE from M7)
 have q0:=cl 0 M7.2.2.2.2;have q1:=cl 1 M7.2.2.2.2;have q2:=cl 2 M7.2.2.2.2;have q3:=cl 3 M7.2.2.2.2;have q4:=cl 4 M7.2.2.2.2
 clear M7 HM6 HD
 have HD:=hid (HM7.out.1.events (HJ.out.i _ HG.out.2.2.2.2.2).1)
 go_wp2_with fail
 refine (HD.out).mono ?_
 rintro e w10 ⟨v',rfl,E, -,f10⟩
 have M8:=HM7.out.fr f10
 have hw2:ZT.1.ws.length=2:=by have h:=HJ.out.i _ HG.out.2.2.2.2.2;have h2:=h.1.wl;rw [h.2.2] at h2;have:JE.wo=2:=rfl;omega
 have HD2:=hid (M8.1.state (who:=1) (by omega))
 have E0:=E
 unfold Xn at E0
 rcases E0.2 with ⟨-,h0⟩|⟨g,off,cap,cur,rfl,hg, -⟩
 · exact absurd h0 (by rw [H9.out];omega)
 obtain ⟨x,hx⟩:∃x,ZT.1.evs[5]?=some x:=⟨_,List.getElem?_eq_getElem (by rw [H9.out];omega)⟩
 have hx0:x.e=0:=by have h:=H10.out;rw [List.getD_eq_getElem?_getD,hx] at h;exact h
 have HEV:=hid E;have HX:=hid hx;have HX0:=hid hx0
 have HM8:=hid M8
 clear M8 HM7 HD f10 hw2 E E0 hg hx hx0
 rw [H9.out]
 go_wp2_with fail
 refine (HD2.out).mono ?_
 rintro e w11 ⟨he,f11⟩
 rw [H8.out] at he
 subst he
 have M9:=HM8.out.fr f11
 have qe:=Vf (QX.fr HEV.out f11 (by simp)) HX.out (j:=10) (u:=.int .i64 0) (by have h:=HX0.out;unfold EvV.cells;rw [h];rfl)
 have HF9:=hid M9.2.1
 clear M9 HM8 HD2 f11
 go_wp2
 go_ret
 exact ⟨rfl,HF9.out⟩
end
section
open Go.RowKit Go.Shelf Go.Lib
attribute [local go_sem] Oper.semAt_some
def EntAt (w:World) (b:Nat) (x:QF):Prop:=w.heap[b]?=some (.cells #[.int .i64 x.kind,.int .i64 x.who,.int .i64 x.ask.op,.int .i64 x.ask.dl,.bool x.ask.wait,.bool x.ask.force,.int .i64 x.ask.slot,.int .i64 x.ask.gen,.int .i64 x.ask.stream,.int .i64 x.n,.bool x.good] 39 (0,0))
theorem Q3l {P:Program} {w:World} {b:Nat} {cur:Array Value} {tt:TypeId} (h:w.heap[b]?=some (.cells cur tt (0,0))) (o:Nat) (vs:List Value) (t:TypeId) (ht:(P.info? t).map (·.size)=some vs.length) (hs:o+vs.length≤cur.size) (h1:∀v∈vs,v.oneCell'=true):
 ∃w',(storeVar t ⟨b,o,none⟩ (.agg vs.toArray)).run P w=.ok () w'∧w'.heap[b]?=some (.cells (cur.toList.take o++vs++cur.toList.drop (o+vs.length)).toArray tt (0,0))∧Fr [b] w w':=
 ⟨_,ZP t b o vs tt cur w ht h (by omega) h1,setRow_heap w b cur _ _ _ h,(Fr.refl [b] w).setRow' (by simp) _⟩
def Q6j (kd wh op sl gn nn:Int):Value:=.agg #[.int .u8 kd,.int .u8 wh,.int .u8 op,.int .u8 sl,.int .u8 gn,.int .u8 nn]
def u8s (x:Int):Prop:=0≤x∧x≤255
theorem Q7F {w:World} {b:Nat} {x0 x1 x2 x3 x6 x7 x8 x9:Int} {x4 x5 x10:Bool} (h:w.heap[b]?=some (.cells #[.int .i64 x0,.int .i64 x1,.int .i64 x2,.int .i64 x3,.bool x4,.bool x5,.int .i64 x6,.int .i64 x7,.int .i64 x8,.int .i64 x9,.bool x10] 39 (0,0))):∃x,EntAt w b x:=⟨⟨x0,x1,⟨x2,x3,x4,x5,x6,x7,x8⟩,x9,x10⟩,h⟩
abbrev tEx (b:Nat):Th:=⟨true,[b],fun w=>∃x,EntAt w b x,fun f h ⟨x,k⟩=>⟨x,f.at k (h _ (by simp))⟩⟩
theorem Bag.ent {w0 w:World} {A Z:Th} {L:List Th} {b:Nat} {x0 x1 x2 x3 x6 x7 x8 x9:Int} {x4 x5 x10:Bool} (B:Bag [] w0 (A::Z::tR b #[.int .i64 x0,.int .i64 x1,.int .i64 x2,.int .i64 x3,.bool x4,.bool x5,.int .i64 x6,.int .i64 x7,.int .i64 x8,.int .i64 x9,.bool x10] 39::L) w):Bag [] w0 [A,Z,tEx b] w:=
 (B.tk 3).up 2 (T':=tEx b) (Q7F (B.g 2)) (Fr.refl [b] w)
theorem Gn (w:World) (kd wh op sl gn nn:Int) (h1:u8s kd) (h2:u8s wh) (h3:u8s op) (h4:u8s sl) (h5:u8s gn) (h6:u8s nn) (c:Q0) (hc:c.small) (a:Option Addr) (cap:Nat) (evs:List EvV) (he:Xn w (.slice a evs.length cap) evs) (hn:evs.length≤100000):
 Calls Tryz.prog 18 #[Q6j kd wh op sl gn nn,c.val,.slice a evs.length cap] w fun e w'=>∃x:QF,e=.returned x.val∧Fr [] w w':=by
 obtain ⟨a0,a1⟩:=h1;obtain ⟨b0,b1⟩:=h2;obtain ⟨c0,c1⟩:=h3;obtain ⟨d0,d1⟩:=h4;obtain ⟨e0,e1⟩:=h5;obtain ⟨f0,f1⟩:=h6
 obtain ⟨wo,csl,cst,wa,us⟩:=c
 obtain ⟨⟨o0,o1⟩, -⟩:=hc
 dsimp only at o0 o1
 unfold Q6j Q0.val
 dsimp only
 have HLE:=hid fun w' (he:Xn w' (.slice a evs.length cap) evs) who=>Q5l w' a cap evs he hn who
 have HE:=hid he
 clear he
 generalize evs.length=len at hn HLE HE ⊢
 go_in
 go_wp2_with fail
 have hwo:IntKind.i64.wrap (wo+1)=wo+1:=by rw [IntKind.wrap_i64];omega
 have hwo2:¬wo+1=0:=by omega
 have hwo3:0<wo+1:=by omega
 go_region
 clear hwo hwo2 hwo3
 generalize hw:World.alloc w _=w1,hb:(World.heap w).size=bT
 generalize hw2:World.alloc w1 _=w2
 generalize hw3:World.alloc w2 _=w3
 have B:=(((Bag.nil [] w).al3 hw hb hw2 hw3).sel [0,2]).drew
 clear hw hw2 hw3 hb
 generalize w3.drew=w4 at B ⊢
 generalize wrap64 (wh % (wo+1) - wh / 250)=who
 have k:=B.q 0
 go_upto_block 0 with fail
 generalize hb:(World.heap _).size=bX,hw:World.alloc _ _=w5
 replace B:=B.al hw hb
 clear hw hb k
 go_cut [7] from 33 to 62 (fun s7 wx=>s7=.int .i64 who∧Bag [] w [tR bT #[.int .u8 kd,.int .u8 wh,.int .u8 op,.int .u8 sl,.int .u8 gn,.int .u8 nn] 62,tR (bT+1+1) #[.int .i64 0,.int .i64 0,.int .i64 0,.int .i64 0,.bool false,.bool false,.int .i64 0,.int .i64 0,.int .i64 0,.int .i64 0,.bool false] 39,tEx bX] wx)
 case first=>
  have k:=B.q 0;have x:=B.q 2;have u:=B.u 2
  go_wp2_with fail
  all_goals go_meet
  all_goals
   refine ⟨rfl, ?_⟩
   generalize hw:World.setCell _ _ _=w6
   exact ((B.s 2).e hw).ent
 case rest=>
  obtain ⟨rfl,B⟩:=hcut
  obtain ⟨⟨xk,xwho,⟨xop,xdl,xwt,xfc,xsl,xgn,xst⟩,xn,xgd⟩,hx⟩:=B.g 2
  replace B:=B.up 2 (T':=tR bX _ _) hx (Fr.refl [bX] _)
  clear hx
  try dsimp only at B
  obtain ⟨w3,hr,hX3,f3⟩:=Q3l (P:=Tryz.prog) (B.g 2) 2 [.int .i64 (op % 9),.int .i64 nn,.bool (nn % 2==1),.bool (nn % 5==0),.int .i64 (sl % 6),.int .i64 (gn % 4),.int .i64 (nn % 4)] 37 rfl (by simp) (by simp [Value.oneCell'])
  simp only [List.take_succ_cons,List.take_zero,List.cons_append,List.nil_append,List.length_cons,List.length_nil,Nat.reduceAdd,List.drop_succ_cons,List.drop_zero] at hX3
  have k:=B.q 0
  go_upto_region 15 with (refine Zf rfl _ _ _ rfl _ _ rfl rfl hr ?_)
  replace B:=B.up 2 (T':=tR bX _ _) hX3 f3
  clear k hr hX3 f3
  have k:=B.q 0
  go_upto_if 94 with fail
  go_cut [] from 94 to 103 (fun wx=>Bag [] w [tR bT #[.int .u8 kd,.int .u8 wh,.int .u8 op,.int .u8 sl,.int .u8 gn,.int .u8 nn] 62,tR (bT+1+1) #[.int .i64 0,.int .i64 0,.int .i64 0,.int .i64 0,.bool false,.bool false,.int .i64 0,.int .i64 0,.int .i64 0,.int .i64 0,.bool false] 39,tEx bX] wx)
  case first=>
   by_cases h100:op<100
   · have d100:decide (100≤op)=false:=decide_eq_false (by omega)
     go_wp2_with fail
     go_meet
     exact B.ent
   · have d100:decide (100≤op)=true:=decide_eq_true (by omega)
     have x2:=B.qa 2;have kk2:=B.qa 0;have ux2:=B.ua 2
     have nb1:¬bX=w3.heap.size:=by have:=B.lt 2 bX (by simp [gt]);omega
     have nb2:¬w3.heap.size=bX:=fun e=>nb1 e.symm
     rcases (by omega:op % 5=0∨op % 5=1∨op % 5=2∨op % 5=3∨op % 5=4) with hm|hm|hm|hm|hm
     all_goals
      go_wp2_with fail
      go_meet
      generalize hb:w3.heap.size=b9,hw2:World.alloc w3 _=w7
      generalize hw:World.setCell _ _ _=w6
      exact (((B.al hw2 hb).s 2).e hw).ent
  case rest=>
   clear k B
   replace B:=hcut
   obtain ⟨⟨xk,xwho,⟨xop,xdl,xwt,xfc,xsl,xgn,xst⟩,xn,xgd⟩,hx⟩:=B.g 2
   replace B:=B.up 2 (T':=tR bX _ _) hx (Fr.refl [bX] _)
   clear hx
   try dsimp only at B
   have k:=B.q 0
   go_upto_if 106 with fail
   go_cut [9,10] from 106 to 118 (fun _ _ wx=>Bag [] w [tR bT #[.int .u8 kd,.int .u8 wh,.int .u8 op,.int .u8 sl,.int .u8 gn,.int .u8 nn] 62,tR (bT+1+1) #[.int .i64 0,.int .i64 0,.int .i64 0,.int .i64 0,.bool false,.bool false,.int .i64 0,.int .i64 0,.int .i64 0,.int .i64 0,.bool false] 39,tEx bX] wx)
   case first=>
    by_cases hs60:sl<60
    · have d60:decide (60≤sl)=false:=decide_eq_false (by omega)
      go_wp2_with fail
      go_meet
      exact B.ent
    · have d60:decide (60≤sl)=true:=decide_eq_true (by omega)
      go_wp2_with fail
      refine (HLE.out _ (QX.fr HE.out B.fr (by simp)) _).mono ?_
      rintro e w6 ⟨s,g,rfl,f6⟩
      replace B:=B.tm f6
      clear k
      have x:=B.q 2;have u:=B.u 2
      go_wp2_with fail
      go_meet
      generalize hw:World.setCell _ _ _=w7
      exact (((B.s 2).s 2).e hw).ent
   case rest=>
    clear k B
    replace B:=hcut
    obtain ⟨⟨xk,xwho,⟨xop,xdl,xwt,xfc,xsl,xgn,xst⟩,xn,xgd⟩,hx⟩:=B.g 2
    replace B:=B.up 2 (T':=tR bX _ _) hx (Fr.refl [bX] _)
    clear hx
    try dsimp only at B
    obtain ⟨w8,hr,hb8,f8⟩:=Vl (P:=Tryz.prog) (B.g 1) [.int .i64 xk,.int .i64 xwho,.int .i64 xop,.int .i64 xdl,.bool xwt,.bool xfc,.int .i64 xsl,.int .i64 xgn,.int .i64 xst,.int .i64 xn,.bool xgd] 39 rfl rfl (by simp [Value.oneCell'])
    have x:=B.q 2
    go_wp2_with (refine Zf rfl _ _ _ rfl _ _ rfl rfl hr ?_)
    replace B:=B.up 1 (T':=tR _ _ _) hb8 f8
    have x:=B.q 1
    refine bodyPost_ret (v:=QF.val ⟨xk,xwho,⟨xop,xdl,xwt,xfc,xsl,xgn,xst⟩,xn,xgd⟩) ?_ rfl ?_
    rotate_left
    · first|exact ⟨_,rfl,B.fr⟩|exact ⟨⟨_,rfl⟩,B.fr⟩
    simp [results,Tryz.f18,go_sem,QF.val,x]
structure Y0 where
 kd:Int
 wh:Int
 op:Int
 sl:Int
 gn:Int
 nn:Int
structure Y0.ok (t:Y0):Prop where
 a:u8s t.kd
 b:u8s t.wh
 c:u8s t.op
 d:u8s t.sl
 e:u8s t.gn
 f:u8s t.nn
def Y0.val (t:Y0):Value:=Q6j t.kd t.wh t.op t.sl t.gn t.nn
structure Y0.at (t:Y0) (w:World) (b o:Nat):Prop where
 q0:w.cell? ⟨b,o,none⟩=some (.int .u8 t.kd)
 q1:w.cell? ⟨b,o+1,none⟩=some (.int .u8 t.wh)
 q2:w.cell? ⟨b,o+2,none⟩=some (.int .u8 t.op)
 q3:w.cell? ⟨b,o+3,none⟩=some (.int .u8 t.sl)
 q4:w.cell? ⟨b,o+4,none⟩=some (.int .u8 t.gn)
 q5:w.cell? ⟨b,o+5,none⟩=some (.int .u8 t.nn)
theorem Y0.at.fr {t:Y0} {w w':World} {b o:Nat} (h:t.at w b o) (f:Fr [] w w'):t.at w' b o:=
 ⟨f.cell h.q0 (by simp),f.cell h.q1 (by simp),f.cell h.q2 (by simp),f.cell h.q3 (by simp),f.cell h.q4 (by simp),f.cell h.q5 (by simp)⟩
def Eb (w:World) (g:Option Addr) (L:List Y0):Prop:=(∀t∈L,t.ok)∧∀(j:Nat) (t:Y0),L[j]?=some t→∃b o,g=some ⟨b,o,none⟩∧t.at w b (o+j*6)
theorem Eb.fr {w w':World} {g:Option Addr} {L:List Y0} (h:Eb w g L) (f:Fr [] w w'):Eb w' g L:=⟨h.1,fun j t ht=>let ⟨b,o,e,a⟩:=h.2 j t ht;⟨b,o,e,a.fr f⟩⟩
end
section
open Go.RowKit Go.Shelf Go.Lib
attribute [local go_sem] Oper.semAt_some
section
variable {w w' w0:World} {b:Bs} {c:Q0} {S F:List Nat} {m:Qb} {N n:Int} {L:List Th}
theorem MAt.fr2 (A:MAt w F b m N) (f:Fr S w w') (hF:∀x∈F,x∉S) (h0:Qf w' 0 Qc) (h2:Vo w'):MAt w' F b m N:=by
 obtain ⟨ve,vr,v,L,A⟩:=A
 have hs:=f.size
 have B:∀x∈b.l,x∉S:=fun x hx=>hF x (A.bl x hx).2.2
 refine ⟨ve,vr,v,L,A.mb.fr f (B _ (by simp [Bs.l])),A.wr.fr f (B _ (by simp [Bs.l])),A.me.fr f (B _ (by simp [Bs.l])) (B _ (by simp [Bs.l])),A.ck.fr f (B _ (by simp [Bs.l])),A.wl.ov f (B _ (by simp [Bs.l])) (B _ (by simp [Bs.l])) fun x hx=>hF x (A.e2 x hx).1.2.2,QX.fr A.ev f fun x hx=>hF x (A.e1 x hx).1.2.2,
  h0,h2,A.nd,fun x hx=> ?_,fun x hx=> ?_,fun x hx=> ?_,fun k hk=>(A.th k hk).fr f fun x hx=>hF x (A.l1 k hk x hx).1.2.2,A.ln,fun k hk x hx=> ?_,A.l2⟩
 · have:=A.bl x hx;exact ⟨this.1,by omega,this.2.2⟩
 · have:=A.e1 x hx;exact ⟨⟨this.1.1,by omega,this.1.2.2⟩,this.2⟩
 · have:=A.e2 x hx;exact ⟨⟨this.1.1,by omega,this.1.2.2⟩,this.2⟩
 · have:=A.l1 k hk x hx;exact ⟨⟨this.1.1,by omega,this.1.2.2⟩,this.2⟩
abbrev Vy (F:List Nat) (b:Bs) (m:Qb):Th:=⟨true,F,fun w=>∃w1 S,Fr S w1 w∧(∀x∈F,x∉S)∧MAt w1 F b m (2*m.entries),fun {S} _ _ f h ⟨w1,S1,g,hS,A⟩=>⟨w1,S1++S,(g.mono fun x hx=>List.mem_append.2 (.inl hx)).trans (f.mono fun x hx=>List.mem_append.2 (.inr hx)),fun x hx hm=>(List.mem_append.1 hm).elim (hS x hx) (h x hx),A⟩⟩
theorem Bag.mac (B:Bag [] w0 (Vy F b m::L) w) (hfl:Qf w0 0 Qc) (hdb:Vo w0):MAt w F b m (2*m.entries):=by
 obtain ⟨w1,S,g,hS,A⟩:=B.g 0
 exact A.fr2 g hS (hfl.fr B.fr (by simp)) (hdb.fr B.fr (by simp))
theorem Bag.mdo (B:Bag [] w0 (Vy F b m::L) w) (hfl:Qf w0 0 Qc) (hdb:Vo w0) (I:MInv n m) (hn:n≤1000000000) (h0:0≤m.entries) (hE:m.entries≤40000000) (x:QF):
 Calls Tryz.prog 11 #[pt b.pM,x.val] w fun e w'=>e=.returned (.bool (doV m x).2)∧∃F',Bag [] w0 (Vy F' b (doV m x).1::L) w':=by
 refine ((B.mac hfl hdb).do_ I (by omega) hn h0 (by omega) x).mono ?_
 rintro e w' ⟨e1,F',A',g,hF'⟩
 have e2:=ZR m x
 refine ⟨e1,lies w' F',B.up' 0 (T':=Vy (lies w' F') b (doV m x).1) ⟨w',[],Fr.refl _ _,by simp,by rw [e2,show 2*(m.entries+1)=2*m.entries+2 by omega];exact A'.cut⟩ g (fun x hx=>⟨rfl,hx⟩) (fun x hx=>⟨EU x hx, ?_⟩) (by simp)⟩
 exact (hF' x (WU x hx)).imp (fun h=>⟨fun _=>rfl,h⟩) id
abbrev tWd (g:Nat) (M:List Int):Th:=⟨true,[g],fun w=>g<w.heap.size∧∀j u,M[j]?=some u→w.cell? ⟨g,j,none⟩=some (.int .i64 u),fun f h ⟨k1,k2⟩=>⟨Nat.lt_of_lt_of_le k1 f.size,fun j u e=>f.cell (k2 j u e) (h g (by simp))⟩⟩
theorem Bag.Q74 (B:Bag [] w0 (Vy F b m::L) w) (hfl:Qf w0 0 Qc) (hdb:Vo w0) (I:MInv n m):
 Calls Tryz.prog 14 #[pt b.pM] w fun e w'=>∃g cp,e=.returned (.slice (some ⟨g,0,none⟩) m.M.length cp)∧Bag [] w0 ((Vy F b m::L)++[tWd g m.M]) w':=by
 refine ((B.mac hfl hdb).words I).mono ?_
 rintro e w' ⟨g,cp,rfl,o,f⟩
 obtain ⟨r1,r2⟩:=DJ o (by simp)
 have l:=QX.lt r1 g rfl
 refine ⟨g,cp,rfl,B.nw (T':=tWd g m.M) ⟨l,fun j u hj=> ?_⟩ f (fun x hx=>by simp at hx;subst hx;exact ⟨r2 x rfl,l⟩) rfl rfl⟩
 have:=QX.cell r1 (j:=j) (u:=.int .i64 u) (by rw [List.getElem?_map,hj];rfl)
 simpa using this
theorem Bag.mstate (B:Bag [] w0 (Vy F b m::L) w) (hfl:Qf w0 0 Qc) (hdb:Vo w0) {who:Nat} (hw:who<m.ws.length):
 Calls Tryz.prog 10 #[pt b.pM,.int .i64 who] w fun e w'=>e=.returned (.int .i64 (m.wk who).st)∧Bag [] w0 (Vy F b m::L) w':=
 ((B.mac hfl hdb).state hw).mono fun e w' ⟨h,f⟩=>⟨h,B.tm f⟩
theorem Bag.Q95 (B:Bag [] w0 (Vy F b m::L) w) (hfl:Qf w0 0 Qc) (hdb:Vo w0) (I:MInv n m) {k:Nat} (hk:m.c.sl=k) (hk8:k≤16) {hv:Jo} (hl:XP m.c.sl m.evs=some hv) (hw:Wu m) (hm:m.ws.length≤8):
 Calls Tryz.prog 21 #[pt b.pM,m.c.val] w fun e w'=>∃p g1 g2 g3,e=.returned (pt p)∧hv.who.length=k∧Bag [] w0 ((Vy F b m::L)++[tR p #[XO g1 k,XO g2 k,XO g3 k] 73]++[tWd g1 hv.who]) w':=by
 have h1:=I.ev;have h2:=Yg m.ws
 refine (Q32 w b.pM k m.c m.evs hv hk hk8 hl (fun x hx=>by have:=hw x hx;omega) (by omega) (fun w' f=>(B.tm f).mac hfl hdb |>.events I)).mono ?_
 rintro e w' ⟨p,rfl,⟨g1,g2,g3,s,H, -,⟨o0,o1, -, -⟩, -⟩,f⟩
 have B1:=B.nw (T':=tR p #[XO g1 k,XO g2 k,XO g3 k] 73) H.b f (fun x hx=>by simp at hx;subst hx;exact ⟨o0,Q6 H.b⟩) rfl rfl
 refine ⟨p,g1,g2,g3,rfl,H.l1,B1.add (tWd g1 hv.who) ⟨Q6 H.b1,fun j u hj=>cell_of H.b1 (by rw [List.getElem?_toArray,List.getElem?_map,hj];rfl)⟩ (fun x hx=>by simp at hx;subst hx;exact Q6 H.b1) (fun i x hx hm=> ?_) (fun _ x hx=>.inr (by simp at hx;subst hx;exact Nat.le_trans B.fr.size o1))⟩
 simp at hx;subst hx
 rw [Ux] at hm
 split at hm
 · simp at hm;exact H.ne.1.1 hm.symm
 · have:=B.lt i x hm;omega
end
end
end Go.Proofs.YtgjklfmnmljilaaGreatDoor
