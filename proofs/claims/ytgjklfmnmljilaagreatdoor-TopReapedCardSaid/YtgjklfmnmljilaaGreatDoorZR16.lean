/- A part of the proof. -/
import Derived.Test.YtgjklfmnmljilaaGreatDoorZR15
namespace Go.Proofs.YtgjklfmnmljilaaGreatDoor
set_option linter.unusedVariables false
set_option linter.unusedSimpArgs false
set_option linter.unusedSectionVars false
set_option linter.unnecessarySimpa false
set_option maxRecDepth 100000
set_option maxHeartbeats 8000000
section
variable {n b many:Int} {m m':Qa} {w j:Nat} {c:Q0} {M M' M1:List Int} {k:Q8} {E0:List EvV}
theorem tk_SL (h:Qj c n M) (hn:n≤1000000000) {t t':Qd} {good:Bool} (hl:t.live c j) (h9:9≤t.st) (hS:TkS c M good t t' M') (i:Int):
 SL c M' i=SL c M i∨((SL c M i).st≠2∧((SL c M i).st=3→t.st=12∧i=t.i)∧(SL c M' i).st≠2∧(SL c M' i).st≠4):=by
 have R:∀{r r':J2},t.st=12→t.ret=some r→RtS M r r' M'→SL c M' i=SL c M i∨((SL c M i).st≠2∧((SL c M i).st=3→t.st=12∧i=t.i)∧(SL c M' i).st≠2∧(SL c M' i).st≠4):=fun a b d=>by
  obtain ⟨r0,e1,e2⟩:=hl.rt a
  rw [b] at e1;cases e1
  rcases rt_SL h hn e2 d i with e|⟨f0,f1,f2,f3,f4⟩|⟨f1,f2⟩
  · exact .inl e
  · exact .inr ⟨by have:=f3.1;omega,fun _=>⟨a,f0⟩,Lb,Lb⟩
  · exact .inr ⟨Lb,fun x=>Lb,Lb,Lb⟩
 have P:∀{s u:Q7} {d:Nat},dec t.word=some s→Qk s d t.w 0=some u→Qx M (Q5 c t.i) t.word=true→(s.st≠2∧s.st≠3∧u.st≠2∧u.st≠4)→M'=QI M (Q5 c t.i) t.word u.enc→
  SL c M' i=SL c M i∨((SL c M i).st≠2∧((SL c M i).st=3→t.st=12∧i=t.i)∧(SL c M' i).st≠2∧(SL c M' i).st≠4):=fun a1 a2 a3 a4 a5=>by
  obtain ⟨e,g⟩:=h.swp a1 a2 a3
  rw [a5,g]
  by_cases hi:i=t.i
  · right;rw [if_pos hi,hi,e];exact ⟨a4.1,fun x=>absurd x a4.2.1,a4.2.2⟩
  · rw [if_neg hi];exact .inl rfl
 cases hS
 case goes=>exact R (by assumption) (by assumption) (by assumption)
 case went=>exact R (by assumption) (by assumption) (by assumption)
 case back=>exact R (by assumption) (by assumption) (by assumption)
 case up s u a1 a2 a3 a4 a5=>exact P a3 a4 a5 (by obtain ⟨x,y⟩:=nst a4;omega) rfl
 case down s u a1 a2 a3 a4 a5=>exact P a3 a4 a5 (by obtain ⟨x,y⟩:=nst a4;omega) rfl
 case takes s u a1 a2 a3 a4=>exact P a2 a3 a4 (by obtain ⟨x,y⟩:=nst a3;omega) rfl
 all_goals first
  |exact .inl rfl
  |(exfalso;omega)
theorem Q83 (h:Qj c n M) {t t':Qd} {good:Bool} (hl:t.live c j) (h9:9≤t.st) (hS:TkS c M good t t' M'):
 9≤t'.st∧(t'.st=15→t'.e≠3)∧(10≤t'.st→t'.st≤12→t'.i=t.i∧((10≤t.st∧t.st≤12)∨((SL c M t.i).st≠3))):=by
 cases hS
 case up s u a1 a2 a3 a4 a5=>exact ⟨Lc,Lc,fun _ _=>⟨rfl,.inr (by rw [(h.swp a3 a4 a5).1];obtain ⟨x,y⟩:=nst a4;omega)⟩⟩
 case takes s u a1 a2 a3 a4=>
  refine ⟨by simp only;split<;>omega,fun x=>by simp only at x;split at x<;>omega,fun x _=>⟨rfl,.inr (by rw [(h.swp a2 a3 a4).1];obtain ⟨x,y⟩:=nst a3;omega)⟩⟩
 all_goals first
  |(exfalso;omega)
  |exact ⟨by simp only [Qd.end_];omega,by simp only [Qd.end_];omega,by simp only [Qd.end_];omega⟩
  |exact ⟨Ld,Ld,fun _ _=>⟨rfl,.inl Lb⟩⟩
theorem TI.takes (T:TI c M1 w many E0 m) (h:MInv n m) (hn:n≤1000000000) (hc:m.c=c) (hj:(j:Int)<c.wo) (hs:(m.wk j).st=2):
 Eff c M1 m.M (QM m j).M∧Wt c M1 (QM m j).M m.now ((QM m j).wk j)∧(Alone c M1 m→mQ (QM m j).M=[]∧(((QM m j).wk j).st=5→(tOf ((QM m j).wk j)).st≤8∨15≤(tOf ((QM m j).wk j)).st)):=by
 subst hc
 have hT:∃t,(m.wk j).work=.get t∧9≤t.st∧(10≤t.st→t.st≤12→(SL m.c M1 t.i).st≠3):=by
  rcases T.wk j hj with x|x|x|x|x|x
  · omega
  · omega
  · omega
  · omega
  · exact x.2
  · omega
 obtain ⟨t,hk,h9,hT⟩:=hT
 have hwl:j<m.ws.length:=by have:=h.wl;omega
 have wo:=h.mem.cf.1
 have hl:=(h.wk j hj).wk hs
 rw [hk] at hl
 obtain ⟨ho,hl⟩:=hl
 unfold QM
 simp only [hk]
 obtain ⟨m1,good,e1⟩:∃m1 good,(if t.st=9 then m.Qr else (m,false))=(m1,good):=⟨_,_,rfl⟩
 have em:m1.ws=m.ws:=by
  split at e1
  · have e2:m1=m.Qr.1:=(congrArg Prod.fst e1).symm
    rw [e2];rfl
  · have e2:m1=m:=(congrArg Prod.fst e1).symm
    rw [e2]
 obtain ⟨x,hx⟩:∃x,Qg m.c t m.M good=x:=⟨_,rfl⟩
 obtain ⟨t',M'⟩:=x
 have hS:=Yn m.c j t m.M good hl
 rw [hx] at hS
 simp only at hS
 have lo:=hS.Wn h.mem.cf hl
 obtain ⟨n9,n15,n12⟩:=Q83 h.mem hl h9 hS
 have f:Eff m.c M1 m.M M':=⟨lo 0 Lb Lb Lb,fun i=>by
  rcases tk_SL h.mem hn hl h9 hS i with e|⟨e1,e2,e3⟩
  · exact .inl e
  · refine .inr ⟨e1,fun x=> ?_,e3⟩
    obtain ⟨y1,y2⟩:=e2 x
    rw [y2];exact hT Lb Lb⟩
 have hq:mQ M'=mQ m.M:=VK (lo 1 Lb Lb Lb)
 unfold Xi
 simp only [e1,hx]
 have hw1:j<({m1 with M:=M'}:Qa).ws.length:=by show j<m1.ws.length;rw [em];exact hwl
 have G:∀k',Wt m.c M1 M' m.now k'→(k'.st=5→(tOf k').st≤8∨15≤(tOf k').st)→Eff m.c M1 m.M (Qa.setW {m1 with M:=M'} j k').M∧Wt m.c M1 (Qa.setW {m1 with M:=M'} j k').M m.now ((Qa.setW {m1 with M:=M'} j k').wk j)∧
  (Alone m.c M1 m→mQ (Qa.setW {m1 with M:=M'} j k').M=[]∧(((Qa.setW {m1 with M:=M'} j k').wk j).st=5→(tOf ((Qa.setW {m1 with M:=M'} j k').wk j)).st≤8∨15≤(tOf ((Qa.setW {m1 with M:=M'} j k').wk j)).st)):=by
  intro k' a1 a2
  rw [Jg hw1]
  exact ⟨f,a1,fun a=>⟨by show mQ M'=[];rw [hq];exact a.2.2.1,a2⟩⟩
 split
 · rename_i h15
   rw [if_neg (n15 h15)]
   exact G _ U0 (fun _=>.inl (by simp [tOf,Q8.end_,Q8.QT,Qz]))
 · refine G _ (.inr (.inr (.inr (.inr (.inl ⟨hs,t',rfl,n9,fun x y=> ?_⟩))))) (fun x=>by simp only [hs] at x;omega)
   obtain ⟨y1,y2⟩:=n12 x y
   rw [y1]
   rcases y2 with y2|y2
   · exact hT y2.1 y2.2
   · intro z;rw [T.le _ z] at y2;exact y2 z
theorem EU (h:Qj c n M) {x v:Int} (h0:3≤x) (h1:x<3+2*c.wo):Eff c M1 M (Qp M x v)∧mQ (Qp M x v)=mQ M:=by
 refine ⟨⟨QW Lb Lb,fun i=>.inl ?_⟩,VK (QW Lb Lb)⟩
 have:=h.len;have:=h.cf.2.1
 rw [Jr Lb (by unfold Q0.cells at*;omega)];exact h.Y0 Lb h1 i
theorem Q7g:Eff c M1 M M:=⟨rfl,fun _=>.inl rfl⟩
theorem TI.wakes (T:TI c M1 w many E0 m) (h:MInv n m) (hc:m.c=c) (hj:(j:Int)<c.wo) (hs:(m.wk j).st=7) (hh:(m.wk j).half=true∧(m.wk j).word≠0):
 Eff c M1 m.M (J7 m j).M∧Wt c M1 (J7 m j).M m.now ((J7 m j).wk j)∧(Alone c M1 m→mQ (J7 m j).M=[]∧(((J7 m j).wk j).st=5→(tOf ((J7 m j).wk j)).st≤8∨15≤(tOf ((J7 m j).wk j)).st)):=by
 subst hc
 have hwl:j<m.ws.length:=by have:=h.wl;omega
 have wo:=h.mem.cf.1
 have L:=h.wk j hj
 have ho:=L.op0 Lb
 obtain ⟨f,fq⟩:=EU (M1:=M1) h.mem (x:=3+m.c.wo+(j:Int)) (v:=0) Lb Lb
 unfold J7
 simp only [hh.1,Bool.true_eq_false,if_false]
 split
 · have e:∀k',(Qa.setW {m with M:=Qp m.M (3+m.c.wo+(j:Int)) 0} j k').wk j=k':=fun k'=>Jg hwl k'
   rw [e]
   exact ⟨f,U0,fun a=>⟨by show mQ (Qp _ _ _)=[];rw [fq];exact a.2.2.1,fun _=>.inl (by simp [tOf,Q8.end_,Q8.QT,Qz])⟩⟩
 · have e:∀k',(Qa.setW {m with M:=Qp m.M (3+m.c.wo+(j:Int)) 0} j k').wk j=k':=fun k'=>Jg hwl k'
   rw [e]
   exact ⟨f,.inr (.inr (.inr (.inl ⟨rfl,ho,Ld⟩))),fun a=>⟨by show mQ (Qp _ _ _)=[];rw [fq];exact a.2.2.1,fun x=>by simp at x⟩⟩
theorem TI.pins (T:TI c M1 w many E0 m) (h:MInv n m) (hc:m.c=c) (hj:(j:Int)<c.wo) (hs:(m.wk j).st=1):
 Eff c M1 m.M (Qs m j).M∧Wt c M1 (Qs m j).M m.now ((Qs m j).wk j)∧(Alone c M1 m→mQ (Qs m j).M=[]∧(((Qs m j).wk j).st=5→(tOf ((Qs m j).wk j)).st≤8∨15≤(tOf ((Qs m j).wk j)).st)):=by
 subst hc
 have hwl:j<m.ws.length:=by have:=h.wl;omega
 have wo:=h.mem.cf.1
 have hT:(m.wk j).ask.op=0∧0<(m.wk j).grant:=by
  rcases T.wk j hj with x|x|x|x|x|x
  · omega
  · omega
  · omega
  · exact x.2
  · omega
  · omega
 obtain ⟨f,fq⟩:=EU (M1:=M1) h.mem (x:=3+(j:Int)) (v:=(m.wk j).word+1) Lb Lb
 unfold Qs
 simp only [hs,if_true]
 have e:∀M' k',(Qa.setW {m with M:=M'} j k').wk j=k':=fun M' k'=>Jg (m:={m with M:=M'}) hwl k'
 rw [e]
 unfold XE
 split
 · exact ⟨Q7g,.inr (.inr (.inr (.inl ⟨hs,hT⟩))),fun a=>⟨a.2.2.1,fun x=>by simp only [hs] at x;omega⟩⟩
 · refine ⟨f,.inr (.inr (.inr (.inr (.inl ⟨rfl,QU j ((m.wk j).grant - 1), ?_,by simp [QU],by simp [QU]⟩)))),fun a=>⟨by show mQ (Qp _ _ _)=[];rw [fq];exact a.2.2.1,fun x=>by simp at x⟩⟩
   show Vg m.c j (m.wk j)=_
   unfold Vg;rw [if_pos hT.1,if_pos hT.2]
theorem TI.step (T:TI c M1 w many E0 m) (N:NI b m) (h:MInv n m) (hn:n≤1000000000) (hc:m.c=c) (hx:∀k,WX (m.wk k)) (hj:(j:Int)<c.wo) (hst:¬Stuck m j):TI c M1 w many E0 (Qs m j):=by
 subst hc
 have h0:(m.wk j).st≠0:=fun e=>hst (.inl e)
 have hwl:j<m.ws.length:=by have:=h.wl;omega
 obtain ⟨k',S, -⟩:=ZA h hn hj h0
 obtain ⟨-,W1,W2⟩:=S.inv h hj
 obtain ⟨X,hX,hme⟩:=T.me
 -- who reaped Q1W up
 have hjw:j=w→(m.wk j).st=5:=by
  rintro rfl
  rcases hme with ⟨a, -⟩|⟨a, -⟩
  · exact a
  · exact absurd a h0
 have G:(Eff m.c M1 m.M (Qs m j).M∧Wt m.c M1 (Qs m j).M m.now ((Qs m j).wk j)∧(Alone m.c M1 m→mQ (Qs m j).M=[]∧(((Qs m j).wk j).st=5→(tOf ((Qs m j).wk j)).st≤8∨15≤(tOf ((Qs m j).wk j)).st))):=by
  rcases T.wk j hj with x|x|x|x|x|x
  · exact absurd x h0
  · obtain ⟨s6,ht⟩:=x
    have hmay:JG m j=true:=by
     cases hm:JG m j with
     |true=>rfl
     |false=>exact absurd (.inr ⟨s6,hm⟩) hst
    have hg:XZ m j=true:=by
     unfold JG at hmay
     rw [Bool.or_eq_true,Bool.and_eq_true,decide_eq_true_eq] at hmay
     rcases hmay with y|y
     · exact y
     · exact absurd y ht
    have hh:=(h.wk j hj).half Lb Lb
    have e:Qs m j=(m.setW j {(m.wk j) with st:=7}).setW j {(m.wk j) with st:=7,word:=Q6 m.M (3+m.c.wo+(j:Int)),half:=true}:=by
     unfold Qs
     simp only
     rw [if_neg Lb,if_neg Lb,if_neg Lb,if_neg Lb,if_neg Lb,if_pos s6]
     unfold XB
     simp only [hg,if_true]
     unfold J7
     simp only [Jg hwl,hh,if_true]
     rfl
    rw [e,ZB,Jg hwl]
    exact ⟨Q7g,.inr (.inr (.inl rfl)),fun a=>⟨a.2.2.1,fun y=>by simp at y⟩⟩
  · have e:Qs m j=J7 m j:=by
     unfold Qs
     simp only
     rw [if_neg Lb,if_neg Lb,if_neg Lb,if_neg Lb,if_neg Lb,if_neg Lb,if_pos x]
    rw [e];exact T.wakes h rfl hj x (hx j x)
  · exact T.pins h rfl hj x.1
  · have e:Qs m j=QM m j:=by
     unfold Qs
     simp only
     rw [if_neg Lb,if_pos x.1]
    rw [e];exact T.takes h hn rfl hj x.1
  · have e:Qs m j=QK m j:=by
     unfold Qs
     simp only
     rw [if_neg Lb,if_neg Lb,if_neg Lb,if_neg Lb,if_pos x.1]
    rw [e];obtain ⟨a,b',d, -⟩:=T.Q1W N h hn rfl hj x.1;exact ⟨a,b',d⟩
 obtain ⟨f,ht,ha⟩:=G
 refine T.next rfl hj hwl rfl (fun i hi=>W2 i hi) S.now f ht ha ?_
 by_cases hw:j=w
 · have h5:=hjw hw
   have e:Qs m j=QK m j:=by
    unfold Qs
    simp only
    rw [if_neg Lb,if_neg Lb,if_neg Lb,if_neg Lb,if_pos h5]
   obtain ⟨-, -, -,D⟩:=T.Q1W N h hn rfl hj h5
   rw [e]
   subst hw
   rcases hme with ⟨y1,y2,y3,y4⟩|⟨y1, -⟩
   · rcases D with ⟨d1,d2,d3⟩|⟨d1,x,x1,x2,x3,x4,d2⟩
     · exact ⟨X,by rw [d3];exact hX,.inl ⟨d1,by rw [d2];exact y2,by rw [d2];exact y3,y4⟩⟩
     · refine ⟨X++[x],by rw [d2,hX,List.append_assoc],.inr ⟨d1,⟨x,Lc,x1,x2⟩,fun z hz z1 z2=> ?_⟩⟩
       rcases List.mem_append.1 hz with hz|hz
       · exact absurd z2 (y4 z hz z1)
       · rw [List.mem_singleton.1 hz,x3,x4];exact ⟨y2,y3⟩
   · exact absurd y1 h0
 · have e:(Qs m j).wk w=m.wk w:=W2 w (fun x=>hw x.symm)
   rw [e]
   rcases Q49 m j with d|⟨x,d,dx⟩
   · exact ⟨X,by rw [d];exact hX,hme⟩
   · have hxw:x.who≠w:=by rw [dx];omega
     refine ⟨X++[x],by rw [d,hX,List.append_assoc], ?_⟩
     rcases hme with ⟨y1,y2,y3,y4⟩|⟨y1,⟨z,z1,z2⟩,y3⟩
     · refine .inl ⟨y1,y2,y3,fun z hz z1=> ?_⟩
       rcases List.mem_append.1 hz with hz|hz
       · exact y4 z hz z1
       · rw [List.mem_singleton.1 hz];exact hxw
     · refine .inr ⟨y1,⟨z,List.mem_append.2 (.inl z1),z2⟩,fun z hz z1 z2=> ?_⟩
       rcases List.mem_append.1 hz with hz|hz
       · exact y3 z hz z1 z2
       · rw [List.mem_singleton.1 hz] at z2;exact absurd z2 hxw
theorem TI.alike (T:TI c M1 w many E0 m) (h:Alike m m'):TI c M1 w many E0 m':=by
 have e:=h.wk
 obtain ⟨e1,e2,e3,e4,e5⟩:=h
 refine ⟨by rw [e2];exact T.cl,by rw [e2];exact T.le,by rw [e2];exact T.i1,by rw [e2];exact T.i2, ?_,T.sh,by rw [e2,e4];simp only [e];exact T.wk,by rw [e5,e];exact T.me⟩
 rcases T.al with a|⟨a1,a2,a3,a4⟩
 · exact .inl a
 · exact .inr ⟨a1,by rw [e2];exact a2,by rw [e2];exact a3,by simp only [e];exact a4⟩
end
section
variable {n b many:Int} {m m':Qa} {w j:Nat} {c:Q0} {M M' M1 Mb:List Int} {k:Q8} {E0:List EvV}
def idB (s:Q7):Int:=if s.st=2 then 1 else 0
def idle (c:Q0) (M:List Int):Int:=ZV (fun k=>idB (SL c M k)) c.sl.toNat
theorem YX (h:∀i,(SL c M' i).st=2↔(SL c M i).st=2):idle c M'=idle c M:=U2 _ fun k _=>by unfold idB;simp only [h]
theorem Q57 {i:Int} (h:∀j,j≠i→SL c M' j=SL c M j) (h0:0≤i) (h1:i<c.sl) (h2:(SL c M i).st=2) (h3:(SL c M' i).st≠2):idle c M'+1=idle c M:=by
 have H:∀N:Nat,ZV (fun k=>idB (SL c M' k)) N+(if i<N then 1 else 0)=ZV (fun k=>idB (SL c M k)) N:=by
  intro N
  induction N with
  |zero=>simp [ZV];omega
  |succ k ih=>
   unfold ZV
   by_cases hk:(k:Int)=i
   · rw [if_neg Lb] at ih
     rw [if_pos Lb,hk]
     have a:idB (SL c M i)=1:=if_pos h2
     have b:idB (SL c M' i)=0:=if_neg h3
     omega
   · rw [h k hk]
     by_cases hi:i<(k:Int)
     · rw [if_pos hi] at ih;rw [if_pos Lb];omega
     · rw [if_neg hi] at ih;rw [if_neg Lb];omega
 have:=H c.sl.toNat
 rw [if_pos Lb] at this
 exact this
theorem Q56 (h:∀i,(SL c M i).st≠2):idle c M=0:=by
 have e:idle c M=ZV (fun _=>0) c.sl.toNat:=U2 _ fun k _=>if_neg (h k)
 rw [e]
 generalize c.sl.toNat=N
 induction N with
 |zero=>rfl
 |succ k ih=>unfold ZV;rw [ih];rfl
structure RA (c:Q0) (Mb M:List Int) (r:Qy):Prop where
 s:∀i,SL c M i=SL c Mb i∨((SL c Mb i).st=2∧((SL c M i).st=2∨(SL c M i).st=6))
 hi:∀i,r.look.at_≤i→SL c M i=SL c Mb i∨(i=r.look.at_∧r.st=3∧r.rt.swapped=true)
 lo:∀i,i<r.look.at_→(SL c M i).st=2→(SL c M i).mkd=true∧(SL c M i).br=false∧(SL c Mb i).mkd=false∧(SL c Mb i).br=false
 n:r.many+(if r.st=3∧r.rt.swapped=true then 1 else 0)+idle c M=idle c Mb
 wd:r.st≠0→r.look.word=(SL c Mb r.look.at_).enc
 ma:r.st=2→(SL c Mb r.look.at_).mkd=false∧(SL c Mb r.look.at_).br=false
 sw:r.st=3→r.rt.st=.swap→r.rt.word=r.look.word
 gn:r.st=3→r.rt.swapped=true→(SL c M r.look.at_).st=6∧(SL c Mb r.look.at_).st=2
structure RE (c:Q0) (Mb M1:List Int) (many:Int):Prop where
 s:∀i,SL c M1 i=SL c Mb i∨((SL c Mb i).st=2∧((SL c M1 i).st=2∨(SL c M1 i).st=6))
 m:∀i,(SL c M1 i).st=2→(SL c M1 i).mkd=true∧(SL c M1 i).br=false∧(SL c Mb i).mkd=false∧(SL c Mb i).br=false
 n:many+idle c M1=idle c Mb
 n0:0≤many
structure RI (c:Q0) (Mb:List Int) (w:Nat) (E0:List EvV) (m:Qa):Prop where
 st:Still c Mb
 z:Q6 m.M 0=Q6 Mb 0
 q:mQ m.M=mQ Mb
 oth:∀k:Nat,(k:Int)<c.wo→k≠w→Stuck m k
 ev:∃X,m.evs=E0++X∧∀x∈X,x.ended=true→x.who≠w
 me:((m.wk w).st=1∧(m.wk w).ask.op=5∧∀i,SL c m.M i=SL c Mb i)∨((m.wk w).st=2∧∃r,(m.wk w).work=.Xl r∧RA c Mb m.M r)
def PH (c:Q0) (Mb:List Int) (w:Nat) (E0:List EvV) (m:Qa):Prop:=RI c Mb w E0 m∨∃M1 many,RE c Mb M1 many∧TI c M1 w many E0 m
theorem Q0r (hc:m'.c=m.c) (hnow:m'.now=m.now) (hk:m'.wk j=m.wk j) (hg:Q6 m'.M (3+m.c.wo+(j:Int))=Q6 m.M (3+m.c.wo+(j:Int))) (h:Stuck m j):Stuck m' j:=by
 unfold Stuck JG XZ at*
 rw [hk,hc,hnow,hg];exact h
theorem RI.on (R:RI c Mb w E0 m) (hc:m.c=c) (hw:(w:Int)<c.wo) {k':Q8} {m1:Qa} (hwl:w<m1.ws.length) (e1:m1.c=m.c) (e2:m1.ws=m.ws) (e3:m1.evs=m.evs) (e4:m1.now=m.now) (wo:1≤c.wo)
 (lo:∀x,0≤x→x<3+2*m.c.wo→x≠2→x≠3+(w:Int)→Q6 m1.M x=Q6 m.M x)
 (hk:(k'.st=1∧k'.ask.op=5∧∀i,SL c m1.M i=SL c Mb i)∨(k'.st=2∧∃r,k'.work=.Xl r∧RA c Mb m1.M r)):RI c Mb w E0 (m1.setW w k'):=by
 have W:∀i,(m1.setW w k').wk i=if i=w then k' else m.wk i:=fun i=>by
  unfold Qa.wk Qa.setW
  simp only
  rw [Zp,e2]
  by_cases hi:i=w
  · rw [if_pos ⟨hi,by rw [←e2];exact hwl⟩,if_pos hi]
  · rw [if_neg (fun e=>hi e.1),if_neg hi]
 refine ⟨R.st, ?_, ?_,fun i hi hne=> ?_,by show ∃X,m1.evs=E0++X∧_;rw [e3];exact R.ev,by rw [W,if_pos rfl];exact hk⟩
 · show Q6 m1.M 0=_;rw [lo 0 Lb (by rw [hc];omega) Lb Lb];exact R.z
 · show mQ m1.M=_;rw [VK (lo 1 Lb (by rw [hc];omega) Lb Lb)];exact R.q
 · refine Q0r (m:=m) e1 e4 (by rw [W,if_neg hne]) (lo _ (by rw [hc];omega) (by rw [hc];omega) (by rw [hc];omega) (by rw [hc];omega)) (R.oth i hi hne)
theorem RI.fin (R:RI c Mb w E0 m) (h:MInv n m) (hc:m.c=c) (hw:(w:Int)<c.wo) {k0:Q8} {x:EvV} (E:RE c Mb m.M many) (hx:x.e=0∧x.slot=many):TI c m.M w many E0 (m.setW w (k0.end_ w x)):=by
 have hwl:w<m.ws.length:=by have:=h.wl;rw [hc] at this;omega
 have W:∀i,(m.setW w (k0.end_ w x)).wk i=if i=w then k0.end_ w x else m.wk i:=fun i=>by
  unfold Qa.wk Qa.setW
  simp only
  rw [Zp]
  by_cases hi:i=w
  · rw [if_pos ⟨hi,hwl⟩,if_pos hi]
  · rw [if_neg (fun e=>hi e.1),if_neg hi]
 have t8:(tOf (k0.end_ w x)).st≤8:=by simp [tOf,Q8.end_,Q8.QT,Qz]
 refine ⟨rfl,fun _ _=>rfl,fun _ _=>rfl,fun _=>id, ?_,fun h2 i h3=> ?_,fun k hk=> ?_, ?_⟩
 · by_cases hi:∃i,(SL c m.M i).st=2
   · obtain ⟨i,hi⟩:=hi
     have hb2:(SL c Mb i).st=2:=by
      rcases E.s i with e|⟨e, -⟩
      · rw [←e];exact hi
      · exact e
     obtain ⟨-, -, -,a4⟩:=E.m i hi
     have z0:Q6 m.M 0=0:=by
      rw [R.z]
      by_cases hz:Q6 Mb 0=0
      · exact hz
      · exact absurd hb2 (R.st.i hz i)
     refine .inr ⟨fun i hi=>(E.m i hi).2.1,z0, ?_,fun k hk h5=> ?_⟩
     · show mQ m.M=[]
       rw [R.q]
       by_cases hq:mQ Mb=[]
       · exact hq
       · have:=R.st.q (by rw [←R.z];exact z0) hq i hb2;rw [this] at a4;cases a4
     · rw [W] at h5 ⊢
       split
       · exact .inl t8
       · rename_i e
         rw [if_neg e] at h5
         rcases R.oth k hk e with y|⟨y, -⟩<;>omega
   · exact .inl fun i x=>hi ⟨i,x⟩
 · rcases E.s i with e|⟨-,e⟩
   · rw [e] at h3;exact R.st.l (by rw [←R.z];exact h2) i h3
   · omega
 · rw [W]
   split
   · exact U0
   · rename_i e
     rcases R.oth k hk e with y|⟨y,y2⟩
     · exact .inl y
     · refine .inr (.inl ⟨y,fun ⟨z1,z2⟩=> ?_⟩)
       unfold JG at y2
       rw [Bool.or_eq_false_iff,Bool.and_eq_false_iff,decide_eq_false_iff_not] at y2
       rcases y2.2 with y3|y3
       · rw [z1] at y3;cases y3
       · exact y3 z2
 · obtain ⟨X,e1,e2⟩:=R.ev
   refine ⟨X,e1,.inl ?_⟩
   rw [W,if_pos rfl]
   exact ⟨rfl,hx.1,hx.2,e2⟩
theorem RA.here {r:Qy} (A:RA c Mb M r) (h:r.st≠3∨r.rt.swapped=false):SL c M r.look.at_=SL c Mb r.look.at_:=by
 rcases A.hi _ (Int.le_refl _) with e|⟨-,e,e2⟩
 · exact e
 · rcases h with h|h
   · exact absurd e h
   · rw [h] at e2;cases e2
theorem RA.end_ {r:Qy} (A:RA c Mb M r) (h0:r.st=0) (hm:0≤r.many) (hat:∀i,r.look.at_≤i→(SL c M i).st≠2):RE c Mb M r.many:=by
 refine ⟨A.s,fun i hi=> ?_, ?_,hm⟩
 · by_cases h:i<r.look.at_
   · exact A.lo i h hi
   · exact absurd hi (hat i Lb)
 · have:=A.n
   rw [if_neg Lb] at this;omega
theorem Q3y (h:Qj c n M) {i:Int} (h0:0≤i) (h1:i<c.sl):Qx M (Q5 c i) (SL c M i).enc=true:=by
 rw [h.VI ⟨h0,h1⟩];unfold mt;rw [decide_eq_true_eq];exact (h.at i).2.1
end
section
variable {n b many:Int} {m m':Qa} {w j:Nat} {c:Q0} {M M' M1 Mb:List Int} {k:Q8} {E0:List EvV}
theorem nx_11 {s:Q7} (h:s.st=2):∃u,Qk s 11 0 4095=some u:=VG Lb (t:=Z6 s 0 4095) (by simp [chg,isV,h,Z0])
theorem nx_10 {s:Q7} (h:s.st=2) (hm:s.mkd=false) {o:Int} (ho:0≤o∧o≤15):∃u,Qk s 10 o 0=some u:=VG ho (t:={s with mkd:=true}) (by simp [chg,isV,h,hm])
theorem Z0T {P:Prop} (h:P:=by
 have e0:t.swapped=true:=by rw [hsw,a1];rfl
 rw [e0] at n1
 exact G hdn Lc e0 (fun _ _=>rfl) (gn e0).1 (gn e0).2 (by simpa using n1)):P:=h
theorem RI.Xl (R:RI c Mb w E0 m) (h:MInv n m) (hn:n≤1000000000) (hc:m.c=c) (hw:(w:Int)<c.wo) (hs:(m.wk w).st=2):PH c Mb w E0 (QM m w):=by
 subst hc
 have hwl:w<m.ws.length:=by have:=h.wl;omega
 obtain ⟨r,hk,A⟩:∃r,(m.wk w).work=.Xl r∧RA m.c Mb m.M r:=by
  rcases R.me with x|x
  · omega
  · exact x.2
 have wo:=h.mem.cf.1
 have hl:=(h.wk w hw).wk hs
 rw [hk] at hl
 obtain ⟨ho,l⟩:=hl
 have mn:=l.mn.1
 have lid:∀x:Int,0≤x→x<3+2*m.c.wo→x≠2→x≠3+(w:Int)→Q6 m.M x=Q6 m.M x:=fun _ _ _ _ _=>rfl
 have hs4:r.st=0∨r.st=1∨r.st=2∨r.st=3:=by have:=l.s0;have:=l.s1;omega
 have cE:Q5 m.c r.look.at_=m.c.slot r.look.at_∨¬r.look.at_<m.c.sl:=by
  by_cases hi:r.look.at_<m.c.sl
  · left;unfold Q5;rw [if_pos ⟨l.a.1,hi⟩]
  · exact .inr hi
 unfold QM
 simp only [hk]
 unfold J4
 rcases hs4 with h0|h0|h0|h0
 · -- the search
   rw [if_pos h0]
   have n0:r.many+idle m.c m.M=idle m.c Mb:=by have:=A.n;rw [if_neg Lb] at this;omega
   rcases JY m.c r.look m.M (l.lk h0) with ⟨a1,a2,e⟩|⟨a1,a2,e⟩|⟨a1,e⟩
   · rw [e];simp only [if_true]
     obtain ⟨f1,f2,f3⟩:=h.mem.ZL l.a.1 a1 a2
     refine .inl (R.on rfl hw (m1:=m) hwl rfl rfl rfl rfl wo.1 lid (.inr ⟨hs,_,rfl,⟨A.s,fun i hi=> ?_,A.lo, ?_,fun _=> ?_,Lc,Lc,Lc⟩⟩))
     · rcases A.hi i hi with x|⟨-,x, -⟩
       · exact .inl x
       · omega
     · simp only;rw [if_neg Lb];omega
     · show Q6 m.M (m.c.slot r.look.at_)=_
       rw [f2,A.here (.inl Lb)]
   · rw [e];simp only [l.lk h0,Bool.false_eq_true,if_false]
     have hf:=ES h.mem l.a.1 a1 a2
     have hno:(SL m.c m.M r.look.at_).st≠2:=fun x=>by rw [l.kd] at hf;simp [Jq,isV,x] at hf
     by_cases h1:m.c.sl≤r.look.at_+1
     · simp only [decide_eq_true h1,if_true]
       have E:RE m.c Mb m.M r.many:=A.end_ h0 mn fun i hi=>by
        by_cases hi2:i=r.look.at_
        · rw [hi2];exact hno
        · rw [Q01 Lb];simp [Vy]
       exact .inr ⟨m.M,r.many,E,R.fin h rfl hw E ⟨rfl,rfl⟩⟩
     · simp only [decide_eq_false h1,Bool.false_eq_true,if_false]
       refine .inl (R.on rfl hw (m1:=m) hwl rfl rfl rfl rfl wo.1 lid (.inr ⟨hs,_,rfl,⟨A.s,fun i hi=> ?_,fun i hi h2=> ?_, ?_,by simp only [h0];omega,by simp only [h0];omega,by simp only [h0];omega,by simp only [h0];omega⟩⟩))
       · simp only at hi
         rcases A.hi i Lb with x|⟨-,x, -⟩
         · exact .inl x
         · omega
       · simp only at hi
         by_cases hi2:i=r.look.at_
         · rw [hi2] at h2;exact absurd h2 hno
         · exact A.lo i Lb h2
       · simp only;rw [if_neg Lb];omega
   · rw [e];simp only [l.lk h0,Bool.false_eq_true,if_false,if_true]
     have E:RE m.c Mb m.M r.many:=A.end_ h0 mn fun i hi=>by rw [Q01 Lb];simp [Vy]
     exact .inr ⟨m.M,r.many,E,R.fin h rfl hw E ⟨rfl,rfl⟩⟩
 · -- the probe
   rw [if_neg Lb,if_pos h0]
   obtain ⟨f1,f2,s,f3,f4,f5⟩:=l.fd Lb
   have wd:=A.wd Lb
   have here:=A.here (.inl Lb)
   have n0:r.many+idle m.c m.M=idle m.c Mb:=by have:=A.n;rw [if_neg Lb] at this;omega
   have hb:=(h.mem.at r.look.at_).1
   rw [here] at hb
   have hd:(dec r.look.word).getD ⟨0,0,0,false,false,0,0,0,0⟩=SL m.c Mb r.look.at_:=by rw [wd,QF hb];rfl
   have hi':∀i,r.look.at_≤i→SL m.c m.M i=SL m.c Mb i:=fun i hi=>by
    rcases A.hi i hi with x|⟨-,x, -⟩
    · exact x
    · omega
   simp only [hd]
   split
   · rename_i hg
     simp only [Bool.and_eq_true,Bool.not_eq_true'] at hg
     exact .inl (R.on rfl hw (m1:=m.Qr.1) hwl rfl rfl rfl rfl wo.1 lid (.inr ⟨hs,_,rfl,⟨A.s,fun i hi=>.inl (hi' i hi),A.lo,by simp only;rw [if_neg Lb];exact (by show r.many+0+idle m.c m.M=_;omega),fun _=>wd,fun _=>⟨hg.1.2,hg.2⟩,Lc,Lc⟩⟩))
   · exact .inl (R.on rfl hw (m1:=m.Qr.1) hwl rfl rfl rfl rfl wo.1 lid (.inr ⟨hs,_,rfl,⟨A.s,fun i hi=>.inl (hi' i hi),A.lo,by simp [Qy.rt,Jb];exact n0,fun _=>wd,Lc,fun _ _=>by simp [Qy.rt,Jb],by simp [Qy.rt,Jb]⟩⟩))
 · -- the mark
   rw [if_neg Lb,if_neg Lb,if_pos h0]
   obtain ⟨f1,f2,s,f3,f4,f5⟩:=l.fd Lb
   have wd:=A.wd Lb
   obtain ⟨g1,g2⟩:=A.ma h0
   have here:=A.here (.inl Lb)
   have n0:r.many+idle m.c m.M=idle m.c Mb:=by have:=A.n;rw [if_neg Lb] at this;omega
   have hb:=(h.mem.at r.look.at_).1
   have es:s=SL m.c m.M r.look.at_:=by
    have a:=QF f3;have b:=QF hb
    rw [←f4,wd,←here,b] at a;exact (Option.some.inj a).symm
   have h2:(SL m.c m.M r.look.at_).st=2:=by rw [←es];exact f5
   rw [←here] at g1 g2 wd
   obtain ⟨u,hu⟩:=nx_10 h2 g1 (o:=w) Lb
   obtain ⟨-,u1,u2,u3⟩:=nst hu
   have hcas:=Q3y h.mem l.a.1 f2
   obtain ⟨-,sw⟩:=h.mem.swp (QF hb) hu hcas
   have ha:J6 r.look.word 10 w 0=some (u,u.enc):=by rw [wd];exact DT (QF hb) hu
   simp only [ha]
   rw [wd]
   have S0:∀i,i≠r.look.at_→SL m.c (QI m.M (Q5 m.c r.look.at_) (SL m.c m.M r.look.at_).enc u.enc) i=SL m.c m.M i:=fun i hi=>by rw [sw,if_neg hi]
   refine .inl (R.on rfl hw (m1:={m with M:=_}) hwl rfl rfl rfl rfl wo.1 (fun x x0 x1 _ _=>YF h.mem.cf x0 x1) (.inr ⟨hs,_,rfl,⟨fun i=> ?_,fun i hi=> ?_,fun i hi hi2=> ?_, ?_,by simp [Qy.QO],by simp [Qy.QO],by simp [Qy.QO],by simp [Qy.QO]⟩⟩))
   · by_cases hi:i=r.look.at_
     · simp only [sw,if_pos hi];rw [hi];exact .inr ⟨by rw [←here];exact h2,.inl u1⟩
     · simp only [S0 i hi];exact A.s i
   · simp only [Qy.QO,Qi.go,f1,if_true] at hi
     simp only [S0 i Lb]
     rcases A.hi i Lb with x|⟨-,x, -⟩
     · exact .inl x
     · omega
   · simp only [Qy.QO,Qi.go,f1,if_true] at hi
     by_cases hi3:i=r.look.at_
     · simp only [sw,if_pos hi3];rw [hi3,←here];exact ⟨u2,by rw [u3];exact g2,g1,g2⟩
     · simp only [S0 i hi3] at hi2 ⊢;exact A.lo i Lb hi2
   · rw [if_neg (fun y=>by simp [Qy.QO] at y),show r.QO.many=r.many from rfl]
     have:idle m.c (QI m.M (Q5 m.c r.look.at_) (SL m.c m.M r.look.at_).enc u.enc)=idle m.c m.M:=YX fun i=>by
      by_cases hi:i=r.look.at_
      · rw [sw,if_pos hi,hi];exact ⟨fun _=>h2,fun _=>u1⟩
      · rw [S0 i hi]
     rw [this];omega
 · -- it is retired
   rw [if_neg Lb,if_neg Lb,if_neg Lb]
   obtain ⟨f1,f2,s,f3,f4,f5⟩:=l.fd Lb
   have wd:=A.wd Lb
   obtain ⟨t,ht,hlt⟩:=l.rt h0
   have er:r.rt=t:=by unfold Qy.rt;rw [ht];rfl
   have hS:=ZC t m.M hlt.nd
   have hsw:=hlt.sw
   have hdn:=hlt.dn
   have n1:r.many+(if t.swapped=true then 1 else 0)+idle m.c m.M=idle m.c Mb:=by have:=A.n;rw [er] at this;simp only [h0,true_and] at this;exact this
   rw [er]
   generalize Qn t m.M=x at*
   obtain ⟨t',M'⟩:=x
   simp only at hS ⊢
   have lo:∀x:Int,0≤x→x<3+2*m.c.wo→x≠2→x≠3+(w:Int)→Q6 M' x=Q6 m.M x:=fun x a b d _=>hS.Wn h.mem.cf hlt.cl x a b d
   have hb:=(h.mem.at r.look.at_).1
   have eD:∀{u v:Q7},u.right→v.right→u.enc=v.enc→u=v:=fun hu hv e=>by have a:=QF hu;rw [e,QF hv] at a;exact (Option.some.inj a).symm
   -- it goes on
   have G:t'.done=false→t'.st≠.swap→t'.swapped=true→(∀i,i≠r.look.at_→SL m.c M' i=SL m.c m.M i)→(SL m.c M' r.look.at_).st=6→(SL m.c Mb r.look.at_).st=2→r.many+1+idle m.c M'=idle m.c Mb→
    PH m.c Mb w E0 (Qa.setW {m with M:=M'} w {(m.wk w) with work:=.Xl (if t'.done=true then {{r with ret:=some t'} with many:=if t'.swapped=true then r.many+1 else r.many}.QO else {r with ret:=some t'})}):=by
    intro d0 d1 d2 d3 d4 d5 d6
    rw [if_neg (by rw [d0];simp)]
    refine .inl (R.on rfl hw (m1:={m with M:=M'}) hwl rfl rfl rfl rfl wo.1 lo (.inr ⟨hs,_,rfl,⟨fun i=> ?_,fun i hi=> ?_,fun i hi hi2=> ?_, ?_,fun _=>wd,by simp only [h0];omega,fun _ y=>absurd y d1,fun _ _=>⟨d4,d5⟩⟩⟩))
    · by_cases hi:i=r.look.at_
      · rw [hi];exact .inr ⟨d5,.inr d4⟩
      · simp only [d3 i hi];exact A.s i
    · by_cases hi2:i=r.look.at_
      · rw [hi2];exact .inr ⟨rfl,h0,d2⟩
      · simp only [d3 i hi2]
        rcases A.hi i hi with x|⟨x, -⟩
        · exact .inl x
        · exact absurd x hi2
    · simp only at hi hi2
      rw [d3 i Lb] at hi2
      simp only [d3 i (show i≠r.look.at_ by omega)];exact A.lo i hi hi2
    · simp only [Qy.rt,Option.getD_some,h0,d2,and_self,if_true];exact d6
   have gn:=A.gn h0
   rw [er] at gn
   have ad:∀i,SL m.c (VU m.M 2 1) i=SL m.c m.M i:=fun i=>by rw [Ht h.mem hn];exact h.mem.Y0 Lb Lb i
   cases hS with
   |lost a1 a2=>
    exfalso
    have e0:t.swapped=false:=by rw [hsw,a1];rfl
    have here:=A.here (.inr (by rw [er];exact e0))
    have ew:t.word=(SL m.c m.M r.look.at_).enc:=by rw [here,←wd,←er];exact A.sw h0 (by rw [er];exact a1)
    have e2:(SL m.c m.M r.look.at_).st=2:=by
     have:=eD f3 hb (by rw [←f4,wd,here])
     rw [←this];exact f5
    obtain ⟨u,hu⟩:=nx_11 e2
    have:=a2 _ u (by rw [ew];exact QF hb) hu
    rw [hlt.cl,ew,Q3y h.mem l.a.1 f2] at this
    cases this
   |swap s' u a1 a2 a3 a4=>
    have e0:t.swapped=false:=by rw [hsw,a1];rfl
    have here:=A.here (.inr (by rw [er];exact e0))
    rw [e0] at n1
    have hce:=hlt.cl
    rw [hce] at a4
    obtain ⟨b1,b2⟩:=h.mem.swp a2 a3 a4
    have ew:t.word=(SL m.c m.M r.look.at_).enc:=by rw [here,←wd,←er];exact A.sw h0 (by rw [er];exact a1)
    have e2:(SL m.c m.M r.look.at_).st=2:=by
     have:=eD f3 hb (by rw [←f4,wd,here])
     rw [←this];exact f5
    have e6:=(nst a3).2
    have S0:∀i,i≠r.look.at_→SL m.c (QI m.M t.cell t.word u.enc) i=SL m.c m.M i:=fun i hi=>by rw [hce,b2,if_neg hi]
    have S1:(SL m.c (QI m.M t.cell t.word u.enc) r.look.at_).st=6:=by rw [hce,b2,if_pos rfl];exact e6
    refine G hdn Lc rfl S0 S1 (by rw [←here];exact e2) ?_
    have:=Q57 S0 l.a.1 f2 e2 Lb
    simp at n1;omega
   |look a1=>
    exact Z0T
   |stale a1 a2=>
    exact Z0T
   |age s' u a1 a2 a3 a4=>
    have e0:t.swapped=true:=by rw [hsw,a1];rfl
    rw [e0] at n1
    have hce:=hlt.cl
    rw [hce] at a4
    obtain ⟨b1,b2⟩:=h.mem.swp a2 a3 a4
    obtain ⟨e5,e6⟩:=nst a3
    have S0:∀i,i≠r.look.at_→SL m.c (QI m.M t.cell t.word u.enc) i=SL m.c m.M i:=fun i hi=>by rw [hce,b2,if_neg hi]
    have S1:(SL m.c (QI m.M t.cell t.word u.enc) r.look.at_).st=6:=by rw [hce,b2,if_pos rfl];exact e6
    refine G hdn Lc e0 S0 S1 (gn e0).2 ?_
    rw [YX fun i=> ?_]
    · simpa using n1
    · by_cases hi:i=r.look.at_
      · rw [hi];have:=(gn e0).1;omega
      · rw [S0 i hi]
   |QO a1=>
    have e0:t.swapped=true:=by rw [hsw,a1];rfl
    rw [e0] at n1
    obtain ⟨g6,g2⟩:=gn e0
    simp only [J2.fin,if_true,e0]
    refine .inl (R.on rfl hw (m1:={m with M:=_}) hwl rfl rfl rfl rfl wo.1 lo (.inr ⟨hs,_,rfl,⟨fun i=> ?_,fun i hi=> ?_,fun i hi hi2=> ?_, ?_,by simp [Qy.QO],by simp [Qy.QO],by simp [Qy.QO],by simp [Qy.QO]⟩⟩))
    · simp only [ad];exact A.s i
    · simp only [Qy.QO,Qi.go,f1,if_true] at hi
      simp only [ad]
      rcases A.hi i Lb with x|⟨x, -⟩
      · exact .inl x
      · omega
    · simp only [Qy.QO,Qi.go,f1,if_true] at hi
      simp only [ad] at hi2 ⊢
      by_cases hi3:i=r.look.at_
      · rw [hi3] at hi2;omega
      · exact A.lo i Lb hi2
    · rw [if_neg (fun y=>by simp [Qy.QO] at y)]
      have:idle m.c (VU m.M 2 1)=idle m.c m.M:=YX fun i=>by rw [ad]
      simp only [Qy.QO,this]
      simpa using n1
end
section
variable {n b many:Int} {m m':Qa} {w j:Nat} {c:Q0} {M M' M1 Mb:List Int} {k:Q8} {E0:List EvV}
theorem RI.alike (R:RI c Mb w E0 m) (h:Alike m m'):RI c Mb w E0 m':=by
 have e:=h.wk;have es:=h.stuck
 obtain ⟨e1,e2,e3,e4,e5⟩:=h
 exact ⟨R.st,by rw [e2];exact R.z,by rw [e2];exact R.q,fun k hk hne=>(es k).2 (R.oth k hk hne),by rw [e5];exact R.ev,by rw [e2];simp only [e];exact R.me⟩
theorem PH.alike (P:PH c Mb w E0 m) (h:Alike m m'):PH c Mb w E0 m':=by
 rcases P with R|⟨M1,many,E,T⟩
 · exact .inl (R.alike h)
 · exact .inr ⟨M1,many,E,T.alike h⟩
theorem RI.step (R:RI c Mb w E0 m) (h:MInv n m) (hn:n≤1000000000) (hc:m.c=c) (hw:(w:Int)<c.wo):PH c Mb w E0 (Qs m w):=by
 have hwl:w<m.ws.length:=by have:=h.wl;rw [hc] at this;omega
 rcases R.me with ⟨s,ho,hs⟩|⟨s, -⟩
 · have wo:=h.mem.cf.1
   subst hc
   have e:Qs m w=({m with M:=(XE (m.wk w) m.c w m.M).2}:Qa).setW w (XE (m.wk w) m.c w m.M).1:=by unfold Qs;simp only;rw [if_pos s]
   rw [e]
   left
   unfold XE
   split
   · exact R.on rfl hw (m1:={m with M:=m.M}) hwl rfl rfl rfl rfl wo.1 (fun _ _ _ _ _=>rfl) (.inl ⟨s,ho,hs⟩)
   · have sl:=(EU (M1:=Mb) h.mem (x:=3+(w:Int)) (v:=(m.wk w).word+1) Lb Lb).1
     have S:∀i,SL m.c (Qp m.M (3+(w:Int)) ((m.wk w).word+1)) i=SL m.c Mb i:=fun i=>by
      have:=h.mem.len;have:=h.mem.cf.2.1
      rw [Jr Lb (by unfold Q0.cells at*;omega),h.mem.Y0 Lb Lb];exact hs i
     refine R.on rfl hw (m1:={m with M:=Qp m.M (3+(w:Int)) ((m.wk w).word+1)}) hwl rfl rfl rfl rfl wo.1 (fun x _ _ _ x4=>QW Lb Lb) (.inr ⟨rfl,JV w, ?_,⟨fun i=>.inl (S i),fun i _=>.inl (S i),fun i hi h2=> ?_, ?_,by simp [JV],by simp [JV],by simp [JV],by simp [JV]⟩⟩)
     · show Vg m.c w (m.wk w)=_
       unfold Vg;rw [if_neg Lb,if_neg Lb,if_neg Lb,if_neg Lb,if_neg Lb,if_pos ho]
     · simp only [JV,QE] at hi
       rw [Q01 Lb] at h2;simp [Vy] at h2
     · rw [if_neg (fun y=>by simp [JV] at y)]
       show (0:Int)+0+idle m.c (Qp m.M (3+(w:Int)) ((m.wk w).word+1))=_
       have:=YX (c:=m.c) (M:=Mb) (M':=Qp m.M (3+(w:Int)) ((m.wk w).word+1)) fun i=>by rw [S]
       omega
 · have e:Qs m w=QM m w:=by
    unfold Qs
    simp only
    rw [if_neg Lb,if_pos s]
   rw [e];exact R.Xl h hn hc hw s
theorem PH.pick (P:PH c Mb w E0 m) (g:GI c m) (N:NI b m) (hn:m.entries≤900000000) (hw:(w:Int)<c.wo) (hj:(j:Int)<c.wo):PH c Mb w E0 (doV m (JB j)).1∧NI b (doV m (JB j)).1:=by
 refine ⟨?_,by have:=N.do_ g hn (JB j);rwa [if_neg (by simp [JB])] at this⟩
 obtain ⟨-, -,C⟩:=ZE g hn hj
 rcases C with ⟨-,a, -⟩|⟨-,hs,e, -⟩
 · exact P.alike a
 · rw [e]
   have al:Alike m {m with at_:=m.entries,entries:=m.entries+1}:=⟨rfl,rfl,rfl,rfl,rfl⟩
   have B:MInv m.entries {m with at_:=m.entries,entries:=m.entries+1}:=⟨g.i.mem,g.i.gd,g.i.bd,g.i.ah,g.i.nw,g.i.ev,g.i.wl,g.i.wk⟩
   have hs':¬Stuck {m with at_:=m.entries,entries:=m.entries+1} j:=fun x=>hs ((al.stuck j).1 x)
   rcases P.alike al with R|⟨M1,many,E,T⟩
   · by_cases hjw:j=w
     · subst hjw;exact R.step B Lb g.c hw
     · exact absurd (R.oth j hj hjw) hs'
   · exact .inr ⟨M1,many,E,T.step (N.alike rfl rfl rfl rfl) B Lb g.c (fun k=>g.x k) hj hs'⟩
def YD (w:Int):QD:=⟨0,w,{Yy with op:=5},0,false⟩
theorem PH.begin (g:GI c m) (N:NI b m) (hr:YM m) (hb:b≤1990) (hw:(w:Int)<c.wo) (h0:(m.wk w).st=0):(doV m (YD w)).2=true∧PH c m.M w m.evs (doV m (YD w)).1:=by
 have hwl:w<m.ws.length:=by have:=g.i.wl;have:=g.c;subst this;omega
 have hrun:=Z8 m.ws
 have hev:=N.ev
 have e:doV m (YD w)=(({m with at_:=m.entries,entries:=m.entries+1,evs:=m.evs++[{ev0 with who:=w,at_:=m.entries,ask:={Yy with op:=5}}]}:Qa).setW w {Ju with st:=1,ask:={Yy with op:=5}},true):=by
  unfold doV YD
  simp only [if_true]
  unfold Vi
  rw [if_pos]
  · rfl
  · refine ⟨?_,h0,by show m.evs.length<1999;omega,Lc,Lc⟩
    unfold Qa.has
    rw [Bool.and_eq_true,decide_eq_true_eq,decide_eq_true_eq]
    exact ⟨Ld,by show (w:Int)<(m.ws.length:Int);omega⟩
 rw [e]
 refine ⟨rfl,.inl ⟨g.c▸N.still hr,rfl,rfl,fun k hk hne=> ?_,⟨[_],rfl,fun x hx y=> ?_⟩,.inl ?_⟩⟩
 · refine Q0r (m:=m) rfl rfl ?_ rfl (hr k (by rw [g.c];exact hk))
   unfold Qa.wk Qa.setW
   simp only
   rw [Zp,if_neg (fun e=>hne e.1)]
 · rw [List.mem_singleton.1 hx] at y;simp [ev0] at y
 · have:(Qa.setW ({m with at_:=m.entries,entries:=m.entries+1,evs:=m.evs++[{ev0 with who:=w,at_:=m.entries,ask:={Yy with op:=5}}]}:Qa) w {Ju with st:=1,ask:={Yy with op:=5}}).wk w={Ju with st:=1,ask:={Yy with op:=5}}:=Jg (m:={m with at_:=m.entries,entries:=m.entries+1,evs:=m.evs++[_]}) hwl _
   rw [this]
   exact ⟨rfl,rfl,fun _=>rfl⟩
structure UF (c:Q0) (Mb M:List Int) (w:Nat) (E0 evs:List EvV) (many:Int):Prop where
 n0:0≤many
 le:∀i,(SL c Mb i).st=3→SL c M i=SL c Mb i
 n:many+idle c M=idle c Mb
 ma:∀i,(SL c M i).st=2→(SL c M i).mkd=true∧(SL c Mb i).st=2∧(SL c Mb i).mkd=false
 ev:∃X,evs=E0++X∧(∃x∈X,x.ended=true∧x.who=w)∧∀x∈X,x.ended=true→x.who=w→x.e=0∧x.slot=many
theorem PH.rest (P:PH c Mb w E0 m) (hc:m.c=c) (hr:YM m) (hw:(w:Int)<c.wo):(m.wk w).st=0∧∃many,UF c Mb m.M w E0 m.evs many:=by
 have hs:=hr w (by rw [hc];exact hw)
 rcases P with R|⟨M1,many,E,T⟩
 · exfalso
   rcases R.me with ⟨a, -⟩|⟨a, -⟩<;>rcases hs with x|⟨x, -⟩<;>omega
 · have h0:(m.wk w).st=0:=by
    obtain ⟨X,e,y⟩:=T.me
    rcases y with ⟨y, -⟩|⟨y, -⟩
    · rcases hs with x|⟨x, -⟩<;>omega
    · exact y
   refine ⟨h0,many,E.n0,fun i h3=> ?_, ?_,fun i h2=> ?_, ?_⟩
   · rcases E.s i with e|⟨e, -⟩
     · rw [T.le i (by rw [e];exact h3),e]
     · omega
   · rw [YX fun i=>⟨fun x=>T.i2 i x,fun x=>by rw [T.i1 i x];exact x⟩];exact E.n
   · have h1:=T.i2 i h2
     obtain ⟨a1, -,a3, -⟩:=E.m i h1
     refine ⟨by rw [T.i1 i h1];exact a1, ?_,a3⟩
     rcases E.s i with e|⟨e, -⟩
     · rw [←e];exact h1
     · exact e
   · obtain ⟨X,e,y⟩:=T.me
     rcases y with ⟨y, -⟩|⟨-,y⟩
     · exfalso;rcases hs with x|⟨x, -⟩<;>omega
     · exact ⟨X,e,y⟩
theorem Q3W {Ma Mb Md:List Int} {a b:Int} {Ea eb Eb ed:List EvV} (A:UF c Ma Mb w Ea eb a) (B:UF c Mb Md w Eb ed b):(∀i,(SL c Md i).st≠2)∧(∀i,(SL c Ma i).st=3→SL c Md i=SL c Ma i)∧a+b=idle c Ma:=by
 have no:∀i,(SL c Md i).st≠2:=fun i h=>by
  obtain ⟨-,x,y⟩:=B.ma i h
  rw [(A.ma i x).1] at y;cases y
 refine ⟨no,fun i h=> ?_, ?_⟩
 · have e:=A.le i h
   rw [B.le i (by rw [e];exact h),e]
 · have:=A.n;have:=B.n;rw [Q56 no] at this;omega
end
end Go.Proofs.YtgjklfmnmljilaaGreatDoor
