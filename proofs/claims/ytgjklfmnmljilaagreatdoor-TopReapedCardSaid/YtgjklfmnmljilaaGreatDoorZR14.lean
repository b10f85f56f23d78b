/- A part of the proof. -/
import Derived.Test.YtgjklfmnmljilaaGreatDoorZR13
namespace Go.Proofs.YtgjklfmnmljilaaGreatDoor
set_option linter.unusedVariables false
set_option linter.unusedSimpArgs false
set_option linter.unusedSectionVars false
set_option linter.unnecessarySimpa false
set_option maxRecDepth 100000
set_option maxHeartbeats 8000000
section
variable {n:Int} {m m':Qa} {w:Nat} {c:Q0} {M M':List Int} {k:Q8}
theorem Q7P (t:Qf):yA M' t≤yA M t+2:=by
 unfold yA
 split
 · split<;>split<;>omega
 · split
   · split<;>split<;>omega
   · split<;>omega
theorem Q7Z:wJ c M' k≤wJ c M k+2:=by
 unfold wJ
 have:=Q7P (M:=M) (M':=M') (k.ti.getD (Qz 0))
 repeat' split
 all_goals omega
theorem Q36 (h:mQ M'=mQ M):wJ c M' k=wJ c M k:=by unfold wJ yA;rw [h]
theorem Same.ZP (h:Same c M M') (t:Tw2):ZP c M' t↔ZP c M t:=by unfold Go.Proofs.YtgjklfmnmljilaaGreatDoor.ZP;rw [h.cur]
theorem Same.kR (h:Same c M M') (t:Qd):kR c M' t=kR c M t:=by unfold Go.Proofs.YtgjklfmnmljilaaGreatDoor.kR rR;simp only [h.mt,h.wlY]
theorem Same.rpR (h:Same c M M') (r:Qy):rpR c M' r=rpR c M r:=by unfold Go.Proofs.YtgjklfmnmljilaaGreatDoor.rpR rR;simp only [h.mt]
theorem Same.gR (h:Same c M M') (r:QC):gR c M' r=gR c M r:=by unfold Go.Proofs.YtgjklfmnmljilaaGreatDoor.gR rR;simp only [h.mt]
theorem Same.sR (h:Same c M M') (r:QN):sR c M' r=sR c M r:=by unfold Go.Proofs.YtgjklfmnmljilaaGreatDoor.sR;simp only [h.mt]
theorem Same.qR (h:Same c M M') (r:QuS):qR c M' r=qR c M r:=by unfold Go.Proofs.YtgjklfmnmljilaaGreatDoor.qR;rw [h.mQ]
theorem Same.yR (h:Same c M M') (t:Qf):yR c M' t=yR c M t:=by unfold Go.Proofs.YtgjklfmnmljilaaGreatDoor.yR yB yE rR;simp only [h.mt,h.mQ,h.e]
theorem Same.cR (h:Same c M M') (t:Tw2):cR c M' t=cR c M t:=by unfold Go.Proofs.YtgjklfmnmljilaaGreatDoor.cR;rw [h.twR];simp only [h.ZP]
theorem Same.jR (h:Same c M M') (j:Yh):jR c M' j=jR c M j:=by
 cases j with
 |none=>rfl
 |get t=>exact h.kR t
 |give g=>exact h.gR g
 |strm s=>exact h.sR s
 |Xl r=>exact h.rpR r
 |close f d=>
  cases d with
  |none=>rfl
  |some q=>exact h.qR q
 |stats t=>show Go.Proofs.YtgjklfmnmljilaaGreatDoor.twR c M' t+_+_=Go.Proofs.YtgjklfmnmljilaaGreatDoor.twR c M t+_+_;rw [h.twR]
theorem Same.wR (h:Same c M M'):wR c M' k=wR c M k:=by unfold Go.Proofs.YtgjklfmnmljilaaGreatDoor.wR;rw [h.jR,h.cR,h.qR,h.yR]
theorem Q6t (h:MInv n m) (hn:n≤1000000000) (hw:(w:Int)<m.c.wo) (h0:(m.wk w).st≠0):((Qs m w).wk w).st=0∨((Qs m w).wk w).st=6∨Phi (Qs m w)+1≤Phi m:=by
 obtain ⟨k',S, -⟩:=ZA h hn hw h0
 obtain ⟨I, -,W2⟩:=S.inv h hw
 rcases Q8f h hn hw h0 with g|g|g
 · exact .inl g
 · exact .inr (.inl g)
 right;right
 have hwl:w<m.ws.length:=by have:=h.wl;omega
 have el:(Qs m w).ws.length=m.ws.length:=by rw [S.ws,List.length_set]
 have wo:=h.mem.cf.1
 have hN:(m.ws.length:Int)=m.c.wo:=h.wl
 have l1:=Q7B h;have l2:=Q7B I
 have lp:=Q7D h
 rw [S.c] at l2
 have hE:∀d:Int,0≤d→(∀k,k≠w→wJ m.c (Qs m w).M (m.wk k)≤wJ m.c m.M (m.wk k)+d)→
  ZV (fun k=>wJ (Qs m w).c (Qs m w).M ((Qs m w).wk k)) (Qs m w).ws.length≤ZV (fun k=>wJ m.c m.M (m.wk k)) m.ws.length+(wJ m.c (Qs m w).M ((Qs m w).wk w) - wJ m.c m.M (m.wk w) - d)+d*m.c.wo:=by
  intro d hd hk
  have:=Wy (f:=fun k=>wJ m.c m.M (m.wk k)) (g:=fun k=>wJ (Qs m w).c (Qs m w).M ((Qs m w).wk k)) (w:=w) (d:=d) hd (fun k hkw=>by simp only [S.c,W2 k hkw];exact hk k hkw) (Qs m w).ws.length
  rw [el,if_pos hwl,hN] at this
  rw [el]
  simp only [S.c] at this ⊢
  exact this
 have fin:Ej (Qs m w)+1≤Ej m→Phi (Qs m w)+1≤Phi m:=by
  intro e
  unfold Phi
  rw [S.c]
  have:(m.c.wo*Lm m.c+1)*(Ej (Qs m w)+1)≤(m.c.wo*Lm m.c+1)*Ej m:=Int.mul_le_mul_of_nonneg_left e Lb
  rw [Int.mul_add,Int.mul_one] at this
  omega
 rcases g with ⟨a,b⟩|⟨a,b⟩|⟨a,b,d⟩
 · refine fin ?_
   have:=hE 0 Lb (fun k _=>by rw [Q36 a];omega)
   unfold Ej
   rw [a]
   rw [S.c] at this ⊢
   omega
 · refine fin ?_
   have:=hE 2 Lb (fun k _=>Q7Z)
   unfold Ej
   rw [S.c] at this ⊢
   rw [a]
   omega
 · have e1:Ej (Qs m w)≤Ej m:=by
    have:=hE 0 Lb (fun k _=>by rw [Q36 a.mQ];omega)
    unfold Ej
    rw [a.mQ]
    rw [S.c] at this ⊢
    rw [a.QS]
    omega
   have e2:Lr (Qs m w)+1≤Lr m:=by
    have:=Wy (f:=fun k=>wR m.c m.M (m.wk k)) (g:=fun k=>wR (Qs m w).c (Qs m w).M ((Qs m w).wk k)) (w:=w) (d:=0) Lb (fun k hkw=>by simp only [S.c,W2 k hkw];rw [a.wR];omega) (Qs m w).ws.length
    rw [el,if_pos hwl] at this
    unfold Lr
    rw [el]
    simp only [S.c] at this ⊢
    omega
   unfold Phi
   rw [S.c]
   have:(m.c.wo*Lm m.c+1)*Ej (Qs m w)≤(m.c.wo*Lm m.c+1)*Ej m:=Int.mul_le_mul_of_nonneg_left e1 Lb
   omega
theorem Q0A (h:MInv n m) (hn:n≤1000000000) (hw:(w:Int)<m.c.wo) (h0:(m.wk w).st≠0) (hx:WX (m.wk w)) (h6:(m.wk w).st=6→JG m w=true):
 Rho (Qs m w)≤Rho m∧(((Qs m w).wk w).st=0∨((Qs m w).wk w).st=6→Rho (Qs m w)+1≤Rho m)∧WX ((Qs m w).wk w):=by
 obtain ⟨k',S, -⟩:=ZA h hn hw h0
 obtain ⟨I, -,W2⟩:=S.inv h hw
 obtain ⟨a,b,d⟩:=Q63 h hw h0 hx h6
 have hwl:w<m.ws.length:=by have:=h.wl;omega
 have el:(Qs m w).ws.length=m.ws.length:=by rw [S.ws,List.length_set]
 have:=Wy (f:=fun k=>rho (m.wk k)) (g:=fun k=>rho ((Qs m w).wk k)) (w:=w) (d:=0) Lb (fun k hkw=>by simp only [W2 k hkw];omega) (Qs m w).ws.length
 rw [el,if_pos hwl] at this
 unfold Rho
 rw [el]
 exact ⟨Lb,fun x=>by have:=d x;omega,a⟩
structure GI (c:Q0) (m:Qa):Prop where
 i:MInv m.entries m
 e:0≤m.entries
 c:m.c=c
 x:∀k,WX (m.wk k)
def Stuck (m:Qa) (k:Nat):Prop:=(m.wk k).st=0∨((m.wk k).st=6∧JG m k=false)
def YM (m:Qa):Prop:=∀k:Nat,(k:Int)<m.c.wo→Stuck m k
def Alike (m m':Qa):Prop:=m'.c=m.c∧m'.M=m.M∧m'.ws=m.ws∧m'.now=m.now∧m'.evs=m.evs
theorem Alike.refl (m:Qa):Alike m m:=⟨rfl,rfl,rfl,rfl,rfl⟩
theorem Alike.trans {a b d:Qa} (h:Alike a b) (g:Alike b d):Alike a d:=⟨g.1.trans h.1,g.2.1.trans h.2.1,g.2.2.1.trans h.2.2.1,g.2.2.2.1.trans h.2.2.2.1,g.2.2.2.2.trans h.2.2.2.2⟩
theorem Alike.wk (h:Alike m m') (k:Nat):m'.wk k=m.wk k:=by unfold Qa.wk;rw [h.2.2.1]
theorem Alike.stuck (h:Alike m m') (k:Nat):Stuck m' k↔Stuck m k:=by
 unfold Stuck JG XZ
 rw [h.wk,h.1,h.2.1,h.2.2.2.1]
theorem Alike.phi (h:Alike m m'):Phi m'=Phi m∧Rho m'=Rho m:=by
 unfold Phi Lr Ej Rho
 simp only [h.wk,h.1,h.2.1,h.2.2.1,and_self]
theorem ZE (g:GI c m) (hn:m.entries≤900000000) (hw:(w:Int)<c.wo):
 GI c (doV m (JB w)).1∧(doV m (JB w)).1.entries=m.entries+1∧
 (((doV m (JB w)).2=false∧Alike m (doV m (JB w)).1∧Stuck m w)∨
  ((doV m (JB w)).2=true∧¬Stuck m w∧(doV m (JB w)).1=Qs {m with at_:=m.entries,entries:=m.entries+1} w∧
   ((((doV m (JB w)).1.wk w).st=0∨((doV m (JB w)).1.wk w).st=6)∧Rho (doV m (JB w)).1+1≤Rho m∨
    ¬(((doV m (JB w)).1.wk w).st=0∨((doV m (JB w)).1.wk w).st=6)∧Rho (doV m (JB w)).1≤Rho m∧Phi (doV m (JB w)).1+1≤Phi m))):=by
 have en:=Z7 m (JB w)
 refine ⟨?_,en, ?_⟩<;>revert en<;>(
  have al:Alike m {m with at_:=m.entries,entries:=m.entries+1}:=⟨rfl,rfl,rfl,rfl,rfl⟩
  have mi:MInv m.entries {m with at_:=m.entries,entries:=m.entries+1}:=⟨g.i.mem,g.i.gd,g.i.bd,g.i.ah,g.i.nw,g.i.ev,g.i.wl,g.i.wk⟩
  have hw2:(w:Int)<m.c.wo:=by rw [g.c];exact hw
  have hwl:w<m.ws.length:=by have:=g.i.wl;omega
  have e:doV m (JB w)=(if (m.wk w).st=0∨((m.wk w).st=6∧JG {m with at_:=m.entries,entries:=m.entries+1} w=false) then ({m with at_:=m.entries,entries:=m.entries+1},false) else (Qs {m with at_:=m.entries,entries:=m.entries+1} w,true)):=by
   unfold doV JB
   simp only
   rw [if_neg Lb,if_pos trivial]
   unfold Ud
   have hh:({m with at_:=m.entries,entries:=m.entries+1}:Qa).has w=true:=by
    unfold Qa.has
    rw [Bool.and_eq_true,decide_eq_true_eq,decide_eq_true_eq]
    exact ⟨Lb,by show (w:Int)<(m.ws.length:Int);omega⟩
   rw [if_pos hh]
   rfl
  have st:=al.stuck w
  unfold Stuck at st
  rw [al.wk] at st
  rw [e]
  generalize ({m with at_:=m.entries,entries:=m.entries+1}:Qa)=b at*
  intro en)
 · split
   · rename_i hs
     rw [if_pos hs] at en
     simp only at en ⊢
     exact ⟨by rw [en];exact mi.mono,by rw [en];have:=g.e;omega,al.1.trans g.c,fun k=>by rw [al.wk];exact g.x k⟩
   · rename_i hs
     rw [if_neg hs] at en
     simp only at en ⊢
     have h0:(b.wk w).st≠0:=by rw [al.wk];exact fun x=>hs (.inl x)
     have hwb:(w:Int)<b.c.wo:=by rw [al.1];exact hw2
     obtain ⟨k',S, -⟩:=ZA mi Lb hwb h0
     obtain ⟨I, -,W2⟩:=S.inv mi hwb
     have X:=Q0A mi Lb hwb h0 (by rw [al.wk];exact g.x w) (fun x=>by
      rw [al.wk] at x
      cases hm:JG b w with
      |true=>rfl
      |false=>exact absurd (.inr ⟨x,hm⟩) hs)
     refine ⟨by rw [en];exact I,by rw [en];have:=g.e;omega,by rw [S.c,al.1,g.c],fun k=> ?_⟩
     by_cases hk:k=w
     · subst hk;exact X.2.2
     · rw [W2 k hk,al.wk];exact g.x k
 · split
   · rename_i hs
     exact .inl ⟨rfl,al,st.1 hs⟩
   · rename_i hs
     simp only
     have h0:(b.wk w).st≠0:=by rw [al.wk];exact fun x=>hs (.inl x)
     have hwb:(w:Int)<b.c.wo:=by rw [al.1];exact hw2
     have X:=Q0A mi Lb hwb h0 (by rw [al.wk];exact g.x w) (fun x=>by
      rw [al.wk] at x
      cases hm:JG b w with
      |true=>rfl
      |false=>exact absurd (.inr ⟨x,hm⟩) hs)
     have Y:=Q6t mi Lb hwb h0
     rw [al.phi.1] at Y
     rw [al.phi.2] at X
     refine .inr ⟨by trivial,fun x=>hs (st.2 x),by trivial, ?_⟩
     by_cases hr:((Qs b w).wk w).st=0∨((Qs b w).wk w).st=6
     · exact .inl ⟨hr,X.2.1 hr⟩
     · refine .inr ⟨hr,X.1, ?_⟩
       rcases Y with Y|Y|Y
       · exact absurd (.inl Y) hr
       · exact absurd (.inr Y) hr
       · exact Y
end
section
variable {m m':Qa} {w:Nat} {c:Q0}
theorem Q0x (u W:Nat) (hW:(W:Int)=c.wo) (h0:0<W):∀(f k:Nat) (m:Qa) (n r:Int),k+f=W→GI c m→m.entries+f≤900000000→
 GI c (JE W u f m k n r).1∧(JE W u f m k n r).1.entries≤m.entries+f∧
 (((JE W u f m k n r).2.1=false∧(JE W u f m k n r).2.2=(n,r)∧Alike m (JE W u f m k n r).1∧∀j,k≤j→j<W→Stuck m ((u+j) % W))∨
  ((JE W u f m k n r).2.1=true∧((JE W u f m k n r).2.2=(-1,r+1)∧Rho (JE W u f m k n r).1+1≤Rho m∨(JE W u f m k n r).2.2=(n,r)∧Rho (JE W u f m k n r).1≤Rho m∧Phi (JE W u f m k n r).1+1≤Phi m))):=by
 intro f
 induction f with
 |zero=>
  intro k m n r hk g he
  exact ⟨g,by simp [JE],.inl ⟨rfl,rfl,Alike.refl m,fun j h1 h2=>Lb⟩⟩
 |succ f ih=>
  intro k m n r hk g he
  have hwn:(u+k) % W<W:=Nat.mod_lt _ h0
  obtain ⟨G,en,P⟩:=ZE (w:=(u+k) % W) g Lb Lb
  unfold JE
  rw [if_pos Lb]
  simp only
  generalize hd:doV m (JB (((u+k) % W:Nat):Int))=d at*
  obtain ⟨m5,did⟩:=d
  simp only at*
  rcases P with ⟨rfl,al,hs⟩|⟨rfl,hs, -,P⟩
  · simp only [Bool.false_eq_true,if_false]
    obtain ⟨a1,a2,a3⟩:=ih (k+1) m5 n r Lb G Lb
    refine ⟨a1,Lb, ?_⟩
    rcases a3 with ⟨b1,b2,b3,b4⟩|⟨b1,b2⟩
    · refine .inl ⟨b1,b2,al.trans b3,fun j h1 h2=> ?_⟩
      by_cases hj:j=k
      · rw [hj];exact hs
      · exact (al.stuck _).1 (b4 j Lb h2)
    · rw [al.phi.1,al.phi.2] at b2
      exact .inr ⟨b1,b2⟩
  · simp only [if_true]
    rcases P with ⟨P1,P2⟩|⟨P1,P2,P3⟩
    · rw [if_pos P1];exact ⟨G,Ld,.inr ⟨rfl,.inl ⟨rfl,P2⟩⟩⟩
    · rw [if_neg P1];exact ⟨G,Ld,.inr ⟨rfl,.inr ⟨rfl,P2,P3⟩⟩⟩
theorem Z0h {P:Prop} (h:P:=by
 rw [b3.1,g.c] at hk
 rw [b3.stuck]
 have hkW:k<W:=Lb
 obtain ⟨j,hj,e⟩:∃j,j<W∧(Zf order i+j) % W=k:=by
  refine ⟨(k+W - Zf order i % W) % W,Nat.mod_lt _ Lb, ?_⟩
  have:Zf order i % W<W:=Nat.mod_lt _ Lb
  rw [Nat.add_mod,Nat.mod_mod,←Nat.add_mod,Nat.add_comm,←Nat.add_mod_mod]
  have e:(k+W - Zf order i % W+Zf order i % W) % W=k:=by
   rw [Nat.sub_add_cancel Lb,Nat.add_mod_right,Nat.mod_eq_of_lt hkW]
  exact e
 rw [←e];exact b4 j Lb hj):P:=h
theorem Q8l (h1:1≤c.wo∧c.wo≤4) (h2:1≤c.sl∧c.sl≤5) (W:Nat) (hW:(W:Int)=c.wo) (order:List Int):∀(z:Nat) (m:Qa) (i:Nat) (n r:Int),GI c m→Rho m*(Bm c+1)+Phi m≤z→n+Phi m≤Y2 c→r+Rho m≤3*W→m.entries+W*(z+1)≤900000000→
 ∃(f:Nat) (R:Qa),Zg W (Y2 c) order f m i n r=(R,true)∧GI c R∧YM R∧R.entries≤m.entries+W*(z+1):=by
 obtain ⟨lo1,lo2⟩:=Q6R h1 h2
 intro z
 induction z with
 |zero=>
  intro m i n r g hz hn hr he
  have p:=UG g.i;have q:=UE g.i
  rw [g.c] at p q
  have hm0:0≤Rho m*(Bm c+1):=Int.mul_nonneg q.1 Lb
  obtain ⟨a1,a2,a3⟩:=Q0x (c:=c) (Zf order i) W hW Lb W 0 m n r Lb g Lb
  rcases a3 with ⟨b1,b2,b3,b4⟩|⟨b1,b2⟩
  · refine ⟨1,(JE W (Zf order i) W m 0 n r).1, ?_,a1, ?_,Lb⟩
    · unfold Zg
      rw [if_pos ⟨Lb,Lb⟩]
      simp only [b1,Bool.false_eq_true,if_false]
    · intro k hk
      exact Z0h
  · exfalso
    have q2:=UE a1.i;have p2:=UG a1.i
    have hR:Rho m=0:=by
     by_cases hR:Rho m=0
     · exact hR
     · have:1*(Bm c+1)≤Rho m*(Bm c+1):=Int.mul_le_mul_of_nonneg_right Lb Lb
       omega
    rcases b2 with ⟨-,b2⟩|⟨-, -,b2⟩<;>omega
 |succ z ih=>
  intro m i n r g hz hn hr he
  have p:=UG g.i;have q:=UE g.i
  rw [g.c] at p q
  have ez:(W:Int)*(((z+1:Nat):Int)+1)=W*((z:Int)+1)+W:=by
   rw [show ((z+1:Nat):Int)+1=((z:Int)+1)+1 by omega,Int.mul_add (W:Int) ((z:Int)+1) 1,Int.mul_one]
  rw [ez] at he ⊢
  have hz0:0≤(W:Int)*((z:Int)+1):=Int.mul_nonneg Lb Lb
  obtain ⟨a1,a2,a3⟩:=Q0x (c:=c) (Zf order i) W hW Lb W 0 m n r Lb g Lb
  rcases a3 with ⟨b1,b2,b3,b4⟩|⟨b1,b2⟩
  · refine ⟨1,(JE W (Zf order i) W m 0 n r).1, ?_,a1, ?_,Lb⟩
    · unfold Zg
      rw [if_pos ⟨Lb,Lb⟩]
      simp only [b1,Bool.false_eq_true,if_false]
    · intro k hk
      exact Z0h
  · have q2:=UE a1.i;have p2:=UG a1.i
    rw [a1.c] at p2 q2
    have step:∀n2 r2:Int,(JE W (Zf order i) W m 0 n r).2.2=(n2,r2)→Rho (JE W (Zf order i) W m 0 n r).1*(Bm c+1)+Phi (JE W (Zf order i) W m 0 n r).1≤z→(n2+1)+Phi (JE W (Zf order i) W m 0 n r).1≤Y2 c→r2+Rho (JE W (Zf order i) W m 0 n r).1≤3*W→
     ∃(f:Nat) (R:Qa),Zg W (Y2 c) order f m i n r=(R,true)∧GI c R∧YM R∧R.entries≤m.entries+(W*((z:Int)+1)+W):=by
     intro n2 r2 e1 e2 e3 e4
     obtain ⟨f,R,f1,f2,f3,f4⟩:=ih _ (i+1) (n2+1) r2 a1 e2 e3 e4 Lb
     refine ⟨f+1,R, ?_,f2,f3,Lb⟩
     unfold Zg
     rw [if_pos ⟨Lb,Lb⟩]
     simp only [b1,if_true]
     rw [e1];exact f1
    have dist:∀x:Int,x+1≤Rho m→x*(Bm c+1)+(Bm c+1)≤Rho m*(Bm c+1):=fun x hx=>by
     have:(x+1)*(Bm c+1)≤Rho m*(Bm c+1):=Int.mul_le_mul_of_nonneg_right hx Lb
     rw [Int.add_mul,Int.one_mul] at this;exact this
    rcases b2 with ⟨e,b2⟩|⟨e,b2,b5⟩
    · have:=dist _ b2
      exact step _ _ e Lb Lb Lb
    · have:Rho (JE W (Zf order i) W m 0 n r).1*(Bm c+1)≤Rho m*(Bm c+1):=Int.mul_le_mul_of_nonneg_right b2 Lb
      exact step _ _ e Lb Lb Lb
theorem Gx {J:Qa→Prop} (u W:Nat) (h0:0<W) (hJ:∀m (w:Nat),w<W→J m→J (doV m (JB w)).1):∀(f k:Nat) (m:Qa) (n r:Int),J m→J (JE W u f m k n r).1:=by
 intro f
 induction f with
 |zero=>intro k m n r h;exact h
 |succ f ih=>
  intro k m n r h
  unfold JE
  split
  · have hwn:(u+k) % W<W:=Nat.mod_lt _ h0
    have H:=hJ m _ hwn h
    simp only
    split
    · split
      · exact H
      · exact H
    · exact ih _ _ _ _ H
  · exact h
theorem Q28 {J:Qa→Prop} (W:Nat) (lim:Int) (order:List Int) (h0:0<W) (hJ:∀m (w:Nat),w<W→J m→J (doV m (JB w)).1):∀(f:Nat) (m:Qa) (i:Nat) (n r:Int),J m→J (Zg W lim order f m i n r).1:=by
 intro f
 induction f with
 |zero=>intro m i n r h;exact h
 |succ f ih=>
  intro m i n r h
  unfold Zg
  split
  · simp only
    split
    · exact ih _ _ _ _ (Gx _ W h0 hJ W 0 m n r h)
    · exact Gx _ W h0 hJ W 0 m n r h
  · exact h
theorem settles (h1:1≤c.wo∧c.wo≤4) (h2:1≤c.sl∧c.sl≤5) (order:List Int) (g:GI c m) (he:m.entries≤30000000):
 ∃(f:Nat) (R:Qa),Zg c.wo.toNat (Y2 c) order f m 0 0 0=(R,true)∧GI c R∧YM R∧R.entries≤m.entries+12000000:=by
 obtain ⟨lo1,lo2⟩:=Q6R h1 h2
 have p:=UG g.i;have q:=UE g.i
 rw [g.c] at p q
 have hB:0≤Bm c:=Lb
 have hmul:Rho m*(Bm c+1)≤12*230001:=Int.mul_le_mul Lb Lb Lb Lb
 have hm0:0≤Rho m*(Bm c+1):=Int.mul_nonneg q.1 Lb
 have hw4:((c.wo.toNat:Nat):Int)*(((2990012:Nat):Int)+1)≤12000000:=by
  have:((c.wo.toNat:Nat):Int)*(((2990012:Nat):Int)+1)≤4*2990013:=Int.mul_le_mul Lb Lb Lb Lb
  omega
 obtain ⟨f,R,e1,e2,e3,e4⟩:=Q8l h1 h2 c.wo.toNat Lb order 2990012 m 0 0 0 g Lb Lb Lb Lb
 exact ⟨f,R,e1,e2,e3,Lb⟩
end
section
variable {n:Int} {m m':Qa} {w:Nat} {c:Q0}
inductive Way (m:Qa) (x:QD):Qa→Bool→Prop
 |quiet {m':Qa} {did:Bool}:m'.c=m.c→m'.M=m.M→m'.ws=m.ws→m'.evs=m.evs→m.now≤m'.now→(x.kind=0→did=false)→(x.kind=1→did=false∧m'.now=m.now∧(0≤x.who→x.who<m.c.wo→Stuck m x.who.toNat))→Way m x m' did
 |asks {m':Qa} (k:Nat):x.kind=0→x.who=k→(k:Int)<m.c.wo→(m.wk k).st=0→0≤x.ask.op∧x.ask.op<8→m'.c=m.c→m'.M=m.M→m'.ws=m.ws.set k {Ju with st:=1,ask:=x.ask}→m'.evs=m.evs++[{ev0 with who:=x.who,at_:=m.entries,ask:=x.ask}]→m'.now=m.now→Way m x m' true
 |step (k:Nat):x.kind=1→x.who=k→(k:Int)<m.c.wo→¬Stuck m k→Way m x (Qs {m with at_:=m.entries,entries:=m.entries+1} k) true
 |breaks {m':Qa} (i:Int) (u:Q7):x.kind=4→0≤i∧i<m.c.sl→Qk (SL m.c m.M i) 13 0 0=some u→m'.c=m.c→m'.M=YO m.c m.M i u→m'.ws=m.ws→m'.evs=m.evs→m'.now=m.now→Way m x m' true
theorem Q1R {a:Kh} {shut:Prop} (h:0≤a.op∧a.op<8):({Ju with st:=1,ask:=a}:Q8).live c w n shut:=
 ⟨Lc,Lc,fun _=>h,Lc,by simp [Ju],Lc,by simp [Ju],Lc,Lc,Lc,Lc,Lc,Lc,Lc⟩
theorem do_way (h:MInv n m) (hn:n≤1000000000) (x:QD):MInv (n+1) (doV m x).1∧Way m x (doV m x).1 (doV m x).2:=by
 have hwl:=h.wl
 have B:MInv n {m with at_:=m.entries,entries:=m.entries+1}:=⟨h.mem,h.gd,h.bd,h.ah,h.nw,h.ev,h.wl,h.wk⟩
 have al:Alike m {m with at_:=m.entries,entries:=m.entries+1}:=⟨rfl,rfl,rfl,rfl,rfl⟩
 have bat:({m with at_:=m.entries,entries:=m.entries+1}:Qa).at_=m.entries:=rfl
 unfold doV
 simp only
 by_cases h0:x.kind=0
 · rw [if_pos h0]
   unfold Vi
   split
   · rename_i hc
     obtain ⟨hhas,hst,hlen,ho0,ho1⟩:=hc
     unfold Qa.has at hhas
     rw [Bool.and_eq_true,decide_eq_true_eq,decide_eq_true_eq] at hhas
     have hh2:x.who<(m.ws.length:Int):=hhas.2
     obtain ⟨k,hk⟩:∃k:Nat,x.who=k:=⟨x.who.toNat,Lb⟩
     rw [al.wk] at hst
     have hlen2:m.evs.length<1999:=hlen
     have e5:=VB m.ws
     have wo8:=h.mem.cf.1
     have mi:=B.setW (w:=x.who.toNat) (by show ((x.who.toNat:Nat):Int)<m.c.wo;omega) (k0:={Ju with st:=1,ask:=x.ask}) (Q1R ⟨ho0,ho1⟩) (.inr (by show m.evs.length+8≤2007;omega))
     have e6:=VB (m.ws.set x.who.toNat {Ju with st:=1,ask:=x.ask})
     rw [List.length_set] at e6
     refine ⟨MInv.mono ⟨mi.mem,mi.gd,mi.bd,mi.ah,mi.nw, ?_,mi.wl,mi.wk⟩, ?_⟩
     · show ((m.evs++[_]).length:Int)+Zw (m.ws.set x.who.toNat {Ju with st:=1,ask:=x.ask})≤2007
       rw [List.length_append,List.length_singleton];omega
     · exact .asks k h0 hk Lb (by rw [←show x.who.toNat=k by omega];exact hst) ⟨ho0,ho1⟩ rfl rfl (by show m.ws.set x.who.toNat _=_;rw [show x.who.toNat=k by omega]) rfl rfl
   · exact ⟨B.mono,.quiet rfl rfl rfl rfl (Int.le_refl _) (fun _=>rfl) (fun y=>Lb)⟩
 · rw [if_neg h0]
   by_cases h1:x.kind=1
   · rw [if_pos h1]
     unfold Ud
     split
     · rename_i hhas
       unfold Qa.has at hhas
       rw [Bool.and_eq_true,decide_eq_true_eq,decide_eq_true_eq] at hhas
       have hh2:x.who<(m.ws.length:Int):=hhas.2
       obtain ⟨k,hk⟩:∃k:Nat,x.who=k:=⟨x.who.toNat,Lb⟩
       have hk2:x.who.toNat=k:=Lb
       rw [hk2]
       simp only
       split
       · rename_i hs
         exact ⟨B.mono,.quiet rfl rfl rfl rfl (Int.le_refl _) (fun _=>rfl) (fun _=>⟨rfl,rfl,fun _ _=>by rw [hk2];exact (al.stuck k).1 hs⟩)⟩
       · rename_i hs
         have hst0:(({m with at_:=m.entries,entries:=m.entries+1}:Qa).wk k).st≠0:=fun e=>hs (.inl e)
         obtain ⟨k',S, -⟩:=ZA B hn (w:=k) (by show (k:Int)<m.c.wo;omega) hst0
         obtain ⟨I, -, -⟩:=S.inv B (by show (k:Int)<m.c.wo;omega)
         exact ⟨I,.step k h1 hk Lb (fun y=>hs ((al.stuck k).2 y))⟩
     · rename_i hhas
       refine ⟨B.mono,.quiet rfl rfl rfl rfl (Int.le_refl _) (fun _=>rfl) (fun _=>⟨rfl,rfl,fun y1 y2=>absurd ?_ hhas⟩)⟩
       unfold Qa.has
       rw [Bool.and_eq_true,decide_eq_true_eq,decide_eq_true_eq]
       exact ⟨y1,by show x.who<(m.ws.length:Int);omega⟩
   · rw [if_neg h1]
     by_cases h2:x.kind=2
     · rw [if_pos h2]
       exact ⟨MInv.mono ⟨h.mem,h.gd,h.bd,h.ah,by have:=h.nw;simp only;omega,h.ev,h.wl,h.wk⟩,.quiet rfl rfl rfl rfl (by have:=h.nw;simp only;omega) (fun y=>absurd y h0) (fun y=>absurd y h1)⟩
     · rw [if_neg h2]
       by_cases h3:x.kind=3
       · rw [if_pos h3]
         split
         · rename_i hl
           exact ⟨MInv.mono ⟨h.mem,h.gd,h.bd,by have hl2:m.ahead.length<1000:=hl;simp only [List.length_append,List.length_singleton];omega,h.nw,h.ev,h.wl,h.wk⟩,.quiet rfl rfl rfl rfl (Int.le_refl _) (fun y=>absurd y h0) (fun y=>absurd y h1)⟩
         · exact ⟨B.mono,.quiet rfl rfl rfl rfl (Int.le_refl _) (fun y=>absurd y h0) (fun y=>absurd y h1)⟩
       · rw [if_neg h3]
         by_cases h4:x.kind=4
         · rw [if_pos h4]
           unfold K9
           by_cases hn':Q5 m.c x.ask.slot<0
           · rw [if_pos hn'];exact ⟨B.mono,.quiet rfl rfl rfl rfl (Int.le_refl _) (fun y=>absurd y h0) (fun y=>absurd y h1)⟩
           · rw [if_neg hn']
             have hi:0≤x.ask.slot∧x.ask.slot<m.c.sl:=by
              by_cases hi:0≤x.ask.slot∧x.ask.slot<m.c.sl
              · exact hi
              · rw [JU _ hi] at hn';omega
             obtain ⟨a1,a2,a3⟩:=h.mem.at x.ask.slot
             have hM:∀X:Qa,∀f:Q7→Int→Qa×Bool,(match J6 (Q6 ({m with at_:=m.entries,entries:=m.entries+1}:Qa).M (Q5 ({m with at_:=m.entries,entries:=m.entries+1}:Qa).c x.ask.slot)) 13 0 0 with|some (u,next)=>f u next|none=>(X,false))=(match J6 (Q6 m.M (Q5 m.c x.ask.slot)) 13 0 0 with|some (u,next)=>f u next|none=>(X,false)):=fun _ _=>rfl
             simp only [hM]
             cases ha:J6 (Q6 m.M (Q5 m.c x.ask.slot)) 13 0 0 with
             |none=>simp only;exact ⟨B.mono,.quiet rfl rfl rfl rfl (Int.le_refl _) (fun y=>absurd y h0) (fun y=>absurd y h1)⟩
             |some y=>
              obtain ⟨s,hds,hu,he⟩:=JZ ha
              obtain ⟨u,nx⟩:=y
              simp only at hu he ⊢
              subst he
              rw [a3] at hds;cases hds
              have e:Qp m.M (Q5 m.c x.ask.slot) u.enc=YO m.c m.M x.ask.slot u:=by
               have:=h.mem.Es hi
               unfold YO Q5;rw [if_pos hi];exact Jr this.1 this.2
              have st:=h.mem.stepS hi hu
              refine ⟨⟨by show Qj m.c (n+1) _;rw [e];exact st.ok,B.mono.gd,B.mono.bd,h.ah,h.nw,h.ev,h.wl,fun k hk=> ?_⟩,.breaks x.ask.slot u h4 hi hu rfl e rfl rfl rfl⟩
              have:=(h.wk k hk).mono (n':=n+1) Lb (st.sh)
              show (m.wk k).live m.c k (n+1) (Jz (Qp m.M (Q5 m.c x.ask.slot) u.enc))
              rw [e];exact this
         · rw [if_neg h4];exact ⟨B.mono,.quiet rfl rfl rfl rfl (Int.le_refl _) (fun y=>absurd y h0) (fun y=>absurd y h1)⟩
theorem Way.conf {x:QD} {did:Bool} (h:MInv n m) (hn:n≤1000000000) (y:Way m x m' did):m'.c=m.c:=by
 cases y with
 |quiet a=>exact a
 |asks k _ _ _ _ _ a=>exact a
 |breaks i u _ _ _ a=>exact a
 |step k _ _ hk hs=>
  have B:MInv n {m with at_:=m.entries,entries:=m.entries+1}:=⟨h.mem,h.gd,h.bd,h.ah,h.nw,h.ev,h.wl,h.wk⟩
  have hst0:(({m with at_:=m.entries,entries:=m.entries+1}:Qa).wk k).st≠0:=fun e=>hs (.inl e)
  obtain ⟨k',S, -⟩:=ZA B hn (w:=k) hk hst0
  exact S.c
theorem GI.do_ (g:GI c m) (hn:m.entries≤900000000) (x:QD):GI c (doV m x).1∧Way m x (doV m x).1 (doV m x).2:=by
 obtain ⟨I,Y⟩:=do_way g.i Lb x
 have en:=Z7 m x
 have hc:=Y.conf g.i Lb
 refine ⟨⟨by rw [en];exact I,by rw [en];have:=g.e;omega,hc.trans g.c,fun k=> ?_⟩,Y⟩
 generalize (doV m x).1=m' at*
 generalize (doV m x).2=did at*
 cases Y with
 |quiet _ _ a=>unfold Qa.wk;rw [a];exact g.x k
 |breaks i u _ _ _ _ _ a=>unfold Qa.wk;rw [a];exact g.x k
 |asks j _ _ _ _ _ _ _ a=>
  unfold Qa.wk
  rw [a,Zp]
  split
  · intro y;simp at y
  · exact g.x k
 |step j h1 h2 hk hs=>
  have e:doV m (JB (j:Int))=(Qs {m with at_:=m.entries,entries:=m.entries+1} j,true):=by
   obtain ⟨-, -,P⟩:=ZE g hn (w:=j) (by rw [←g.c];exact hk)
   rcases P with ⟨-, -,y⟩|⟨y1, -,y2, -⟩
   · exact absurd y hs
   · exact Prod.ext y2 y1
  have:=(ZE g hn (w:=j) (by rw [←g.c];exact hk)).1.x k
  rw [e] at this;exact this
theorem GI.new (hc:c.fits):GI c (J5 c):=
 ⟨MInv.new hc,by show (0:Int)≤0;omega,rfl,fun k=>by rw [WE];intro y;simp [Ju] at y⟩
end
section
variable {c:Q0} {w:Nat} {n:Int} {M M':List Int}
theorem nst {s u:Q7} {d:Nat} {own more:Int} (h:Qk s d own more=some u):match (generalizing:=false) d with
 |1=>s.st=1∧u.st=3
 |2=>s.st=1∧u.st=0
 |5=>s.st=2∧s.br=false∧u.st=4
 |6=>s.st=4∧u.st=2
 |7=>s.st=0∧u.st=5
 |8=>s.st=5∧u.st=0
 |10=>s.st=2∧u.st=2∧u.mkd=true∧u.br=s.br
 |11=>(s.st=2∨s.st=3)∧u.st=6
 |12=>s.st=6∧u.st=0
 |13=>(s.st=2∨s.st=3∨s.st=4)∧u.st=s.st∧u.br=true
 |16=>(s.st=5∨s.st=4)∧(u.st=1∨u.st=3)
 |17=>s.st=6∧u.st=6
 |_=>True:=by
 obtain ⟨-,t,ht,rfl⟩:=X7 h
 clear h
 split<;>(try trivial)<;>simp only [chg] at ht<;>split at ht<;>
  first
   |(cases ht;rename_i hc;simp only [isV,Jh,Jp,Z0,Bool.and_eq_true,Bool.or_eq_true,decide_eq_true_eq,Bool.not_eq_true'] at hc;simp [toV,Js,Z6]<;>(try simp [hc])<;>omega)
   |(split at ht<;>first|(cases ht;done)|(cases ht;rename_i hc;simp only [Jh,Bool.and_eq_true,decide_eq_true_eq] at hc;simp [toV,Js];omega))
   |(cases ht;done)
theorem YF (hc:c.fits) {i a b x:Int} (h0:0≤x) (h1:x<3+2*c.wo):Q6 (QI M (Q5 c i) a b) x=Q6 M x:=by
 unfold QI
 split
 · rename_i hb
   have hi:isIn M (Q5 c i)=true:=by unfold Qx at hb;rw [Bool.and_eq_true] at hb;exact hb.1
   have e:M.set (Q5 c i).toNat b=Qp M (Q5 c i) b:=by unfold Qp;rw [if_pos hi]
   have hh:0≤Q5 c i∧Q5 c i≠x:=by
    by_cases hx:0≤i∧i<c.sl
    · have:=hc.1;rw [Gu i hc hx];omega
    · rw [JU i hx,Yv Lb] at hi;cases hi
   rw [e,QW hh.1 hh.2]
 · rfl
theorem Q9i {x:Int} (hx:x≠2):Q6 (VU M 2 1) x=Q6 M x:=by
 unfold VU
 split
 · rename_i hi
   have e:∀v,M.set (2:Int).toNat v=Qp M 2 v:=fun v=>by unfold Qp;rw [if_pos hi]
   rw [e,QW Lb Lb]
 · rfl
def Q7C (c:Q0) (M M':List Int):Prop:=∀x,0≤x→x<3+2*c.wo→x≠2→Q6 M' x=Q6 M x
theorem RtS.Wn (hc:c.fits) {r r':J2} {i:Int} (hl:r.cell=Q5 c i) (hS:RtS M r r' M'):Q7C c M M':=by
 intro x h0 h1 h2
 cases hS<;>first|rfl|(rw [hl];exact YF hc h0 h1)|exact Q9i h2
theorem Z0x {P:Prop} (h:P:=by
 cases hS
 case goes=>exact R (by assumption) (by assumption) (by assumption)
 case went=>exact R (by assumption) (by assumption) (by assumption)
 case back=>exact R (by assumption) (by assumption) (by assumption)
 all_goals first|rfl|exact YF hc h0 h1):P:=h
theorem TkS.Wn (hc:c.fits) {t t':Qd} {good:Bool} (hl:t.live c w) (hS:TkS c M good t t' M'):Q7C c M M':=by
 intro x h0 h1 h2
 have R:∀{r r':J2},t.st=12→t.ret=some r→RtS M r r' M'→Q6 M' x=Q6 M x:=fun a b d=>by
  obtain ⟨r0,e1,e2⟩:=hl.rt a
  rw [b] at e1;cases e1
  exact d.Wn hc e2.cl x h0 h1 h2
 exact Z0x
theorem GvS.Wn (hc:c.fits) {t t':QC} (hl:t.live c w) (hS:GvS c M t t' M'):Q7C c M M':=by
 intro x h0 h1 h2
 have R:∀{r r':J2},t.st=3→t.ret=some r→RtS M r r' M'→Q6 M' x=Q6 M x:=fun a b d=>by
  obtain ⟨-,r0,e1,e2⟩:=hl.rt a
  rw [b] at e1;cases e1
  exact d.Wn hc e2.cl x h0 h1 h2
 exact Z0x
theorem SmS.Wn (hc:c.fits) {t t':QN} (hS:SmS c M t t' M'):Q7C c M M':=by
 intro x h0 h1 h2
 cases hS<;>first|rfl|exact YF hc h0 h1
theorem q_0 (h:Qj c n M) {s:QuS} (hl:s.live c):Q6 (Qo c s M).2 0=Q6 M 0:=by
 have P:∀v:Int,Q6 (M.set 1 v) 0=Q6 M 0:=fun v=>Kk h.len2 Lb
 have wo:=h.cf.1
 unfold Qo
 cases hn:s.nx<;>simp only<;>(try split)<;>(try rfl)<;>first
  |exact P _
  |(obtain ⟨a,b⟩:=hl.ok.2.2.2 hn;exact QW Lb Lb)
theorem q_1 (h:Qj c n M) {s:QuS} (hl:s.live c) (hx:s.nx=.look∨s.nx=.drop):(∀i,SL c (Qo c s M).2 i=SL c M i)∧(mQ (Qo c s M).2≠[]→mQ M≠[]):=by
 have wo:=h.cf.1
 unfold Qo
 rcases hx with hx|hx<;>rw [hx]<;>simp only
 · exact ⟨Lc,id⟩
 · split
   · rename_i e
     refine ⟨fun i=>h.Y0 (j:=1) Lb Lb i,fun a b=> ?_⟩
     have:=hl.ok.2.2.1 hx
     rw [←e,b] at this;cases this
   · exact ⟨fun _=>rfl,id⟩
theorem Qj.swp (h:Qj c n M) {i word:Int} {s u:Q7} {d:Nat} {own more:Int} (hd:dec word=some s) (hn:Qk s d own more=some u) (hc:Qx M (Q5 c i) word=true):
 SL c M i=s∧∀j,SL c (QI M (Q5 c i) word u.enc) j=if j=i then u else SL c M j:=by
 obtain ⟨hi,e,hu,e2, -⟩:=h.swap hd hn hc
 rw [e2];exact ⟨e,fun j=>h.Kc hi hu j⟩
theorem rt_SL (h:Qj c n M) (hn:n≤1000000000) {r r':J2} {i:Int} {P:Q7→Prop} (hl:Yg c r i P) (hS:RtS M r r' M') (j:Int):
 SL c M' j=SL c M j∨(j=i∧r.st=.swap∧r.word=(SL c M j).enc∧P (SL c M j)∧(SL c M' j).st=6)∨((SL c M j).st=6∧(SL c M' j).st=6):=by
 obtain ⟨⟨s,hs,hw,hp⟩,hnd,hdn,hsw,hcl⟩:=hl
 have hdw:dec r.word=some s:=by rw [hw];exact QF hs
 cases hS with
 |lost h1 h2=>exact .inl rfl
 |look h1=>exact .inl rfl
 |stale h1 h2=>exact .inl rfl
 |QO h1=>have wo:=h.cf.1;rw [Ht h hn];exact .inl (h.Y0 Lb Lb j)
 |swap s' u h1 h2 h3 h4=>
  rw [hdw] at h2;cases h2
  rw [hcl] at h4 ⊢
  obtain ⟨e,g⟩:=h.swp hdw h3 h4
  rw [g]
  by_cases hj:j=i
  · right;left;rw [if_pos hj,hj,e];exact ⟨rfl,h1,hw,hp h1,(nst h3).2⟩
  · rw [if_neg hj];exact .inl rfl
 |age s' u h1 h2 h3 h4=>
  rw [hdw] at h2;cases h2
  rw [hcl] at h4 ⊢
  obtain ⟨e,g⟩:=h.swp hdw h3 h4
  rw [g]
  by_cases hj:j=i
  · right;right;rw [if_pos hj,hj,e];exact nst h3
  · rw [if_neg hj];exact .inl rfl
theorem td_SL (h:Qj c n M) (hn:n≤1000000000) {t t':Qf} (hl:t.live c w n (Jz M)) (hS:TdS c M t t' M') (j:Int):
 SL c M' j=SL c M j∨
 (t.st=4∧t.rt.st=.swap∧t.rt.word=(SL c M j).enc∧(((SL c M j).st=3→Jz M)∧((SL c M j).st=2∨(SL c M j).st=3))∧(SL c M' j).st=6)∨
 ((SL c M j).st=6∧((SL c M' j).st=6∨(t.st=7∧(SL c M' j).st=0)))∨
 (t.st=10∧j=t.i∧((SL c M j).st=2∧(SL c M' j).st=4∨(SL c M j).st=0∧(SL c M' j).st=5))∨
 (t.st=14∧t'.st=2∧j=t.i∧((SL c M j).st=4∧(SL c M' j).st=2∨(SL c M j).st=5∧(SL c M' j).st=0)):=by
 have wo:=h.cf.1;have sl:=h.cf.2.1;have len:=h.len
 have I:∀x:Int,0≤x→x<3+2*c.wo→∀v,SL c (Qp M x v) j=SL c M j:=fun x a b v=>by rw [Jr a (by unfold Q0.cells at*;omega)];exact h.Y0 a b j
 have R:∀{r r':J2},t.st=4→t.ret=some r→RtS M r r' M'→SL c M' j=SL c M j∨(t.st=4∧t.rt.st=.swap∧t.rt.word=(SL c M j).enc∧(((SL c M j).st=3→Jz M)∧((SL c M j).st=2∨(SL c M j).st=3))∧(SL c M' j).st=6)∨((SL c M j).st=6∧((SL c M' j).st=6∨(t.st=7∧(SL c M' j).st=0))):=fun a b d=>by
  obtain ⟨r0,e1,e2⟩:=hl.rt a
  rw [b] at e1;cases e1
  have er:=WV b
  rcases rt_SL h hn e2 d j with e|⟨-,f1,f2,f3,f4⟩|⟨f1,f2⟩
  · exact .inl e
  · exact .inr (.inl ⟨a,by rw [er];exact f1,by rw [er];exact f2,f3,f4⟩)
  · exact .inr (.inr ⟨f1,.inl f2⟩)
 have tw:=hl.tw;have w1:=hl.w1
 cases hS
 case goes=>rcases R (by assumption) (by assumption) (by assumption) with x|x|x;exact .inl x;exact .inr (.inl x);exact .inr (.inr (.inl x))
 case went=>rcases R (by assumption) (by assumption) (by assumption) with x|x|x;exact .inl x;exact .inr (.inl x);exact .inr (.inr (.inl x))
 case pin h1=>exact .inl (I _ Lb Lb _)
 case unpin h1=>exact .inl (I _ Lb Lb _)
 case grant h1=>obtain ⟨⟨a,b⟩, -⟩:=hl.hd Lb;exact .inl (I _ Lb Lb _)
 case pop h1 h2=>exact .inl (h.Y0 (j:=1) Lb Lb j)
 case clear f s u h1 h2 h3 h4 h5=>
  obtain ⟨e,g⟩:=h.swp h3 h4 h5
  rw [g]
  by_cases hj:j=t.i
  · right;right;left;rw [if_pos hj,hj,e];have:=nst h4;exact ⟨this.1,.inr ⟨h1,this.2⟩⟩
  · rw [if_neg hj];exact .inl rfl
 case keep s u h1 h2 h3 h4=>
  obtain ⟨e,g⟩:=h.swp h2 h3 h4
  rw [g]
  by_cases hj:j=t.i
  · right;right;right;left;rw [if_pos hj,hj,e]
    refine ⟨h1,rfl, ?_⟩
    by_cases h2:s.st=2
    · rw [if_pos h2] at h3;exact .inl ⟨h2,(nst h3).2.2⟩
    · rw [if_neg h2] at h3;exact .inr (nst h3)
  · rw [if_neg hj];exact .inl rfl
 case unkeep s u h1 h2 h3 h4=>
  obtain ⟨e,g⟩:=h.swp h2 h3 h4
  rw [g]
  by_cases hj:j=t.i
  · right;right;right;right;rw [if_pos hj,hj,e]
    refine ⟨h1,rfl,rfl, ?_⟩
    by_cases h2:s.st=4
    · rw [if_pos h2] at h3;exact .inl (nst h3)
    · rw [if_neg h2] at h3;exact .inr (nst h3)
  · rw [if_neg hj];exact .inl rfl
 all_goals exact .inl rfl
theorem Q88 (h:Qj c n M) {t t':Qf} {shut:Prop} (hl:t.live c w n shut) (hS:TdS c M t t' M'):Q6 M' 0=Q6 M 0∧(t.st≠11→mQ M'=mQ M):=by
 have wo:=h.cf.1
 have tw:=hl.tw;have w1:=hl.w1
 have P:∀x v:Int,3≤x→Q6 (Qp M x v) 0=Q6 M 0∧mQ (Qp M x v)=mQ M:=fun x v hx=>⟨QW Lb Lb,VK (QW Lb Lb)⟩
 have Q:∀i a b:Int,Q6 (QI M (Q5 c i) a b) 0=Q6 M 0∧mQ (QI M (Q5 c i) a b)=mQ M:=fun i a b=>⟨YF h.cf Lb Lb,VK (YF h.cf Lb Lb)⟩
 have R:∀{r r':J2},t.st=4→t.ret=some r→RtS M r r' M'→Q6 M' 0=Q6 M 0∧mQ M'=mQ M:=fun a b d=>by
  obtain ⟨r0,e1,e2⟩:=hl.rt a
  rw [b] at e1;cases e1
  have:=d.Wn h.cf e2.cl
  exact ⟨this 0 Lb Lb Lb,VK (this 1 Lb Lb Lb)⟩
 cases hS
 case goes=>have:=R (by assumption) (by assumption) (by assumption);exact ⟨this.1,fun _=>this.2⟩
 case went=>have:=R (by assumption) (by assumption) (by assumption);exact ⟨this.1,fun _=>this.2⟩
 case pin h1=>exact ⟨(P _ _ Lb).1,fun _=>(P _ _ Lb).2⟩
 case unpin h1=>exact ⟨(P _ _ Lb).1,fun _=>(P _ _ Lb).2⟩
 case grant h1=>obtain ⟨⟨a,b⟩, -⟩:=hl.hd Lb;exact ⟨(P _ _ Lb).1,fun _=>(P _ _ Lb).2⟩
 case pop h1 h2=>exact ⟨Kk h.len2 Lb,fun e=>absurd h1 e⟩
 case clear=>exact ⟨(Q _ _ _).1,fun _=>(Q _ _ _).2⟩
 case keep=>exact ⟨(Q _ _ _).1,fun _=>(Q _ _ _).2⟩
 case unkeep=>exact ⟨(Q _ _ _).1,fun _=>(Q _ _ _).2⟩
 all_goals exact ⟨rfl,fun _=>rfl⟩
end
end Go.Proofs.YtgjklfmnmljilaaGreatDoor
