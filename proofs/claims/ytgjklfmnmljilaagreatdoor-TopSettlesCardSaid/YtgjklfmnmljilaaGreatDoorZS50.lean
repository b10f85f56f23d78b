/- A part of the proof: TqV to TsJ. -/
import Derived.Test.YtgjklfmnmljilaaGreatDoorZS03
import Derived.Test.YtgjklfmnmljilaaGreatDoorZS49
namespace Go.Proofs.YtgjklfmnmljilaaGreatDoor
set_option linter.unusedVariables false
set_option linter.unusedSimpArgs false
set_option linter.unusedSectionVars false
set_option linter.unnecessarySimpa false
set_option maxRecDepth 100000
set_option maxHeartbeats 8000000
section
variable {m m':Qb} {w:Nat} {c:Q0}
theorem Q0l (u W:Nat) (hW:(W:Int)=c.wo) (h0:0<W):∀(f k:Nat) (m:Qb) (n r:Int),k+f=W→GI c m→m.entries+f≤900000000→
 GI c (Jy W u f m k n r).1∧(Jy W u f m k n r).1.entries≤m.entries+f∧
 (((Jy W u f m k n r).2.1=false∧(Jy W u f m k n r).2.2=(n,r)∧Alike m (Jy W u f m k n r).1∧∀j,k≤j→j<W→Stuck m ((u+j) % W))∨
  ((Jy W u f m k n r).2.1=true∧((Jy W u f m k n r).2.2=(-1,r+1)∧Rho (Jy W u f m k n r).1+1≤Rho m∨(Jy W u f m k n r).2.2=(n,r)∧Rho (Jy W u f m k n r).1≤Rho m∧Phi (Jy W u f m k n r).1+1≤Phi m))):=by
 intro f
 induction f with
 |zero=>
  intro k m n r hk g he
  exact ⟨g,by simp [Jy],.inl ⟨rfl,rfl,Alike.refl m,fun j h1 h2=>by omega⟩⟩
 |succ f ih=>
  intro k m n r hk g he
  have hwn:(u+k) % W<W:=Nat.mod_lt _ h0
  obtain ⟨G,en,P⟩:=Zu (w:=(u+k) % W) g (by omega) (by omega)
  unfold Jy
  rw [if_pos (by omega)]
  simp only
  generalize hd:doV m (Jj (((u+k) % W:Nat):Int))=d at*
  obtain ⟨m5,did⟩:=d
  simp only at*
  rcases P with ⟨rfl,al,hs⟩|⟨rfl,hs, -,P⟩
  · simp only [Bool.false_eq_true,if_false]
    obtain ⟨a1,a2,a3⟩:=ih (k+1) m5 n r (by omega) G (by omega)
    refine ⟨a1,by omega, ?_⟩
    rcases a3 with ⟨b1,b2,b3,b4⟩|⟨b1,b2⟩
    · refine .inl ⟨b1,b2,al.trans b3,fun j h1 h2=> ?_⟩
      by_cases hj:j=k
      · rw [hj];exact hs
      · exact (al.stuck _).1 (b4 j (by omega) h2)
    · rw [al.phi.1,al.phi.2] at b2
      exact .inr ⟨b1,b2⟩
  · simp only [if_true]
    rcases P with ⟨P1,P2⟩|⟨P1,P2,P3⟩
    · rw [if_pos P1];exact ⟨G,by simp only;omega,.inr ⟨rfl,.inl ⟨rfl,P2⟩⟩⟩
    · rw [if_neg P1];exact ⟨G,by simp only;omega,.inr ⟨rfl,.inr ⟨rfl,P2,P3⟩⟩⟩
theorem Q83 (h1:1≤c.wo∧c.wo≤4) (h2:1≤c.sl∧c.sl≤5) (W:Nat) (hW:(W:Int)=c.wo) (order:List Int):∀(z:Nat) (m:Qb) (i:Nat) (n r:Int),GI c m→Rho m*(Bm c+1)+Phi m≤z→n+Phi m≤ZG c→r+Rho m≤3*W→m.entries+W*(z+1)≤900000000→
 ∃(f:Nat) (R:Qb),Z0 W (ZG c) order f m i n r=(R,true)∧GI c R∧Gj R∧R.entries≤m.entries+W*(z+1):=by
 obtain ⟨lo1,lo2⟩:=Q6H h1 h2
 intro z
 induction z with
 |zero=>
  intro m i n r g hz hn hr he
  have p:=UC g.i;have q:=UA g.i
  rw [g.c] at p q
  have hm0:0≤Rho m*(Bm c+1):=Int.mul_nonneg q.1 (by omega)
  obtain ⟨a1,a2,a3⟩:=Q0l (c:=c) (Za order i) W hW (by omega) W 0 m n r (by omega) g (by omega)
  rcases a3 with ⟨b1,b2,b3,b4⟩|⟨b1,b2⟩
  · refine ⟨1,(Jy W (Za order i) W m 0 n r).1, ?_,a1, ?_,by omega⟩
    · unfold Z0
      rw [if_pos ⟨by omega,by omega⟩]
      simp only [b1,Bool.false_eq_true,if_false]
    · intro k hk
      rw [b3.1,g.c] at hk
      rw [b3.stuck]
      have hkW:k<W:=by omega
      obtain ⟨j,hj,e⟩:∃j,j<W∧(Za order i+j) % W=k:=by
       refine ⟨(k+W - Za order i % W) % W,Nat.mod_lt _ (by omega), ?_⟩
       have:Za order i % W<W:=Nat.mod_lt _ (by omega)
       rw [Nat.add_mod,Nat.mod_mod,←Nat.add_mod,Nat.add_comm,←Nat.add_mod_mod]
       have e:(k+W - Za order i % W+Za order i % W) % W=k:=by
        rw [Nat.sub_add_cancel (by omega),Nat.add_mod_right,Nat.mod_eq_of_lt hkW]
       exact e
      rw [←e];exact b4 j (by omega) hj
  · exfalso
    have q2:=UA a1.i;have p2:=UC a1.i
    have hR:Rho m=0:=by
     by_cases hR:Rho m=0
     · exact hR
     · have:1*(Bm c+1)≤Rho m*(Bm c+1):=Int.mul_le_mul_of_nonneg_right (by omega) (by omega)
       omega
    rcases b2 with ⟨-,b2⟩|⟨-, -,b2⟩<;>omega
 |succ z ih=>
  intro m i n r g hz hn hr he
  have p:=UC g.i;have q:=UA g.i
  rw [g.c] at p q
  have ez:(W:Int)*(((z+1:Nat):Int)+1)=W*((z:Int)+1)+W:=by
   rw [show ((z+1:Nat):Int)+1=((z:Int)+1)+1 by omega,Int.mul_add (W:Int) ((z:Int)+1) 1,Int.mul_one]
  rw [ez] at he ⊢
  have hz0:0≤(W:Int)*((z:Int)+1):=Int.mul_nonneg (by omega) (by omega)
  obtain ⟨a1,a2,a3⟩:=Q0l (c:=c) (Za order i) W hW (by omega) W 0 m n r (by omega) g (by omega)
  rcases a3 with ⟨b1,b2,b3,b4⟩|⟨b1,b2⟩
  · refine ⟨1,(Jy W (Za order i) W m 0 n r).1, ?_,a1, ?_,by omega⟩
    · unfold Z0
      rw [if_pos ⟨by omega,by omega⟩]
      simp only [b1,Bool.false_eq_true,if_false]
    · intro k hk
      rw [b3.1,g.c] at hk
      rw [b3.stuck]
      have hkW:k<W:=by omega
      obtain ⟨j,hj,e⟩:∃j,j<W∧(Za order i+j) % W=k:=by
       refine ⟨(k+W - Za order i % W) % W,Nat.mod_lt _ (by omega), ?_⟩
       have:Za order i % W<W:=Nat.mod_lt _ (by omega)
       rw [Nat.add_mod,Nat.mod_mod,←Nat.add_mod,Nat.add_comm,←Nat.add_mod_mod]
       have e:(k+W - Za order i % W+Za order i % W) % W=k:=by
        rw [Nat.sub_add_cancel (by omega),Nat.add_mod_right,Nat.mod_eq_of_lt hkW]
       exact e
      rw [←e];exact b4 j (by omega) hj
  · have q2:=UA a1.i;have p2:=UC a1.i
    rw [a1.c] at p2 q2
    have step:∀n2 r2:Int,(Jy W (Za order i) W m 0 n r).2.2=(n2,r2)→Rho (Jy W (Za order i) W m 0 n r).1*(Bm c+1)+Phi (Jy W (Za order i) W m 0 n r).1≤z→(n2+1)+Phi (Jy W (Za order i) W m 0 n r).1≤ZG c→r2+Rho (Jy W (Za order i) W m 0 n r).1≤3*W→
     ∃(f:Nat) (R:Qb),Z0 W (ZG c) order f m i n r=(R,true)∧GI c R∧Gj R∧R.entries≤m.entries+(W*((z:Int)+1)+W):=by
     intro n2 r2 e1 e2 e3 e4
     obtain ⟨f,R,f1,f2,f3,f4⟩:=ih _ (i+1) (n2+1) r2 a1 e2 e3 e4 (by omega)
     refine ⟨f+1,R, ?_,f2,f3,by omega⟩
     unfold Z0
     rw [if_pos ⟨by omega,by omega⟩]
     simp only [b1,if_true]
     rw [e1];exact f1
    have dist:∀x:Int,x+1≤Rho m→x*(Bm c+1)+(Bm c+1)≤Rho m*(Bm c+1):=fun x hx=>by
     have:(x+1)*(Bm c+1)≤Rho m*(Bm c+1):=Int.mul_le_mul_of_nonneg_right hx (by omega)
     rw [Int.add_mul,Int.one_mul] at this;exact this
    rcases b2 with ⟨e,b2⟩|⟨e,b2,b5⟩
    · have:=dist _ b2
      exact step _ _ e (by omega) (by omega) (by omega)
    · have:Rho (Jy W (Za order i) W m 0 n r).1*(Bm c+1)≤Rho m*(Bm c+1):=Int.mul_le_mul_of_nonneg_right b2 (by omega)
      exact step _ _ e (by omega) (by omega) (by omega)
theorem Gu {J:Qb→Prop} (u W:Nat) (h0:0<W) (hJ:∀m (w:Nat),w<W→J m→J (doV m (Jj w)).1):∀(f k:Nat) (m:Qb) (n r:Int),J m→J (Jy W u f m k n r).1:=by
 intro f
 induction f with
 |zero=>intro k m n r h;exact h
 |succ f ih=>
  intro k m n r h
  unfold Jy
  split
  · have hwn:(u+k) % W<W:=Nat.mod_lt _ h0
    have H:=hJ m _ hwn h
    simp only
    split
    · split
      · exact H
      · exact H
    · exact ih _ _ _ _ H
  · exact h
theorem Q1X {J:Qb→Prop} (W:Nat) (lim:Int) (order:List Int) (h0:0<W) (hJ:∀m (w:Nat),w<W→J m→J (doV m (Jj w)).1):∀(f:Nat) (m:Qb) (i:Nat) (n r:Int),J m→J (Z0 W lim order f m i n r).1:=by
 intro f
 induction f with
 |zero=>intro m i n r h;exact h
 |succ f ih=>
  intro m i n r h
  unfold Z0
  split
  · simp only
    split
    · exact ih _ _ _ _ (Gu _ W h0 hJ W 0 m n r h)
    · exact Gu _ W h0 hJ W 0 m n r h
  · exact h
theorem settles (h1:1≤c.wo∧c.wo≤4) (h2:1≤c.sl∧c.sl≤5) (order:List Int) (g:GI c m) (he:m.entries≤30000000):
 ∃(f:Nat) (R:Qb),Z0 c.wo.toNat (ZG c) order f m 0 0 0=(R,true)∧GI c R∧Gj R∧R.entries≤m.entries+12000000:=by
 obtain ⟨lo1,lo2⟩:=Q6H h1 h2
 have p:=UC g.i;have q:=UA g.i
 rw [g.c] at p q
 have hB:0≤Bm c:=by omega
 have hmul:Rho m*(Bm c+1)≤12*230001:=Int.mul_le_mul (by omega) (by omega) (by omega) (by omega)
 have hm0:0≤Rho m*(Bm c+1):=Int.mul_nonneg q.1 (by omega)
 have hw4:((c.wo.toNat:Nat):Int)*(((2990012:Nat):Int)+1)≤12000000:=by
  have:((c.wo.toNat:Nat):Int)*(((2990012:Nat):Int)+1)≤4*2990013:=Int.mul_le_mul (by omega) (by omega) (by omega) (by omega)
  omega
 obtain ⟨f,R,e1,e2,e3,e4⟩:=Q83 h1 h2 c.wo.toNat (by omega) order 2990012 m 0 0 0 g (by omega) (by omega) (by omega) (by omega)
 exact ⟨f,R,e1,e2,e3,by omega⟩
end
section
variable {n:Int} {m m':Qb} {w:Nat} {c:Q0}
inductive Way (m:Qb) (x:Qy):Qb→Bool→Prop
 |quiet {m':Qb} {did:Bool}:m'.c=m.c→m'.M=m.M→m'.ws=m.ws→m'.evs=m.evs→m.now≤m'.now→(x.kind=0→did=false)→(x.kind=1→did=false∧m'.now=m.now∧(0≤x.who→x.who<m.c.wo→Stuck m x.who.toNat))→Way m x m' did
 |asks {m':Qb} (k:Nat):x.kind=0→x.who=k→(k:Int)<m.c.wo→(m.wk k).st=0→0≤x.ask.op∧x.ask.op<8→m'.c=m.c→m'.M=m.M→m'.ws=m.ws.set k {Jd with st:=1,ask:=x.ask}→m'.evs=m.evs++[{ev0 with who:=x.who,at_:=m.entries,ask:=x.ask}]→m'.now=m.now→Way m x m' true
 |step (k:Nat):x.kind=1→x.who=k→(k:Int)<m.c.wo→¬Stuck m k→Way m x (QJ {m with at_:=m.entries,entries:=m.entries+1} k) true
 |breaks {m':Qb} (i:Int) (u:Q7):x.kind=4→0≤i∧i<m.c.sl→Qj (SL m.c m.M i) 13 0 0=some u→m'.c=m.c→m'.M=Yf m.c m.M i u→m'.ws=m.ws→m'.evs=m.evs→m'.now=m.now→Way m x m' true
theorem Q1I {a:Vo} {shut:Prop} (h:0≤a.op∧a.op<8):({Jd with st:=1,ask:=a}:Q9).live c w n shut:=
 ⟨by simp,by simp,fun _=>h,by simp,by simp [Jd],by simp,by simp [Jd],by simp,by simp,by simp,by simp,by simp,by simp,by simp⟩
theorem do_way (h:MInv n m) (hn:n≤1000000000) (x:Qy):MInv (n+1) (doV m x).1∧Way m x (doV m x).1 (doV m x).2:=by
 have hwl:=h.wl
 have B:MInv n {m with at_:=m.entries,entries:=m.entries+1}:=⟨h.mem,h.gd,h.bd,h.ah,h.nw,h.ev,h.wl,h.wk⟩
 have al:Alike m {m with at_:=m.entries,entries:=m.entries+1}:=⟨rfl,rfl,rfl,rfl,rfl⟩
 have bat:({m with at_:=m.entries,entries:=m.entries+1}:Qb).at_=m.entries:=rfl
 unfold doV
 simp only
 by_cases h0:x.kind=0
 · rw [if_pos h0]
   unfold Yr
   split
   · rename_i hc
     obtain ⟨hhas,hst,hlen,ho0,ho1⟩:=hc
     unfold Qb.has at hhas
     rw [Bool.and_eq_true,decide_eq_true_eq,decide_eq_true_eq] at hhas
     have hh2:x.who<(m.ws.length:Int):=hhas.2
     obtain ⟨k,hk⟩:∃k:Nat,x.who=k:=⟨x.who.toNat,by omega⟩
     rw [al.wk] at hst
     have hlen2:m.evs.length<1999:=hlen
     have e5:=Yg m.ws
     have wo8:=h.mem.cf.1
     have mi:=B.setW (w:=x.who.toNat) (by show ((x.who.toNat:Nat):Int)<m.c.wo;omega) (k0:={Jd with st:=1,ask:=x.ask}) (Q1I ⟨ho0,ho1⟩) (.inr (by show m.evs.length+8≤2007;omega))
     have e6:=Yg (m.ws.set x.who.toNat {Jd with st:=1,ask:=x.ask})
     rw [List.length_set] at e6
     refine ⟨MInv.mono ⟨mi.mem,mi.gd,mi.bd,mi.ah,mi.nw, ?_,mi.wl,mi.wk⟩, ?_⟩
     · show ((m.evs++[_]).length:Int)+ZQ (m.ws.set x.who.toNat {Jd with st:=1,ask:=x.ask})≤2007
       rw [List.length_append,List.length_singleton];omega
     · exact .asks k h0 hk (by omega) (by rw [←show x.who.toNat=k by omega];exact hst) ⟨ho0,ho1⟩ rfl rfl (by show m.ws.set x.who.toNat _=_;rw [show x.who.toNat=k by omega]) rfl rfl
   · exact ⟨B.mono,.quiet rfl rfl rfl rfl (Int.le_refl _) (fun _=>rfl) (fun y=>by omega)⟩
 · rw [if_neg h0]
   by_cases h1:x.kind=1
   · rw [if_pos h1]
     unfold KP
     split
     · rename_i hhas
       unfold Qb.has at hhas
       rw [Bool.and_eq_true,decide_eq_true_eq,decide_eq_true_eq] at hhas
       have hh2:x.who<(m.ws.length:Int):=hhas.2
       obtain ⟨k,hk⟩:∃k:Nat,x.who=k:=⟨x.who.toNat,by omega⟩
       have hk2:x.who.toNat=k:=by omega
       rw [hk2]
       simp only
       split
       · rename_i hs
         exact ⟨B.mono,.quiet rfl rfl rfl rfl (Int.le_refl _) (fun _=>rfl) (fun _=>⟨rfl,rfl,fun _ _=>by rw [hk2];exact (al.stuck k).1 hs⟩)⟩
       · rename_i hs
         have hst0:(({m with at_:=m.entries,entries:=m.entries+1}:Qb).wk k).st≠0:=fun e=>hs (.inl e)
         obtain ⟨k',S, -⟩:=Y8 B hn (w:=k) (by show (k:Int)<m.c.wo;omega) hst0
         obtain ⟨I, -, -⟩:=S.inv B (by show (k:Int)<m.c.wo;omega)
         exact ⟨I,.step k h1 hk (by omega) (fun y=>hs ((al.stuck k).2 y))⟩
     · rename_i hhas
       refine ⟨B.mono,.quiet rfl rfl rfl rfl (Int.le_refl _) (fun _=>rfl) (fun _=>⟨rfl,rfl,fun y1 y2=>absurd ?_ hhas⟩)⟩
       unfold Qb.has
       rw [Bool.and_eq_true,decide_eq_true_eq,decide_eq_true_eq]
       exact ⟨y1,by show x.who<(m.ws.length:Int);omega⟩
   · rw [if_neg h1]
     by_cases h2:x.kind=2
     · rw [if_pos h2]
       exact ⟨MInv.mono ⟨h.mem,h.gd,h.bd,h.ah,by have:=h.nw;simp only;omega,h.ev,h.wl,h.wk⟩,.quiet rfl rfl rfl rfl (by have:=h.nw;simp only;omega) (fun y=>absurd y h0) (fun y=>absurd y h1)⟩
     · rw [if_neg h2]
       by_cases h3:x.kind=3
       · rw [if_pos h3]
         split
         · rename_i hl
           exact ⟨MInv.mono ⟨h.mem,h.gd,h.bd,by have hl2:m.ahead.length<1000:=hl;simp only [List.length_append,List.length_singleton];omega,h.nw,h.ev,h.wl,h.wk⟩,.quiet rfl rfl rfl rfl (Int.le_refl _) (fun y=>absurd y h0) (fun y=>absurd y h1)⟩
         · exact ⟨B.mono,.quiet rfl rfl rfl rfl (Int.le_refl _) (fun y=>absurd y h0) (fun y=>absurd y h1)⟩
       · rw [if_neg h3]
         by_cases h4:x.kind=4
         · rw [if_pos h4]
           unfold Yv
           by_cases hn':Q5 m.c x.ask.slot<0
           · rw [if_pos hn'];exact ⟨B.mono,.quiet rfl rfl rfl rfl (Int.le_refl _) (fun y=>absurd y h0) (fun y=>absurd y h1)⟩
           · rw [if_neg hn']
             have hi:0≤x.ask.slot∧x.ask.slot<m.c.sl:=by
              by_cases hi:0≤x.ask.slot∧x.ask.slot<m.c.sl
              · exact hi
              · rw [X3 _ hi] at hn';omega
             obtain ⟨a1,a2,a3⟩:=h.mem.at x.ask.slot
             have hM:∀X:Qb,∀f:Q7→Int→Qb×Bool,(match J6 (Q6 ({m with at_:=m.entries,entries:=m.entries+1}:Qb).M (Q5 ({m with at_:=m.entries,entries:=m.entries+1}:Qb).c x.ask.slot)) 13 0 0 with|some (u,next)=>f u next|none=>(X,false))=(match J6 (Q6 m.M (Q5 m.c x.ask.slot)) 13 0 0 with|some (u,next)=>f u next|none=>(X,false)):=fun _ _=>rfl
             simp only [hM]
             cases ha:J6 (Q6 m.M (Q5 m.c x.ask.slot)) 13 0 0 with
             |none=>simp only;exact ⟨B.mono,.quiet rfl rfl rfl rfl (Int.le_refl _) (fun y=>absurd y h0) (fun y=>absurd y h1)⟩
             |some y=>
              obtain ⟨s,hds,hu,he⟩:=JB ha
              obtain ⟨u,nx⟩:=y
              simp only at hu he ⊢
              subst he
              rw [a3] at hds;cases hds
              have e:QA m.M (Q5 m.c x.ask.slot) u.enc=Yf m.c m.M x.ask.slot u:=by
               have:=h.mem.U3 hi
               unfold Yf Q5;rw [if_pos hi];exact JG this.1 this.2
              have st:=h.mem.Q5V hi hu
              refine ⟨⟨by show Qm m.c (n+1) _;rw [e];exact st.ok,B.mono.gd,B.mono.bd,h.ah,h.nw,h.ev,h.wl,fun k hk=> ?_⟩,.breaks x.ask.slot u h4 hi hu rfl e rfl rfl rfl⟩
              have:=(h.wk k hk).mono (n':=n+1) (by omega) (st.sh)
              show (m.wk k).live m.c k (n+1) (Js (QA m.M (Q5 m.c x.ask.slot) u.enc))
              rw [e];exact this
         · rw [if_neg h4];exact ⟨B.mono,.quiet rfl rfl rfl rfl (Int.le_refl _) (fun y=>absurd y h0) (fun y=>absurd y h1)⟩
theorem Way.conf {x:Qy} {did:Bool} (h:MInv n m) (hn:n≤1000000000) (y:Way m x m' did):m'.c=m.c:=by
 cases y with
 |quiet a=>exact a
 |asks k _ _ _ _ _ a=>exact a
 |breaks i u _ _ _ a=>exact a
 |step k _ _ hk hs=>
  have B:MInv n {m with at_:=m.entries,entries:=m.entries+1}:=⟨h.mem,h.gd,h.bd,h.ah,h.nw,h.ev,h.wl,h.wk⟩
  have hst0:(({m with at_:=m.entries,entries:=m.entries+1}:Qb).wk k).st≠0:=fun e=>hs (.inl e)
  obtain ⟨k',S, -⟩:=Y8 B hn (w:=k) hk hst0
  exact S.c
theorem GI.do_ (g:GI c m) (hn:m.entries≤900000000) (x:Qy):GI c (doV m x).1∧Way m x (doV m x).1 (doV m x).2:=by
 obtain ⟨I,Y⟩:=do_way g.i (by omega) x
 have en:=ZN m x
 have hc:=Y.conf g.i (by omega)
 refine ⟨⟨by rw [en];exact I,by rw [en];have:=g.e;omega,hc.trans g.c,fun k=> ?_⟩,Y⟩
 generalize (doV m x).1=m' at*
 generalize (doV m x).2=did at*
 cases Y with
 |quiet _ _ a=>unfold Qb.wk;rw [a];exact g.x k
 |breaks i u _ _ _ _ _ a=>unfold Qb.wk;rw [a];exact g.x k
 |asks j _ _ _ _ _ _ _ a=>
  unfold Qb.wk
  rw [a,YM]
  split
  · intro y;simp at y
  · exact g.x k
 |step j h1 h2 hk hs=>
  have e:doV m (Jj (j:Int))=(QJ {m with at_:=m.entries,entries:=m.entries+1} j,true):=by
   obtain ⟨-, -,P⟩:=Zu g hn (w:=j) (by rw [←g.c];exact hk)
   rcases P with ⟨-, -,y⟩|⟨y1, -,y2, -⟩
   · exact absurd y hs
   · exact Prod.ext y2 y1
  have:=(Zu g hn (w:=j) (by rw [←g.c];exact hk)).1.x k
  rw [e] at this;exact this
theorem GI.new (hc:c.fits):GI c (QH c):=
 ⟨(Vm.new hc).mi,by show (0:Int)≤0;omega,rfl,fun k=>by rw [KS];intro y;simp [Jd] at y⟩
end
section
open Go.RowKit Go.Shelf Go.Lib
attribute [local go_sem] Oper.semAt_some
theorem MM.settled {w w':World} {F F':List Nat} {b:Bs} {m R:Qb} {w0:World} {F0:List Nat} {q:Nat} {c:Q0} (H:MM w F b m w0 F0 q c) (A:MAt w' F' b R (2*R.entries)) (f:Fr F w w') (hF:∀x∈F',x∈F∨w.heap.size≤x):MM w' F' b R w0 F0 q c:=by
 obtain ⟨-,g,h1,h2,h3⟩:=H
 have hlt:=Q8 h3
 refine ⟨A,g.then f h1,fun y hy=> ?_,fun hq=> ?_,f.at h3 h2⟩
 · rcases hF y hy with a|a
   · exact h1 y a
   · exact .inr (Nat.le_trans g.size a)
 · rcases hF q hq with a|a
   · exact h2 a
   · omega
theorem Va:QV.fits:=by unfold Q0.fits QV;decide
def aA:Qb×Bool:=doV (QH QV) ⟨0,0,VY,0,false⟩
def D9:Qb×Bool:=Z0 2 VW [] 1000 aA.1 0 0 0
def aB:Qb×Bool:=doV D9.1 ⟨0,1,{VY with wait:=true,dl:=9},0,false⟩
def Wp:Qb×Bool:=Z0 2 VW [] 1000 aB.1 0 0 0
def aD:Qb×Bool:=doV Wp.1 ⟨0,0,{VY with op:=2,gen:=1},0,false⟩
def ZO:Qb×Bool:=Z0 2 VW [] 1000 aD.1 0 0 0
theorem GX:aA.2=true∧D9.2=true∧aB.2=true∧Wp.2=true∧aD.2=true∧ZO.2=true∧(Wp.1.wk 1).st=6∧(ZO.1.wk 1).st=0∧ZO.1.evs.length=6∧(ZO.1.evs.getD 5 ev0).e=0∧ZO.1.entries≤1000:=by
 have h:=Q1p
 unfold Q7h at h
 simp only [Bool.and_eq_true,decide_eq_true_eq] at h
 obtain ⟨⟨⟨⟨⟨⟨⟨⟨⟨⟨h1,h2⟩,h3⟩,h4⟩,h5⟩,h6⟩,h7⟩,h8⟩,h9⟩,h10⟩,h11⟩:=h
 exact ⟨h1,h4,h2,h5,h3,h6,h7,h8,h9,h10,h11⟩
structure JAw (J:Qb→Prop):Prop where
 n:J (QH QV)
 s:∀m x,J m→m.entries≤1000→J (doV m x).1
 i:∀m,J m→MInv m.entries m∧0≤m.entries∧m.c=QV
variable {J:Qb→Prop}
theorem Q7g (hJ:JAw J):J aA.1∧J D9.1∧J aB.1∧J Wp.1∧J aD.1∧J ZO.1∧(QH QV).entries=0∧aA.1.entries≤1000∧D9.1.entries≤1000∧aB.1.entries≤1000∧Wp.1.entries≤1000∧aD.1.entries≤1000:=by
 have e3:=GX.2.2.2.2.2.2.2.2.2.2
 have d5:aD.1.entries≤ZO.1.entries:=KE _ _ _ _ _ _ _ _
 have d4:aD.1.entries=Wp.1.entries+1:=ZN _ _
 have d3:aB.1.entries≤Wp.1.entries:=KE _ _ _ _ _ _ _ _
 have d2:aB.1.entries=D9.1.entries+1:=ZN _ _
 have d1:aA.1.entries≤D9.1.entries:=KE _ _ _ _ _ _ _ _
 have K:∀m:Qb,J m→m.entries≤1000→(∀f,(Z0 2 VW [] f m 0 0 0).1.entries≤1000→J (Z0 2 VW [] f m 0 0 0).1):=fun m g he f hf=>by
  have:=Q1X (J:=fun m=>m.entries≤1000→J m) 2 VW [] (by omega) (fun m w hw h he=>by
   have:=ZN m (Jj w)
   exact hJ.s m _ (h (by omega)) (by omega)) f m 0 0 0 (fun _=>g)
  exact this hf
 have g0:=hJ.n
 have g1:J aA.1:=hJ.s _ _ g0 (by show (0:Int)≤_;omega)
 have g2:J D9.1:=K _ g1 (by omega) 1000 (by show D9.1.entries≤1000;omega)
 have g3:J aB.1:=hJ.s _ _ g2 (by omega)
 have g4:J Wp.1:=K _ g3 (by omega) 1000 (by show Wp.1.entries≤1000;omega)
 have g5:J aD.1:=hJ.s _ _ g4 (by omega)
 have g6:J ZO.1:=K _ g5 (by omega) 1000 (by show ZO.1.entries≤1000;omega)
 exact ⟨g1,g2,g3,g4,g5,g6,rfl,by omega,by omega,by omega,by omega,by omega⟩
theorem Q4R:ZG QV=VW:=by decide
theorem Vd.nil (w:World) (g:Option Addr):Vd w g []:=⟨by simp,by simp,fun j x h=>by simp at h⟩
def lies (w:World) (F:List Nat):List Nat:=F.filter fun x=>decide (x<w.heap.size)
theorem EB {w:World} {F:List Nat}:∀x∈lies w F,x<w.heap.size:=fun x hx=>by unfold lies at hx;rw [List.mem_filter,decide_eq_true_eq] at hx;exact hx.2
theorem V3 {w:World} {F:List Nat}:∀x∈lies w F,x∈F:=fun x hx=>by unfold lies at hx;exact (List.mem_filter.1 hx).1
theorem KV {w:World} {F:List Nat} {x:Nat} (h:2<x∧x<w.heap.size∧x∈F):2<x∧x<w.heap.size∧x∈lies w F:=⟨h.1,h.2.1,List.mem_filter.2 ⟨h.2.2,decide_eq_true h.2.1⟩⟩
theorem MAt.cut {w:World} {F:List Nat} {b:Bs} {m:Qb} {N:Int} (A:MAt w F b m N):MAt w (lies w F) b m N:=by
 obtain ⟨ve,vr,v,L,A⟩:=A
 exact ⟨ve,vr,v,L,A.mb,A.wr,A.me,A.ck,A.wl,A.ev,A.fl,A.db,A.nd,fun x hx=>KV (A.bl x hx),fun x hx=>⟨KV (A.e1 x hx).1,(A.e1 x hx).2⟩,fun x hx=>⟨KV (A.e2 x hx).1,(A.e2 x hx).2⟩,A.th,A.ln,fun k hk x hx=>⟨KV (A.l1 k hk x hx).1,(A.l1 k hk x hx).2⟩,A.l2⟩
theorem MM.cut {w:World} {F:List Nat} {b:Bs} {m:Qb} {w0:World} {F0:List Nat} {q:Nat} {c:Q0} (H:MM w F b m w0 F0 q c):MM w (lies w F) b m w0 F0 q c:=
 ⟨H.1.cut,H.2.1,fun x hx=>H.2.2.1 x (V3 x hx),fun hx=>H.2.2.2.1 (V3 _ hx),H.2.2.2.2⟩
theorem Q5X (w:World) (F:List Nat) (b:Bs) (m:Qb) (w0:World) (F0:List Nat) (q:Nat) (H:MM w F b m w0 F0 q QV) (hJ:JAw J) (g:J m) (hR2:(Z0 2 VW [] 1000 m 0 0 0).2=true) (hE:(Z0 2 VW [] 1000 m 0 0 0).1.entries≤1000):
 Calls Tryz.prog 9 #[pt b.pM,QV.val,.slice none 0 0] w fun e w'=>e=.returned (.bool true)∧∃F',MM w' F' b (Z0 2 VW [] 1000 m 0 0 0).1 w0 F0 q QV:=by
 have H2:=H.cut
 refine (Gs w (lies w F) b m H2.1 EB QV Va none 0 [] (Vd.nil w _) (by simp) (by simp) 1000 J ⟨hJ.i,fun m w g he _ _=>hJ.s m _ g (by omega),by omega⟩ g 1000 _ (by rw [Q4R];rfl) hR2 hE).mono ?_
 rintro e w' ⟨rfl,F',A, -,f,hF'⟩
 exact ⟨rfl,F',H2.settled A f hF'⟩
theorem MM.ndo {w:World} {F:List Nat} {b:Bs} {m:Qb} {w0:World} {F0:List Nat} {q:Nat} {c':Q0} (H:MM w F b m w0 F0 q c') (hJ:JAw J) (g:J m) (he:m.entries≤40000000) (x:Qy) {r:Qb×Bool} (hr:doV m x=r):
 Calls Tryz.prog 11 #[pt b.pM,x.val] w fun e w'=>e=.returned (.bool r.2)∧∃F',MM w' F' b r.1 w0 F0 q c':=by
 obtain ⟨i,e, -⟩:=hJ.i m g
 rw [←hr];exact H.do_ i (by omega) e he x
theorem Q5p (w:World) (h3:3≤w.heap.size) (hfl:Qe w 0 Qc) (hdb:Hq w) (hJ:JAw J):Calls Tryz.prog 6 #[] w fun e w'=>e=.returned (.bool true)∧Fr [] w w':=by
 obtain ⟨t1,t2,t3,t4,t5,t6,t7,t8,t9,t10,t11⟩:=GX
 obtain ⟨g1,g2,g3,g4,g5,g6,z0,e1,e2,e3,e4,e5⟩:=Q7g hJ
 have f1:=(Fr.refl [] w).alloc (XU QV)
 have hq:(w.alloc (XU QV)).heap[w.heap.size]?=some (XU QV):=heap_alloc_new w (XU QV)
 have hnew:=(r_new (w.alloc (XU QV)) QV Va (by rw [World.size_alloc];omega) (hfl.fr f1 (by simp)) (hdb.fr f1 (by simp)))
 generalize hw1:w.alloc (XU QV)=w1 at hnew f1 hq
 have hw1':w.alloc (.cells #[.int .i64 2,.int .i64 1,.int .i64 0,.int .i64 1,.int .i64 9] 30 (0,0))=w1:=hw1
 have HN:=hid (show Calls Tryz.prog 17 #[.agg #[.int .i64 2,.int .i64 1,.int .i64 0,.int .i64 1,.int .i64 9]] w1 (Q3t w1 QV) from hnew)
 have HT:=hid (And.intro t1 (And.intro t2 (And.intro t3 (And.intro t4 (And.intro t5 t6)))))
 have HG:=hid (And.intro g1 (And.intro g2 (And.intro g3 (And.intro g4 (And.intro g5 g6)))))
 have HQ:=hid hq;have HF1:=hid f1;have Hz:=hid z0
 have H7:=hid t7;have H8:=hid t8;have H9:=hid t9;have H10:=hid t10;have H11:=hid t11
 have HE:=hid (And.intro e1 (And.intro e2 (And.intro e3 (And.intro e4 e5))))
 have HW1:=hid hw1';have HJ:=hid hJ
 clear hnew t1 t2 t3 t4 t5 t6 t7 t8 t9 t10 t11 g1 g2 g3 g4 g5 g6 hq f1 z0 hfl hdb e1 e2 e3 e4 e5 hw1 hw1' hJ
 have HS:=hid (show ∀(w:World) (F:List Nat) (b:Bs) (m:Qb) (w0:World) (F0:List Nat) (q:Nat),MM w F b m w0 F0 q QV→J m→(Z0 2 VW [] 1000 m 0 0 0).2=true→(Z0 2 VW [] 1000 m 0 0 0).1.entries≤1000→
  Calls Tryz.prog 9 #[.pointer (some ⟨b.pM,0,none⟩),.agg #[.int .i64 2,.int .i64 1,.int .i64 0,.int .i64 1,.int .i64 9],.slice none 0 0] w fun e w'=>e=.returned (.bool true)∧∃F',MM w' F' b (Z0 2 VW [] 1000 m 0 0 0).1 w0 F0 q QV from fun w F b m w0 F0 q H g h1 h2=>Q5X w F b m w0 F0 q H HJ.out g h1 h2)
 go_in
 go_wp2_with fail
 rw [HW1.out]
 refine (HN.out).mono ?_
 rintro e w2 ⟨b,F,rfl,A,hFn,f2⟩
 have hlq:=Q8 HQ.out
 have M0:MM w2 F b (QH QV) w [] w.heap.size QV:=⟨by rw [Hz.out];exact A,HF1.out.then f2 (by simp),fun x hx=>.inr (by have:=hFn x hx;have:=HF1.out.size;omega),fun hx=>by have:=hFn _ hx;omega,f2.at HQ.out (by simp)⟩
 have HM0:=hid M0
 have q0:=cl 0 M0.2.2.2.2;have q1:=cl 1 M0.2.2.2.2;have q2:=cl 2 M0.2.2.2.2;have q3:=cl 3 M0.2.2.2.2;have q4:=cl 4 M0.2.2.2.2
 have HB:=hid M0.2.2.2.2
 clear M0 A hFn f2 hlq HN HW1
 unfold pt
 have hd:=HM0.out.ndo HJ.out HJ.out.n (by rw [Hz.out];omega) ⟨0,0,VY,0,false⟩ (show doV (QH QV) _=aA from rfl)
 have HD:=hid (show Calls Tryz.prog 11 #[.pointer (some ⟨b.pM,0,none⟩),.agg #[.int .i64 0,.int .i64 0,.int .i64 0,.int .i64 0,.bool false,.bool false,.int .i64 0,.int .i64 0,.int .i64 0,.int .i64 0,.bool false]] _ (fun e w'=>e=.returned (.bool aA.2)∧∃F',MM w' F' b aA.1 w [] w.heap.size QV) from hd)
 clear hd
 go_wp2_with fail
 refine (HD.out).mono ?_
 rintro e w3 ⟨he,F1,M1⟩
 rw [HT.out.1] at he
 subst he
 have HM1:=hid M1
 have q0:=cl 0 M1.2.2.2.2;have q1:=cl 1 M1.2.2.2.2;have q2:=cl 2 M1.2.2.2.2;have q3:=cl 3 M1.2.2.2.2;have q4:=cl 4 M1.2.2.2.2
 clear M1 HM0 HD
 have HD:=hid (HS.out _ _ _ _ _ _ _ HM1.out (HG.out.1) (HT.out.2.1) (by have h:=HE.out.2.1;exact h))
 go_wp2_with fail
 refine (HD.out).mono ?_
 rintro e w4 ⟨rfl,F2,M2⟩
 have HM2:=hid (show MM _ F2 b D9.1 w [] w.heap.size QV from M2)
 have q0:=cl 0 M2.2.2.2.2;have q1:=cl 1 M2.2.2.2.2;have q2:=cl 2 M2.2.2.2.2;have q3:=cl 3 M2.2.2.2.2;have q4:=cl 4 M2.2.2.2.2
 clear M2 HM1 HD
 have hd:=HM2.out.ndo HJ.out (HG.out.2.1) (by have:=HE.out.2.1;omega) ⟨0,1,{VY with wait:=true,dl:=9},0,false⟩ (show doV D9.1 _=aB from rfl)
 have HD:=hid (show Calls Tryz.prog 11 #[.pointer (some ⟨b.pM,0,none⟩),.agg #[.int .i64 0,.int .i64 1,.int .i64 0,.int .i64 9,.bool true,.bool false,.int .i64 0,.int .i64 0,.int .i64 0,.int .i64 0,.bool false]] _ (fun e w'=>e=.returned (.bool aB.2)∧∃F',MM w' F' b aB.1 w [] w.heap.size QV) from hd)
 clear hd
 go_wp2_with fail
 refine (HD.out).mono ?_
 rintro e w5 ⟨he,F3,M3⟩
 rw [HT.out.2.2.1] at he
 subst he
 have HM3:=hid M3
 have q0:=cl 0 M3.2.2.2.2;have q1:=cl 1 M3.2.2.2.2;have q2:=cl 2 M3.2.2.2.2;have q3:=cl 3 M3.2.2.2.2;have q4:=cl 4 M3.2.2.2.2
 clear M3 HM2 HD
 have HD:=hid (HS.out _ _ _ _ _ _ _ HM3.out (HG.out.2.2.1) (HT.out.2.2.2.1) (by have h:=HE.out.2.2.2.1;exact h))
 go_wp2_with fail
 refine (HD.out).mono ?_
 rintro e w6 ⟨rfl,F4,M4⟩
 have HM4:=hid (show MM _ F4 b Wp.1 w [] w.heap.size QV from M4)
 have q0:=cl 0 M4.2.2.2.2;have q1:=cl 1 M4.2.2.2.2;have q2:=cl 2 M4.2.2.2.2;have q3:=cl 3 M4.2.2.2.2;have q4:=cl 4 M4.2.2.2.2
 clear M4 HM3 HD
 have hw2:Wp.1.ws.length=2:=by have h:=HJ.out.i _ HG.out.2.2.2.1;have h2:=h.1.wl;rw [h.2.2] at h2;have:QV.wo=2:=rfl;omega
 have HD:=hid (HM4.out.1.state (who:=1) (by omega))
 clear hw2
 go_wp2_with fail
 refine (HD.out).mono ?_
 rintro e w7 ⟨he,f7⟩
 rw [H7.out] at he
 subst he
 have M5:=HM4.out.fr f7
 have HM5:=hid M5
 have q0:=cl 0 M5.2.2.2.2;have q1:=cl 1 M5.2.2.2.2;have q2:=cl 2 M5.2.2.2.2;have q3:=cl 3 M5.2.2.2.2;have q4:=cl 4 M5.2.2.2.2
 clear M5 HM4 HD f7
 have hd:=HM5.out.ndo HJ.out (HG.out.2.2.2.1) (by have:=HE.out.2.2.2.1;omega) ⟨0,0,{VY with op:=2,gen:=1},0,false⟩ (show doV Wp.1 _=aD from rfl)
 have HD:=hid (show Calls Tryz.prog 11 #[.pointer (some ⟨b.pM,0,none⟩),.agg #[.int .i64 0,.int .i64 0,.int .i64 2,.int .i64 0,.bool false,.bool false,.int .i64 0,.int .i64 1,.int .i64 0,.int .i64 0,.bool false]] _ (fun e w'=>e=.returned (.bool aD.2)∧∃F',MM w' F' b aD.1 w [] w.heap.size QV) from hd)
 clear hd
 go_wp2_with fail
 refine (HD.out).mono ?_
 rintro e w8 ⟨he,F6,M6⟩
 rw [HT.out.2.2.2.2.1] at he
 subst he
 have HM6:=hid M6
 have q0:=cl 0 M6.2.2.2.2;have q1:=cl 1 M6.2.2.2.2;have q2:=cl 2 M6.2.2.2.2;have q3:=cl 3 M6.2.2.2.2;have q4:=cl 4 M6.2.2.2.2
 clear M6 HM5 HD
 have HD:=hid (HS.out _ _ _ _ _ _ _ HM6.out (HG.out.2.2.2.2.1) (HT.out.2.2.2.2.2) (H11.out))
 go_wp2_with fail
 refine (HD.out).mono ?_
 rintro e w9 ⟨rfl,F7,M7⟩
 have HM7:=hid (show MM _ F7 b ZO.1 w [] w.heap.size QV from M7)
 have q0:=cl 0 M7.2.2.2.2;have q1:=cl 1 M7.2.2.2.2;have q2:=cl 2 M7.2.2.2.2;have q3:=cl 3 M7.2.2.2.2;have q4:=cl 4 M7.2.2.2.2
 clear M7 HM6 HD
 have HD:=hid (HM7.out.1.events (HJ.out.i _ HG.out.2.2.2.2.2).1)
 go_wp2_with fail
 refine (HD.out).mono ?_
 rintro e w10 ⟨v',rfl,E, -,f10⟩
 have M8:=HM7.out.fr f10
 have hw2:ZO.1.ws.length=2:=by have h:=HJ.out.i _ HG.out.2.2.2.2.2;have h2:=h.1.wl;rw [h.2.2] at h2;have:QV.wo=2:=rfl;omega
 have HD2:=hid (M8.1.state (who:=1) (by omega))
 have E0:=E
 unfold XH at E0
 rcases E0.2 with ⟨-,h0⟩|⟨g,off,cap,cur,rfl,hg, -⟩
 · exact absurd h0 (by rw [H9.out];omega)
 obtain ⟨x,hx⟩:∃x,ZO.1.evs[5]?=some x:=⟨_,List.getElem?_eq_getElem (by rw [H9.out];omega)⟩
 have hx0:x.e=0:=by have h:=H10.out;rw [List.getD_eq_getElem?_getD,hx] at h;exact h
 have HEV:=hid E;have HX:=hid hx;have HX0:=hid hx0
 have HM8:=hid M8
 clear M8 HM7 HD f10 hw2 E E0 hg hx hx0
 rw [H9.out]
 go_wp2_with fail
 refine (HD2.out).mono ?_
 rintro e w11 ⟨he,f11⟩
 rw [H8.out] at he
 subst he
 have M9:=HM8.out.fr f11
 have qe:=V6 (Jo.fr HEV.out f11 (by simp)) HX.out (j:=10) (u:=.int .i64 0) (by have h:=HX0.out;unfold EvV.cells;rw [h];rfl)
 have HF9:=hid M9.2.1
 clear M9 HM8 HD2 f11
 go_wp2
 go_ret
 exact ⟨rfl,HF9.out⟩
end
end Go.Proofs.YtgjklfmnmljilaaGreatDoor
