/- A part of the proof: TqN to TqN. -/
import Derived.Test.YtgjklfmnmljilaaGreatDoorZS44
namespace Go.Proofs.YtgjklfmnmljilaaGreatDoor
set_option linter.unusedVariables false
set_option linter.unusedSimpArgs false
set_option linter.unusedSectionVars false
set_option linter.unnecessarySimpa false
set_option maxRecDepth 100000
set_option maxHeartbeats 8000000
section
def qS (s:Q7):Int:=if s.st=2∨s.st=3∨s.st=4 then 4 else if s.st=6 then 1 else 0
def QSn (c:Q0) (M:List Int):Nat→Int
 |0=>0
 |k+1=>QSn c M k+qS (SL c M k)
def QS (c:Q0) (M:List Int):Int:=QSn c M c.sl.toNat
theorem Q6f (s:Q7):0≤qS s∧qS s≤4:=by unfold qS;split<;>(try split)<;>omega
theorem Q7o (c:Q0) (M:List Int):∀k:Nat,0≤QSn c M k∧QSn c M k≤4*k
 |0=>by simp [QSn]
 |k+1=>by have:=Q7o c M k;have:=Q6f (SL c M k);unfold QSn;omega
theorem Ho {c:Q0} {M M':List Int} (h:∀i,SL c M' i=SL c M i):∀k:Nat,QSn c M' k=QSn c M k
 |0=>rfl
 |k+1=>by unfold QSn;rw [Ho h k,h]
theorem Q3r {c:Q0} {M M':List Int} {i:Int} {u:Q7} (h0:0≤i) (h:∀j,SL c M' j=if j=i then u else SL c M j):∀k:Nat,QSn c M' k=QSn c M k+if i<k then qS u - qS (SL c M i) else 0
 |0=>by unfold QSn;rw [if_neg (by omega)];rfl
 |k+1=>by
  unfold QSn
  rw [Q3r h0 h k,h]
  by_cases hk:(k:Int)=i
  · rw [if_pos hk,if_neg (by omega),if_pos (by omega),hk];omega
  · rw [if_neg hk]
    by_cases h2:i<(k:Int)
    · rw [if_pos h2,if_pos (by omega)];omega
    · rw [if_neg h2,if_neg (by omega)];omega
variable {c:Q0} {w:Nat} {n:Int} {M M':List Int}
theorem Qm.ER (h:Qm c n M) {i:Int} (hi:0≤i∧i<c.sl) {u:Q7} (hu:u.right):QS c (Yf c M i u)=QS c M - qS (SL c M i)+qS u:=by
 unfold QS
 rw [Q3r hi.1 (fun j=>h.WJ hi hu j),if_pos (by omega)];omega
theorem Qm.WB (h:Qm c n M) {i:Int} (hi:0≤i∧i<c.sl) (u:Q7):mQ (Yf c M i u)=mQ M:=Q0V (h.VA hi u (by have:=h.cf.1;omega))
structure Same (c:Q0) (M M':List Int):Prop where
 s:∀i,Q6 M' (Q5 c i)=Q6 M (Q5 c i)
 q:Q6 M' 1=Q6 M 1
 e:Q6 M' 2=Q6 M 2
theorem Same.refl:Same c M M:=⟨fun _=>rfl,rfl,rfl⟩
theorem Same.mQ (h:Same c M M'):mQ M'=mQ M:=Q0V h.q
theorem Same.SL (h:Same c M M') (i:Int):SL c M' i=SL c M i:=by unfold Go.Proofs.YtgjklfmnmljilaaGreatDoor.SL;rw [h.s]
theorem Same.QS (h:Same c M M'):QS c M'=QS c M:=Ho h.SL _
theorem Qm.ZE (h:Qm c n M) {j v:Int} (h0:j=0∨3≤j) (h1:j<3+2*c.wo):Same c M (M.set j.toNat v):=by
 have:=h.len;have:=h.cf.2.1;have:=h.cf.1
 have L:∀x,x≠j→Q6 (M.set j.toNat v) x=Q6 M x:=fun x hx=>by rw [Zv (by omega) (by unfold Q0.cells at*;omega),if_neg hx]
 refine ⟨fun i=>L _ ?_,L _ (by omega),L _ (by omega)⟩
 unfold Q5 Q0.slot;split<;>omega
def mt (c:Q0) (M:List Int) (i word:Int):Bool:=decide (Q6 M (Q5 c i)=word)
theorem Qm.Ki (h:Qm c n M) {i word:Int} (hi:0≤i∧i<c.sl):Qv M (Q5 c i) word=mt c M i word:=by
 have:=h.U3 hi
 have e:Q5 c i=c.slot i:=by unfold Q5;rw [if_pos hi]
 unfold Qv mt Q6
 rw [e,Jh this.1 this.2,Bool.true_and,if_pos rfl]
theorem Same.mt (h:Same c M M') (i word:Int):mt c M' i word=mt c M i word:=by unfold Go.Proofs.YtgjklfmnmljilaaGreatDoor.mt;rw [h.s]
def Qw (c:Q0):Int:=2*c.wo+1
def Gg (c:Q0) (M M':List Int) (j j' r r':Int):Prop:=
 (mQ M'=mQ M∧QS c M'+j'+1≤QS c M+j)∨(QS c M'=QS c M∧Qw c*((mQ M').length:Int)+j'+2*c.wo≤Qw c*((mQ M).length:Int)+j+1)∨(Same c M M'∧j'≤j∧r'+1≤r)
theorem Gg.stay {j j' r r':Int} (h1:j'≤j) (h2:r'+1≤r):Gg c M M j j' r r':=.inr (.inr ⟨Same.refl,h1,h2⟩)
theorem Qm.XJ (h:Qm c n M) {i word:Int} {s u:Q7} {d:Nat} {own more:Int} (hd:dec word=some s) (hn:Qj s d own more=some u) (hc:Qv M (Q5 c i) word=true) {j j':Int} (r r':Int) (hj:qS u+j'+1≤qS s+j):
 Gg c M (QL M (Q5 c i) word u.enc) j j' r r':=by
 obtain ⟨hi,e,hu,e2, -⟩:=h.swap hd hn hc
 rw [e2]
 left
 refine ⟨h.WB hi u, ?_⟩
 rw [h.ER hi hu,e];omega
theorem KR {s:Q7} {d:Nat} {own more:Int} (h0:0≤own∧own≤15) {t:Q7} (h:chg d s own more=some t):∃u,Qj s d own more=some u:=⟨_,by unfold Qj;rw [if_pos h0,h];rfl⟩
theorem Kh {s u:Q7} {d:Nat} {own more:Int} (h:Qj s d own more=some u):
 (d=0∨d=2∨d=3∨d=4∨d=5∨d=6∨d=7∨d=8∨d=9∨d=10∨d=13∨d=14∨d=15∨d=16∨d=17→qS u=qS s)∧(d=1→qS u≤qS s+4)∧(d=11→qS u+3=qS s)∧(d=12→qS u+1=qS s):=by
 obtain ⟨-,t,ht,rfl⟩:=Xf h
 show (_→qS t=qS s)∧(_→qS t≤qS s+4)∧(_→qS t+3=qS s)∧(_→qS t+1=qS s)
 have q1:=Q6f t;have q2:=Q6f s
 have G:∀{x y:Int},t.st=x→s.st=y→((x=0∨x=1∨x=5)∧(y=0∨y=1∨y=5))∨((x=2∨x=3∨x=4)∧(y=2∨y=3∨y=4))∨(x=6∧y=6)→qS t=qS s:=by
  intro x y hx hy hh
  unfold qS;rw [hx,hy]
  rcases hh with ⟨a,b⟩|⟨a,b⟩|⟨a,b⟩
  · rw [if_neg (by omega),if_neg (by omega),if_neg (by omega),if_neg (by omega)]
  · rw [if_pos a,if_pos b]
  · rw [a,b]
 refine ⟨fun hd=> ?_,fun _=>by omega,fun hd=> ?_,fun hd=> ?_⟩
 · rcases hd with rfl|rfl|rfl|rfl|rfl|rfl|rfl|rfl|rfl|rfl|rfl|rfl|rfl|rfl|rfl
   case inr.inr.inr.inr.inr.inr.inr.inr.inr.inr.inr.inl=>
    simp only [chg,Vx] at ht;split at ht
    · obtain ⟨i,hi,rfl⟩:=Option.map_eq_some_iff.1 ht;rfl
    · cases ht
   case inr.inr.inr.inr.inr.inr.inr.inr.inr.inr.inr.inr.inl=>
    simp only [chg,Vt] at ht;split at ht
    · cases ht;rfl
    · cases ht
   case inr.inr.inr.inr.inr.inr.inr.inr.inr.inr.inr.inr.inr.inl=>
    simp only [chg] at ht;split at ht
    · rename_i hc;cases ht
      simp only [Jk,Bool.and_eq_true,decide_eq_true_eq] at hc
      exact G (x:=1) rfl hc.1 (by omega)
    · split at ht
      · rename_i hc;cases ht
        simp only [Jk,Bool.and_eq_true,decide_eq_true_eq] at hc
        exact G (x:=3) rfl hc.1 (by omega)
      · cases ht
   all_goals
    simp only [chg] at ht
    split at ht<;>cases ht
    rename_i hc
    simp only [isV,Jk,JL,Bool.and_eq_true,decide_eq_true_eq,Bool.or_eq_true] at hc
    first
     |exact G (x:=0) rfl hc (by omega)
     |exact G (x:=1) rfl hc (by omega)
     |exact G (x:=2) rfl hc (by omega)
     |exact G (x:=5) rfl hc (by omega)
     |exact G (x:=0) rfl hc.1 (by omega)
     |exact G (x:=2) rfl hc.1 (by omega)
     |exact G (x:=3) rfl hc.1 (by omega)
     |exact G (x:=4) rfl hc.1 (by omega)
     |exact G (x:=2) rfl hc.1.1 (by omega)
     |exact G (x:=6) rfl hc.2 (by omega)
     |rfl
 · subst hd
   simp only [chg] at ht
   split at ht<;>cases ht
   rename_i hc
   simp only [isV,Bool.and_eq_true,decide_eq_true_eq,Bool.or_eq_true] at hc
   unfold qS
   rw [if_neg (by show ¬((6:Int)=2∨(6:Int)=3∨(6:Int)=4);omega),if_pos (show (Zw s own more).st=6 from rfl),if_pos (by omega)];rfl
 · subst hd
   simp only [chg] at ht
   split at ht<;>cases ht
   rename_i hc
   simp only [isV,decide_eq_true_eq] at hc
   unfold qS
   rw [hc];rfl
def rJ (r:J4):Int:=match r.st with|.look=>2|.age=>2|.J5=>1|_=>0
def rR (c:Q0) (M:List Int) (i:Int) (r:J4) (X:Int):Int:=match r.st with|.swap=>(if mt c M i r.word then 1 else X)|.look=>3|.age=>2|.J5=>1|.done=>0
theorem KO (r:J4):0≤rJ r∧rJ r≤2:=by unfold rJ;split<;>omega
theorem Q8Y (h:Qm c n M) (hn:n≤1000000000):mQ (Gd M 2 1)=mQ M∧QS c (Gd M 2 1)=QS c M:=by
 have:=h.len;have:=h.cf.2.1;have:=h.cf.1
 rw [Q1r h hn]
 exact ⟨Q0V (by rw [Zv (by omega) (by unfold Q0.cells at*;omega),if_neg (by omega)]),Ho (fun i=>h.Uz (by omega) (by omega) i) _⟩
theorem KH (h:Qm c n M) (hn:n≤1000000000) {r r':J4} {i:Int} {P:Q7→Prop} (hl:Yy c r i P) (hi:0≤i∧i<c.sl) (hP:∀s,P s→s.st=2∨s.st=3) (hS:RtS M r r' M'):
 (r'.done=false∧mQ M'=mQ M∧QS c M'+rJ r'+1≤QS c M+rJ r)∨(r'.done=false∧M'=M∧r.st≠.swap∧rJ r'≤rJ r∧∀X X',rR c M i r' X'+1≤rR c M i r X)∨
 (r'.done=true∧r'.swapped=true∧mQ M'=mQ M∧QS c M'+1≤QS c M+rJ r∧r.st≠.swap)∨(r'.done=true∧r'.swapped=false∧M'=M∧r.st=.swap∧mt c M i r.word=false):=by
 obtain ⟨⟨s,hs,hw,hp⟩,hnd,hdn,hsw,hcl⟩:=hl
 have hdw:dec r.word=some s:=by rw [hw];exact QO hs
 cases hS with
 |lost h1 h2=>
  right;right;right
  refine ⟨rfl,by show r.swapped=false;rw [hsw,h1];simp,rfl,h1, ?_⟩
  have hst:=hP s (hp h1)
  obtain ⟨u,hu⟩:=KR (d:=11) (s:=s) (own:=0) (more:=4095) (by omega) (t:=Zw s 0 4095) (by
   simp only [chg];rw [if_pos]
   simp only [ZC,isV,Bool.and_eq_true,Bool.or_eq_true,decide_eq_true_eq];omega)
  have:=h2 s u hdw hu
  rwa [hcl,h.Ki hi] at this
 |swap s' u h1 h2 h3 h4=>
  rw [hdw] at h2;cases h2
  rw [hcl] at h4 ⊢
  left
  obtain ⟨-,e,hu,e2, -⟩:=h.swap hdw h3 h4
  have q:=(Kh h3).2.2.1 rfl
  rw [e2]
  refine ⟨hdn,h.WB hi u, ?_⟩
  rw [h.ER hi hu,e,show rJ r=0 by unfold rJ;rw [h1],show rJ {r with word:=u.enc,swapped:=true,st:=RSt.look,cell:=Q5 c i}=2 from rfl];omega
 |look h1=>
  right;left
  exact ⟨hdn,rfl,by rw [h1];simp,by unfold rJ;rw [h1];simp,fun X X'=>by unfold rR;rw [h1];simp⟩
 |stale h1 h2=>
  right;left
  refine ⟨hdn,rfl,by rw [h1];simp,by unfold rJ;rw [h1];simp,fun X X'=>by unfold rR;rw [h1];simp⟩
 |age s' u h1 h2 h3 h4=>
  rw [hdw] at h2;cases h2
  rw [hcl] at h4 ⊢
  left
  obtain ⟨-,e,hu,e2, -⟩:=h.swap hdw h3 h4
  have q:=(Kh h3).1 (by simp)
  rw [e2]
  refine ⟨hdn,h.WB hi u, ?_⟩
  rw [h.ER hi hu,e,show rJ r=2 by unfold rJ;rw [h1],show rJ {r with st:=RSt.J5,cell:=Q5 c i}=1 from rfl];omega
 |J5 h1=>
  right;right;left
  obtain ⟨a,b⟩:=Q8Y h hn
  exact ⟨rfl,by show r.swapped=true;rw [hsw,h1];simp,a,by rw [b,show rJ r=1 by unfold rJ;rw [h1]];omega,by rw [h1];simp⟩
def tFq (c:Q0):Int:=c.sl*(c.wo+5)+9
def kY (c:Q0):Int:=5*c.sl+tFq c+7
def tT (c:Q0) (st a:Int):Int:=if st=1 then (c.sl - a)+2*c.sl+3 else if st=3 then (c.sl - a)+c.sl+2 else (c.sl - a)+1
def wlB (c:Q0) (M:List Int) (st a:Int):Bool:=(List.range c.sl.toNat).any fun j=>(decide (st=1∨(st=3∧a≤(j:Int)))&&JL (SL c M j))||(decide (st≠7∨a≤(j:Int))&&isV (SL c M j) 0)
def wlY (c:Q0) (M:List Int) (st a:Int):Int:=if wlB c M st a then 0 else kY c
theorem DZ {st a:Int}:wlB c M st a=true↔∃j:Int,(0≤j∧j<c.sl)∧(((st=1∨(st=3∧a≤j))∧JL (SL c M j)=true)∨((st≠7∨a≤j)∧isV (SL c M j) 0=true)):=by
 unfold wlB
 simp only [List.any_eq_true,List.mem_range,Bool.or_eq_true,Bool.and_eq_true,decide_eq_true_eq]
 constructor
 · rintro ⟨j,hj,h⟩;exact ⟨j,by omega,h⟩
 · rintro ⟨j,⟨h0,h1⟩,h⟩
   refine ⟨j.toNat,by omega, ?_⟩
   rw [Int.toNat_of_nonneg h0];exact h
theorem Same.wlY (h:Same c M M') (st a:Int):wlY c M' st a=wlY c M st a:=by
 unfold Go.Proofs.YtgjklfmnmljilaaGreatDoor.wlY wlB
 simp only [h.SL]
theorem Zj (h:Qm c n M):0≤tFq c∧0≤kY c:=by
 have:=h.cf.1;have:=h.cf.2.1
 have:0≤c.sl*(c.wo+5):=Int.mul_nonneg (by omega) (by omega)
 unfold kY tFq;omega
theorem K6 (h:Qm c n M) (st a:Int):0≤wlY c M st a∧wlY c M st a≤kY c:=by have:=Zj h;unfold wlY;split<;>omega
theorem Q1J {st a st' a':Int} (h:wlB c M st a=true→wlB c M st' a'=true) (h0:0≤kY c):wlY c M st' a'≤wlY c M st a:=by
 unfold wlY
 by_cases h1:wlB c M st a=true
 · rw [if_pos h1,if_pos (h h1)];omega
 · rw [if_neg h1];split<;>omega
theorem Q8L (h:Qm c n M) {a kind own:Int} (h0:0≤a) (h1:a<c.sl) (hf:JA (Q6 M (c.slot a)) kind own=false):JX (SL c M a) kind own=false:=by
 obtain ⟨-, -,a3⟩:=h.at a
 have e:Q5 c a=c.slot a:=by unfold Q5;rw [if_pos ⟨h0,h1⟩]
 rw [e] at a3
 unfold JA at hf;rw [a3] at hf;exact hf
theorem Wt (h:Qm c n M) {st a own:Int} (hst:st=1∨st=3∨st=7) (h0:0≤a) (h1:a<c.sl) (hf:JA (Q6 M (c.slot a)) (ZK st) own=false) (hw:wlB c M st a=true):
 wlB c M st (a+1)=true∧(a+1=c.sl→st≠7)∧(a+1=c.sl→st=3→wlB c M 7 0=true)∧(st=1→wlB c M 3 0=true):=by
 have hf:=Q8L h h0 h1 hf
 rw [DZ] at hw
 obtain ⟨j,hj,hc⟩:=hw
 have A:st=3→JL (SL c M a)=false:=by rintro rfl;simpa [ZK,JX] using hf
 have B:st=7→isV (SL c M a) 0=false:=by rintro rfl;simpa [ZK,JX] using hf
 have hne:st=7→j≠a:=by
  rintro e rfl
  rcases hc with ⟨c1, -⟩|⟨-,c2⟩
  · omega
  · rw [B e] at c2;cases c2
 simp only [DZ]
 refine ⟨⟨j,hj, ?_⟩,fun e e7=> ?_,fun e e3=> ?_,fun e1=>⟨j,hj, ?_⟩⟩
 · rcases hc with ⟨c1,c2⟩|⟨c1,c2⟩
   · left;refine ⟨?_,c2⟩
     rcases c1 with c1|⟨c1,c3⟩
     · exact .inl c1
     · right;refine ⟨c1, ?_⟩
       have:j≠a:=by rintro rfl;rw [A c1] at c2;cases c2
       omega
   · right;refine ⟨?_,c2⟩
     by_cases e:st=7
     · have:=hne e;right;omega
     · exact .inl e
 · have:=hne e7
   rcases hc with ⟨c1, -⟩|⟨c1, -⟩<;>omega
 · rcases hc with ⟨c1,c2⟩|⟨c1,c2⟩
   · exfalso
     have:j≠a:=by rintro rfl;rw [A e3] at c2;cases c2
     omega
   · exact ⟨j,hj,.inr ⟨.inr hj.1,c2⟩⟩
 · rcases hc with ⟨c1,c2⟩|⟨c1,c2⟩
   · exact .inl ⟨.inr ⟨trivial,hj.1⟩,c2⟩
   · exact .inr ⟨.inl (by omega),c2⟩
def kR (c:Q0) (M:List Int) (t:Qd):Int:=
 if t.st=0 then 3*c.sl+4+tFq c+wlY c M 1 0
 else if t.st=1∨t.st=3∨t.st=7 then tT c t.st t.lk.at_+wlY c M t.st t.lk.at_
 else if t.st=2∨t.st=4∨t.st=8 then (if mt c M t.lk.at_ t.lk.word then 1 else tT c (t.st - 1) t.lk.at_+kY c+1)
 else if t.st=5 then 2*(c.sl - t.lk.at_)+tFq c+5
 else if t.st=6 then 2*(c.sl - t.lk.at_)+tFq c+4
 else if t.st=9 then tFq c+2
 else if t.st=10 then tFq c+4
 else if t.st=11 then tFq c+3
 else if t.st=12 then rR c M t.i t.rt (tFq c+4)
 else if t.st=13 then tFq c+3
 else if t.st=14 then (if mt c M t.i t.word then tFq c+1 else tFq c+4)
 else 0
def kJ (c:Q0) (t:Qd):Int:=if t.st=5∨t.st=6 then c.sl - t.lk.at_ else if t.st=9 then 5 else if t.st=12 then rJ t.rt else if t.st=10∨t.st=11∨t.st=15 then 0 else c.sl+6
theorem UZ {t:Qd} {x:Int} (h:t.st=x) (hx:x=1∨x=3∨x=7):kR c M t=tT c x t.lk.at_+wlY c M x t.lk.at_:=by unfold kR;rw [if_neg (by omega),if_pos (by omega),h]
theorem kR_f {t:Qd} {x:Int} (h:t.st=x) (hx:x=2∨x=4∨x=8):kR c M t=(if mt c M t.lk.at_ t.lk.word then 1 else tT c (x - 1) t.lk.at_+kY c+1):=by unfold kR;rw [if_neg (by omega),if_neg (by omega),if_pos (by omega),h]
theorem ZH {t:Qd} (h:(0≤t.st∧t.st≤4)∨t.st=7∨t.st=8∨t.st=13∨t.st=14):kJ c t=c.sl+6:=by unfold kJ;rw [if_neg (by omega),if_neg (by omega),if_neg (by omega),if_neg (by omega)]
theorem Wn {t:Qd} (h:t.st=5∨t.st=6):kJ c t=c.sl - t.lk.at_:=by unfold kJ;rw [if_pos h]
theorem Q2A {t:Qd} (h:t.st=5):kR c M t=2*(c.sl - t.lk.at_)+tFq c+5:=by unfold kR;rw [if_neg (by omega),if_neg (by omega),if_neg (by omega),if_pos h]
theorem kR_6 {t:Qd} (h:t.st=6):kR c M t=2*(c.sl - t.lk.at_)+tFq c+4:=by unfold kR;rw [if_neg (by omega),if_neg (by omega),if_neg (by omega),if_neg (by omega),if_pos h]
def kEJ (c:Q0) (e:Int):Int:=if e=3 then c.sl+6 else 0
def kER (c:Q0) (e:Int):Int:=if e=3 then 5*c.sl+tFq c+6 else tFq c
theorem JM {t:Qd} {f:Qi} (h:t.look=some f):t.lk=f:=by unfold Qd.lk;rw [h];rfl
theorem Y2 (i:Int):mt c M i (Q6 M (Q5 c i))=true:=by unfold mt;simp
theorem Q5P {st a:Int} (h0:0≤c.sl) (h1:a<c.sl):2≤tT c st a:=by unfold tT;split<;>(try split)<;>omega
theorem Q7T (h:Qm c n M) (hn:n≤1000000000) (hw:(w:Int)<c.wo) {t t':Qd} {good:Bool} (hl:t.live c w) (hS:TkS c M good t t' M'):
 (t'.st≠15→Gg c M M' (kJ c t) (kJ c t') (kR c M t) (kR c M' t'))∧(t'.st=15→Gg c M M' (kJ c t) (kEJ c t'.e) (kR c M t) (kER c t'.e)):=by
 obtain ⟨s0,s1,tw,hlk,hfd,hwd,hi,hrt⟩:=hl
 have E:∀f g:Qi,t.look=some f→t.look=some g→f=g:=fun f g a b=>by rw [a] at b;exact Option.some.inj b
 have sl:=h.cf.2.1;have wo:=h.cf.1
 have kp:=Zj h
 have own:0≤t.w∧t.w≤15:=by rw [tw];omega
 have slc:∀{a:Int},0≤a→a<c.sl→Q5 c a=c.slot a:=fun h0 h1=>by unfold Q5;rw [if_pos ⟨h0,h1⟩]
 have w0:=(K6 h 1 0).1
 have bJ:∀e:Int,e≠3→kEJ c e=0∧kER c e=tFq c:=fun e he=>by unfold kEJ kER;rw [if_neg he,if_neg he];exact ⟨rfl,rfl⟩
 have fnd:∀k o:Int,(QF k o 0).at_=0:=fun _ _=>rfl
 have goAt:∀f:Qi,f.found=true→f.go.at_=f.at_+1:=fun f e=>by unfold Qi.go;rw [if_pos e]
 cases hS with
 |shut h1 h2=>
  refine ⟨fun e=>absurd rfl e,fun _=>.stay ?_ ?_⟩
  · rw [ZH (t:=t) (by omega),(bJ _ (by simp [Qd.end_])).1];omega
  · rw [(bJ _ (by simp [Qd.end_])).2];unfold kR;rw [if_pos h1];omega
 |begins h1 h2=>
  refine ⟨fun _=>.stay ?_ ?_,fun e=>by simp [Qd.search] at e⟩
  · rw [ZH (t:=t) (by omega),ZH (by simp [Qd.search])];omega
  · rw [UZ (x:=1) rfl (by omega)];unfold kR;rw [if_pos h1]
    show tT c 1 0+wlY c M 1 0+1≤_
    unfold tT;rw [if_pos rfl];omega
 |@hit f h1 h2 h3 h4=>
  obtain ⟨f',e1,e2,e3,e4,e5,e6⟩:=hlk (by omega)
  cases E _ _ e1 h2
  refine ⟨fun _=>.stay ?_ ?_,fun e=>by simp only at e;omega⟩
  · rw [ZH (t:=t) (by omega),ZH (by simp only;omega)];omega
  · have:=Q5P (c:=c) (st:=t.st) (a:=f.at_) (by omega) h3
    have:=(K6 h t.st f.at_).1
    rw [UZ (t:=t) rfl (by omega),JM h2,kR_f (x:=t.st+1) rfl (by omega),if_pos]
    · omega
    · show mt c M f.at_ (Q6 M (c.slot f.at_))=true
      rw [←slc e3 h3];exact Y2 _
 |@miss f h1 h2 h3 h4=>
  obtain ⟨f',e1,e2,e3,e4,e5,e6⟩:=hlk h1
  cases E _ _ e1 h2
  refine ⟨fun _=> ?_,fun e=>by simp only at e;omega⟩
  by_cases h5:t.st=5
  · refine .stay ?_ ?_
    · rw [Wn (t:=t) (.inl h5),Wn (by exact .inl h5),JM h2];show c.sl - (f.at_+1)≤_;omega
    · rw [Q2A (t:=t) h5,Q2A (by exact h5),JM h2]
      show 2*(c.sl - (f.at_+1))+tFq c+5+1≤2*(c.sl - f.at_)+tFq c+5;omega
  · refine .stay ?_ ?_
    · rw [ZH (t:=t) (by omega),ZH (by simp only;omega)];omega
    · rw [UZ (t:=t) rfl (by omega),UZ (x:=t.st) (by rfl) (by omega),JM h2]
      show tT c t.st (f.at_+1)+wlY c M t.st (f.at_+1)+1≤_
      have:=Q1J (c:=c) (M:=M) (st:=t.st) (a:=f.at_) (st':=t.st) (a':=f.at_+1) (fun hw=>(Wt h (own:=f.own) (by omega) e3 (by omega) (by rw [←e6];exact h4) hw).1) kp.2
      have:tT c t.st (f.at_+1)=tT c t.st f.at_ - 1:=by unfold tT;split<;>(try split)<;>omega
      omega
 |@last1 f h1 h2 h3 h4=>
  obtain ⟨f',e1,e2,e3,e4,e5,e6⟩:=hlk (by omega)
  cases E _ _ e1 h2
  refine ⟨fun _=>.stay ?_ ?_,fun e=>by simp [Qd.search] at e⟩
  · rw [ZH (t:=t) (by omega),ZH (by simp [Qd.search])];omega
  · rw [UZ (t:=t) h1 (by omega),JM h2,UZ (x:=3) rfl (by omega)]
    show tT c 3 0+wlY c M 3 0+1≤_
    have:=Q1J (c:=c) (M:=M) (st:=1) (a:=f.at_) (st':=3) (a':=0) (fun hw=>(Wt h (own:=f.own) (st:=1) (by omega) e3 (by omega) (by rw [←h1,←e6];exact h4) hw).2.2.2 rfl) kp.2
    unfold tT;rw [if_neg (by omega),if_pos rfl,if_pos rfl];omega
 |@last3 f h1 h2 h3 h4=>
  obtain ⟨f',e1,e2,e3,e4,e5,e6⟩:=hlk (by omega)
  cases E _ _ e1 h2
  refine ⟨fun _=>.stay ?_ ?_,fun e=>by simp [Qd.search] at e⟩
  · rw [ZH (t:=t) (by omega),ZH (by simp [Qd.search])];omega
  · rw [UZ (t:=t) h1 (by omega),JM h2,UZ (x:=7) rfl (by omega)]
    show tT c 7 0+wlY c M 7 0+1≤_
    have:=Q1J (c:=c) (M:=M) (st:=3) (a:=f.at_) (st':=7) (a':=0) (fun hw=>(Wt h (own:=f.own) (st:=3) (by omega) e3 (by omega) (by rw [←h1,←e6];exact h4) hw).2.2.1 h3 rfl) kp.2
    unfold tT;rw [if_neg (by omega),if_neg (by omega),if_neg (by omega),if_pos rfl];omega
 |@last7 f h1 h2 h3 h4=>
  obtain ⟨f',e1,e2,e3,e4,e5,e6⟩:=hlk (by omega)
  cases E _ _ e1 h2
  refine ⟨fun e=>absurd rfl e,fun _=>.stay ?_ ?_⟩
  · rw [ZH (t:=t) (by omega)];show kEJ c 3≤_;unfold kEJ;rw [if_pos rfl];omega
  · rw [UZ (t:=t) h1 (by omega),JM h2]
    show kER c 3+1≤_
    have:wlY c M 7 f.at_=kY c:=by
     unfold wlY;rw [if_neg]
     intro hw
     exact (Wt h (own:=f.own) (st:=7) (by omega) e3 (by omega) (by rw [←h1,←e6];exact h4) hw).2.1 h3 rfl
    have:=Q5P (c:=c) (st:=7) (a:=f.at_) (by omega) (by omega)
    unfold kER;rw [if_pos rfl];unfold kY at*;omega
 |@last5 f f' h1 h2=>
  obtain ⟨f0,e1,e2,e3,e4,e5,e6⟩:=hlk (by omega)
  cases E _ _ e1 h2
  refine ⟨fun _=>.stay ?_ ?_,fun e=>by simp at e⟩
  · rw [Wn (t:=t) (.inl h1),JM h2];show (0:Int)≤_;omega
  · rw [Q2A h1,JM h2];show tFq c+4+1≤_;omega
 |@pass f h1 h2 h3=>
  obtain ⟨f0,e1,e2,e3,e4,e5,e6⟩:=hlk (by omega)
  cases E _ _ e1 h2
  refine ⟨fun _=>.stay ?_ ?_,fun e=>by simp only at e;omega⟩
  · rw [Wn (t:=t) (.inl h1),Wn (by exact .inl h1),JM h2];show c.sl - (f.at_+1)≤_;omega
  · rw [Q2A (t:=t) h1,Q2A (by exact h1),JM h2]
    show 2*(c.sl - (f.at_+1))+tFq c+5+1≤2*(c.sl - f.at_)+tFq c+5;omega
 |@move f h1 h2 h3 h4=>
  refine ⟨fun _=>.stay ?_ ?_,fun e=>by simp at e⟩
  · rw [Wn (t:=t) (.inl h1),Wn (.inr rfl),JM h2];show c.sl - f.at_≤_;omega
  · rw [Q2A (t:=t) h1,kR_6 rfl,JM h2]
    show 2*(c.sl - f.at_)+tFq c+4+1≤2*(c.sl - f.at_)+tFq c+5;omega
 |@KY f s u h1 h2 h3 h4 h5=>
  refine ⟨fun _=>h.XJ h3 h4 h5 _ _ ?_,fun e=>by simp at e⟩
  rw [ZH (t:=t) (by omega),(Kh h4).1 (by simp)]
  show qS s+0+1≤_;omega
 |@leaseMove f s u h1 h2 h3 h4 h5=>
  refine ⟨fun _=>h.XJ h3 h4 h5 _ _ ?_,fun e=>by simp at e⟩
  rw [ZH (t:=t) (by omega),(Kh h4).1 (by simp)]
  show qS s+(c.sl - 0)+1≤_;omega
 |@again f h1 h2 h3=>
  obtain ⟨f',s,e1,e2,e3,e4,e5,e6,e7,e8⟩:=hfd (by omega)
  cases E _ _ e1 h2
  have hm:mt c M f.at_ f.word=false:=by
   rw [←h.Ki ⟨e3,e4⟩]
   obtain ⟨u,hu⟩:∃u,Qj s (if t.st=8 then 0 else 3) t.w 0=some u:=by
    rw [e8] at e7
    rcases h1 with h1|h1|h1
    · rw [if_neg (by omega)]
      refine KR own (t:=Ju s t.w) ?_
      simp [h1,ZK,JX] at e7
      simp only [chg];rw [if_pos e7.1]
    · rw [if_neg (by omega)]
      refine KR own (t:=Ju s t.w) ?_
      simp [h1,ZK,JX] at e7
      simp only [chg];rw [if_pos e7]
    · rw [if_pos h1]
      refine KR own (t:=toV s 1 t.w) ?_
      simp [h1,ZK,JX] at e7
      simp only [chg];rw [if_pos e7]
   exact h3 s u (by rw [e6];exact QO e5) hu
  refine ⟨fun _=>.stay ?_ ?_,fun e=>by simp only at e;omega⟩
  · rw [ZH (t:=t) (by omega),ZH (by simp only;omega)];omega
  · have:=(K6 h (t.st - 1) f.at_).2
    rw [kR_f (t:=t) rfl (by omega),JM h2,if_neg (by rw [hm];simp),UZ (x:=t.st - 1) rfl (by omega)]
    show tT c (t.st - 1) f.at_+wlY c M (t.st - 1) f.at_+1≤_;omega
 |@dial f s u h1 h2 h3 h4 h5=>
  refine ⟨fun _=>h.XJ h3 h4 h5 _ _ ?_,fun e=>by simp at e⟩
  rw [ZH (t:=t) (by omega),(Kh h4).1 (by simp)]
  show qS s+5+1≤_;omega
 |@moved f s u h1 h2 h3 h4 h5=>
  obtain ⟨f',s',e1,e2,e3,e4,e5,e6,e7,e8⟩:=hfd (by omega)
  cases E _ _ e1 h2
  refine ⟨fun _=>h.XJ h3 h4 h5 _ _ ?_,fun e=>by simp at e⟩
  rw [(Kh h4).1 (by simp)]
  rw [Wn (t:=t) (.inr h1),Wn (.inl rfl),JM h2]
  show qS s+(c.sl - f.go.at_)+1≤_
  rw [goAt f e2];omega
 |@unmoved f h1 h2=>
  obtain ⟨f',s',e1,e2,e3,e4,e5,e6,e7,e8⟩:=hfd (by omega)
  cases E _ _ e1 h2
  refine ⟨fun _=>.stay ?_ ?_,fun e=>by simp at e⟩
  · rw [Wn (t:=t) (.inr h1),Wn (.inl rfl),JM h2]
    show c.sl - f.go.at_≤_
    rw [goAt f e2];omega
  · rw [kR_6 (t:=t) h1,Q2A rfl,JM h2]
    show 2*(c.sl - f.go.at_)+tFq c+5+1≤2*(c.sl - f.at_)+tFq c+4
    rw [goAt f e2];omega
 |up s u h1 h2 h3 h4 h5=>
  refine ⟨fun _=>h.XJ h3 h4 h5 _ _ ?_,fun e=>by simp at e⟩
  have:=(Kh h4).2.1 rfl
  show qS u+0+1≤_
  unfold kJ;rw [if_neg (by omega),if_pos h1];omega
 |down s u h1 h2 h3 h4 h5=>
  refine ⟨fun e=>absurd rfl e,fun _=>h.XJ h3 h4 h5 _ _ ?_⟩
  rw [(Kh h4).1 (by simp),(bJ _ (by simp [Qd.end_])).1]
  unfold kJ;rw [if_neg (by omega),if_pos h1];omega
 |undialed h1 h2=>
  refine ⟨fun e=>absurd rfl e,fun _=>.stay ?_ ?_⟩
  · rw [(bJ _ (by simp [Qd.end_])).1];unfold kJ;rw [if_neg (by omega),if_pos h1];omega
  · rw [(bJ _ (by simp [Qd.end_])).2];unfold kR;simp [h1]<;>omega
 |fine h1 h2=>
  refine ⟨fun e=>absurd rfl e,fun _=>.stay ?_ ?_⟩
  · rw [(bJ _ (by simp [Qd.end_])).1];unfold kJ;simp [h1]
  · rw [(bJ _ (by simp [Qd.end_])).2];unfold kR;simp [h1]<;>omega
 |late h1 h2=>
  refine ⟨fun _=>.stay ?_ ?_,fun e=>by simp at e⟩
  · unfold kJ;simp [h1]
  · unfold kR;simp [h1]<;>omega
 |gives s h1 h2 h3 h4 h5=>
  have hi':=hi (by omega)
  refine ⟨fun _=>.stay ?_ ?_,fun e=>by simp at e⟩
  · unfold kJ;simp [h1,Qd.rt,Ji,rJ]
  · unfold kR;simp [h1,Qd.rt,Ji,rR,Y2];omega
 |gone h1 h2=>
  refine ⟨fun e=>absurd rfl e,fun _=>.stay ?_ ?_⟩
  · rw [(bJ _ (by simp [Qd.end_])).1];unfold kJ;simp [h1]
  · rw [(bJ _ (by simp [Qd.end_])).2];unfold kR;simp [h1]<;>omega
 |@goes r r' _ h1 h2 h3 h4=>
  obtain ⟨r0,f1,f2⟩:=hrt h1
  rw [h2] at f1;cases f1
  have hi':=hi (by omega)
  have er:t.rt=r:=by unfold Qd.rt;rw [h2];rfl
  have jt:kJ c t=rJ r:=by unfold kJ;rw [if_neg (by omega),if_neg (by omega),if_pos h1,er]
  have jt':kJ c {t with ret:=some r'}=rJ r':=by unfold kJ;rw [if_neg (by simp only;omega),if_neg (by simp only;omega),if_pos h1];rfl
  refine ⟨fun _=> ?_,fun e=>by simp only at e;omega⟩
  rw [jt,jt']
  rcases KH h hn f2 hi' (fun s hs=>.inr hs.1) h3 with ⟨-,a,b⟩|⟨-,rfl,a,b,d⟩|⟨a, -⟩|⟨a, -⟩
  · exact .inl ⟨a,b⟩
  · refine .stay b ?_
    have kt:kR c M' t=rR c M' t.i r (tFq c+4):=by unfold kR;simp [h1,er]
    have kt':kR c M' {t with ret:=some r'}=rR c M' t.i r' (tFq c+4):=by unfold kR;simp [h1,Qd.rt]
    rw [kt,kt'];exact d _ _
  · rw [h4] at a;cases a
  · rw [h4] at a;cases a
 |@went r r' _ h1 h2 h3 h4 h5=>
  obtain ⟨r0,f1,f2⟩:=hrt h1
  rw [h2] at f1;cases f1
  have hi':=hi (by omega)
  have er:t.rt=r:=by unfold Qd.rt;rw [h2];rfl
  have jt:kJ c t=rJ r:=by unfold kJ;rw [if_neg (by omega),if_neg (by omega),if_pos h1,er]
  refine ⟨fun e=>absurd rfl e,fun _=> ?_⟩
  rw [jt,(bJ _ (by simp [Qd.end_])).1]
  rcases KH h hn f2 hi' (fun s hs=>.inr hs.1) h3 with ⟨a, -⟩|⟨a, -⟩|⟨-, -,a,b, -⟩|⟨-,a, -⟩
  · rw [h4] at a;cases a
  · rw [h4] at a;cases a
  · exact .inl ⟨a,by omega⟩
  · rw [h5] at a;cases a
 |@back r r' _ h1 h2 h3 h4 h5=>
  obtain ⟨r0,f1,f2⟩:=hrt h1
  rw [h2] at f1;cases f1
  have hi':=hi (by omega)
  have er:t.rt=r:=by unfold Qd.rt;rw [h2];rfl
  refine ⟨fun _=> ?_,fun e=>by simp at e⟩
  rcases KH h hn f2 hi' (fun s hs=>.inr hs.1) h3 with ⟨a, -⟩|⟨a, -⟩|⟨-,a, -⟩|⟨-, -,rfl,b,d⟩
  · rw [h4] at a;cases a
  · rw [h4] at a;cases a
  · rw [h5] at a;cases a
  · refine .stay ?_ ?_
    · have:=(KO r).1
      unfold kJ;simp [h1,er];omega
    · unfold kR;simp [h1,er,rR,b,d];omega
 |loads h1=>
  refine ⟨fun _=>.stay ?_ ?_,fun e=>by simp at e⟩
  · rw [ZH (t:=t) (by omega),ZH (by simp)];omega
  · unfold kR;simp [h1,Y2];omega
 |none h1 h2=>
  refine ⟨fun e=>absurd rfl e,fun _=>.stay ?_ ?_⟩
  · rw [ZH (t:=t) (by omega),(bJ _ (by simp [Qd.end_])).1];omega
  · rw [(bJ _ (by simp [Qd.end_])).2];unfold kR;simp [h1];split<;>omega
 |takes s u h1 h2 h3 h4=>
  refine ⟨fun _=>h.XJ h2 h3 h4 _ _ ?_,fun e=>by simp only at e;split at e<;>omega⟩
  rw [ZH (t:=t) (by omega),(Kh h3).1 (by simp)]
  by_cases h5:u.st=3
  · unfold kJ;simp [h5];omega
  · unfold kJ;simp [h5];omega
 |fails s u h1 h2 h3 h4=>
  obtain ⟨-,hi⟩:True∧True:=⟨trivial,trivial⟩
  refine ⟨fun _=>.stay ?_ ?_,fun e=>by simp at e⟩
  · rw [ZH (t:=t) (by omega),ZH (by simp)];omega
  · have hm:mt c M t.i t.word=false:=by
     by_cases hin:0≤t.i∧t.i<c.sl
     · rw [←h.Ki hin];exact h4
     · unfold mt
       rw [X3 _ hin,VL,decide_eq_false_iff_not]
       intro e
       rw [←e,Q1d] at h2
       cases h2
       obtain ⟨-,t',ht, -⟩:=Xf h3
       have:chg 16 UM t.w 0=none:=by
        simp only [chg]
        rw [if_neg (by simp [Jk,UM]),if_neg (by simp [Jk,UM])]
       rw [this] at ht;cases ht
    unfold kR;simp [h1,hm];omega
end
end Go.Proofs.YtgjklfmnmljilaaGreatDoor
