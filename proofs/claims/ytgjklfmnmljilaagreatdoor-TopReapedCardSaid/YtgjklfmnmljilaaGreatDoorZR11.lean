/- A part of the proof. -/
import Derived.Test.YtgjklfmnmljilaaGreatDoorZR10
namespace Go.Proofs.YtgjklfmnmljilaaGreatDoor
set_option linter.unusedVariables false
set_option linter.unusedSimpArgs false
set_option linter.unusedSectionVars false
set_option linter.unnecessarySimpa false
set_option maxRecDepth 100000
set_option maxHeartbeats 8000000
section
def qS (s:Q7):Int:=if s.st=2∨s.st=3∨s.st=4 then 4 else if s.st=6 then 1 else 0
def QSn (c:Q0) (M:List Int):Nat→Int
 |0=>0
 |k+1=>QSn c M k+qS (SL c M k)
def QS (c:Q0) (M:List Int):Int:=QSn c M c.sl.toNat
theorem Q6q (s:Q7):0≤qS s∧qS s≤4:=by unfold qS;split<;>(try split)<;>omega
theorem Q7z (c:Q0) (M:List Int):∀k:Nat,0≤QSn c M k∧QSn c M k≤4*k
 |0=>by simp [QSn]
 |k+1=>by have:=Q7z c M k;have:=Q6q (SL c M k);unfold QSn;omega
theorem Hw {c:Q0} {M M':List Int} (h:∀i,SL c M' i=SL c M i):∀k:Nat,QSn c M' k=QSn c M k
 |0=>rfl
 |k+1=>by unfold QSn;rw [Hw h k,h]
theorem Q3E {c:Q0} {M M':List Int} {i:Int} {u:Q7} (h0:0≤i) (h:∀j,SL c M' j=if j=i then u else SL c M j):∀k:Nat,QSn c M' k=QSn c M k+if i<k then qS u - qS (SL c M i) else 0
 |0=>by unfold QSn;rw [if_neg Lb];rfl
 |k+1=>by
  unfold QSn
  rw [Q3E h0 h k,h]
  by_cases hk:(k:Int)=i
  · rw [if_pos hk,if_neg Lb,if_pos Lb,hk];omega
  · rw [if_neg hk]
    by_cases h2:i<(k:Int)
    · rw [if_pos h2,if_pos Lb];omega
    · rw [if_neg h2,if_neg Lb];omega
variable {c:Q0} {w:Nat} {n:Int} {M M':List Int}
theorem Qj.Q02 (h:Qj c n M) {i:Int} (hi:0≤i∧i<c.sl) {u:Q7} (hu:u.right):QS c (YO c M i u)=QS c M - qS (SL c M i)+qS u:=by
 unfold QS
 rw [Q3E hi.1 (fun j=>h.Kc hi hu j),if_pos Lb];omega
theorem Qj.KX (h:Qj c n M) {i:Int} (hi:0≤i∧i<c.sl) (u:Q7):mQ (YO c M i u)=mQ M:=VK (h.YV hi u (by have:=h.cf.1;omega))
structure Same (c:Q0) (M M':List Int):Prop where
 s:∀i,Q6 M' (Q5 c i)=Q6 M (Q5 c i)
 q:Q6 M' 1=Q6 M 1
 e:Q6 M' 2=Q6 M 2
theorem Same.refl:Same c M M:=⟨fun _=>rfl,rfl,rfl⟩
theorem Same.mQ (h:Same c M M'):mQ M'=mQ M:=VK h.q
theorem Same.SL (h:Same c M M') (i:Int):SL c M' i=SL c M i:=by unfold Go.Proofs.YtgjklfmnmljilaaGreatDoor.SL;rw [h.s]
theorem Same.QS (h:Same c M M'):QS c M'=QS c M:=Hw h.SL _
theorem Qj.ZO (h:Qj c n M) {j v:Int} (h0:j=0∨3≤j) (h1:j<3+2*c.wo):Same c M (M.set j.toNat v):=by
 have:=h.len;have:=h.cf.2.1;have:=h.cf.1
 have L:∀x,x≠j→Q6 (M.set j.toNat v) x=Q6 M x:=fun x hx=>by rw [ZF Lb (by unfold Q0.cells at*;omega),if_neg hx]
 refine ⟨fun i=>L _ ?_,L _ Lb,L _ Lb⟩
 unfold Q5 Q0.slot;split<;>omega
def mt (c:Q0) (M:List Int) (i word:Int):Bool:=decide (Q6 M (Q5 c i)=word)
theorem Qj.VI (h:Qj c n M) {i word:Int} (hi:0≤i∧i<c.sl):Qx M (Q5 c i) word=mt c M i word:=by
 have:=h.Es hi
 have e:Q5 c i=c.slot i:=by unfold Q5;rw [if_pos hi]
 unfold Qx mt Q6
 rw [e,Jf this.1 this.2,Bool.true_and,if_pos rfl]
theorem Same.mt (h:Same c M M') (i word:Int):mt c M' i word=mt c M i word:=by unfold Go.Proofs.YtgjklfmnmljilaaGreatDoor.mt;rw [h.s]
def Qw (c:Q0):Int:=2*c.wo+1
def Gg (c:Q0) (M M':List Int) (j j' r r':Int):Prop:=
 (mQ M'=mQ M∧QS c M'+j'+1≤QS c M+j)∨(QS c M'=QS c M∧Qw c*((mQ M').length:Int)+j'+2*c.wo≤Qw c*((mQ M).length:Int)+j+1)∨(Same c M M'∧j'≤j∧r'+1≤r)
theorem Gg.stay {j j' r r':Int} (h1:j'≤j) (h2:r'+1≤r):Gg c M M j j' r r':=.inr (.inr ⟨Same.refl,h1,h2⟩)
theorem Qj.XP (h:Qj c n M) {i word:Int} {s u:Q7} {d:Nat} {own more:Int} (hd:dec word=some s) (hn:Qk s d own more=some u) (hc:Qx M (Q5 c i) word=true) {j j':Int} (r r':Int) (hj:qS u+j'+1≤qS s+j):
 Gg c M (QI M (Q5 c i) word u.enc) j j' r r':=by
 obtain ⟨hi,e,hu,e2, -⟩:=h.swap hd hn hc
 rw [e2]
 left
 refine ⟨h.KX hi u, ?_⟩
 rw [h.Q02 hi hu,e];omega
theorem VG {s:Q7} {d:Nat} {own more:Int} (h0:0≤own∧own≤15) {t:Q7} (h:chg d s own more=some t):∃u,Qk s d own more=some u:=⟨_,by unfold Qk;rw [if_pos h0,h];rfl⟩
theorem Ku {s u:Q7} {d:Nat} {own more:Int} (h:Qk s d own more=some u):
 (d=0∨d=2∨d=3∨d=4∨d=5∨d=6∨d=7∨d=8∨d=9∨d=10∨d=13∨d=14∨d=15∨d=16∨d=17→qS u=qS s)∧(d=1→qS u≤qS s+4)∧(d=11→qS u+3=qS s)∧(d=12→qS u+1=qS s):=by
 obtain ⟨-,t,ht,rfl⟩:=X7 h
 show (_→qS t=qS s)∧(_→qS t≤qS s+4)∧(_→qS t+3=qS s)∧(_→qS t+1=qS s)
 have q1:=Q6q t;have q2:=Q6q s
 have G:∀{x y:Int},t.st=x→s.st=y→((x=0∨x=1∨x=5)∧(y=0∨y=1∨y=5))∨((x=2∨x=3∨x=4)∧(y=2∨y=3∨y=4))∨(x=6∧y=6)→qS t=qS s:=by
  intro x y hx hy hh
  unfold qS;rw [hx,hy]
  rcases hh with ⟨a,b⟩|⟨a,b⟩|⟨a,b⟩
  · rw [if_neg Lb,if_neg Lb,if_neg Lb,if_neg Lb]
  · rw [if_pos a,if_pos b]
  · rw [a,b]
 refine ⟨fun hd=> ?_,fun _=>Lb,fun hd=> ?_,fun hd=> ?_⟩
 · rcases hd with rfl|rfl|rfl|rfl|rfl|rfl|rfl|rfl|rfl|rfl|rfl|rfl|rfl|rfl|rfl
   case inr.inr.inr.inr.inr.inr.inr.inr.inr.inr.inr.inl=>
    simp only [chg,VF] at ht;split at ht
    · obtain ⟨i,hi,rfl⟩:=Option.map_eq_some_iff.1 ht;rfl
    · cases ht
   case inr.inr.inr.inr.inr.inr.inr.inr.inr.inr.inr.inr.inl=>
    simp only [chg,Vz] at ht;split at ht
    · cases ht;rfl
    · cases ht
   case inr.inr.inr.inr.inr.inr.inr.inr.inr.inr.inr.inr.inr.inl=>
    simp only [chg] at ht;split at ht
    · rename_i hc;cases ht
      simp only [Jh,Bool.and_eq_true,decide_eq_true_eq] at hc
      exact G (x:=1) rfl hc.1 Lb
    · split at ht
      · rename_i hc;cases ht
        simp only [Jh,Bool.and_eq_true,decide_eq_true_eq] at hc
        exact G (x:=3) rfl hc.1 Lb
      · cases ht
   all_goals
    simp only [chg] at ht
    split at ht<;>cases ht
    rename_i hc
    simp only [isV,Jh,Jp,Bool.and_eq_true,decide_eq_true_eq,Bool.or_eq_true] at hc
    first
     |exact G (x:=0) rfl hc Lb
     |exact G (x:=1) rfl hc Lb
     |exact G (x:=2) rfl hc Lb
     |exact G (x:=5) rfl hc Lb
     |exact G (x:=0) rfl hc.1 Lb
     |exact G (x:=2) rfl hc.1 Lb
     |exact G (x:=3) rfl hc.1 Lb
     |exact G (x:=4) rfl hc.1 Lb
     |exact G (x:=2) rfl hc.1.1 Lb
     |exact G (x:=6) rfl hc.2 Lb
     |rfl
 · subst hd
   simp only [chg] at ht
   split at ht<;>cases ht
   rename_i hc
   simp only [isV,Bool.and_eq_true,decide_eq_true_eq,Bool.or_eq_true] at hc
   unfold qS
   rw [if_neg (by show ¬((6:Int)=2∨(6:Int)=3∨(6:Int)=4);omega),if_pos (show (Z6 s own more).st=6 from rfl),if_pos Lb];rfl
 · subst hd
   simp only [chg] at ht
   split at ht<;>cases ht
   rename_i hc
   simp only [isV,decide_eq_true_eq] at hc
   unfold qS
   rw [hc];rfl
def rJ (r:J2):Int:=match r.st with|.look=>2|.age=>2|.QO=>1|_=>0
def rR (c:Q0) (M:List Int) (i:Int) (r:J2) (X:Int):Int:=match r.st with|.swap=>(if mt c M i r.word then 1 else X)|.look=>3|.age=>2|.QO=>1|.done=>0
theorem KV (r:J2):0≤rJ r∧rJ r≤2:=by unfold rJ;split<;>omega
theorem Q9j (h:Qj c n M) (hn:n≤1000000000):mQ (VU M 2 1)=mQ M∧QS c (VU M 2 1)=QS c M:=by
 have:=h.len;have:=h.cf.2.1;have:=h.cf.1
 rw [Ht h hn]
 exact ⟨VK (by rw [ZF Lb (by unfold Q0.cells at*;omega),if_neg Lb]),Hw (fun i=>h.Y0 Lb Lb i) _⟩
theorem KP (h:Qj c n M) (hn:n≤1000000000) {r r':J2} {i:Int} {P:Q7→Prop} (hl:Yg c r i P) (hi:0≤i∧i<c.sl) (hP:∀s,P s→s.st=2∨s.st=3) (hS:RtS M r r' M'):
 (r'.done=false∧mQ M'=mQ M∧QS c M'+rJ r'+1≤QS c M+rJ r)∨(r'.done=false∧M'=M∧r.st≠.swap∧rJ r'≤rJ r∧∀X X',rR c M i r' X'+1≤rR c M i r X)∨
 (r'.done=true∧r'.swapped=true∧mQ M'=mQ M∧QS c M'+1≤QS c M+rJ r∧r.st≠.swap)∨(r'.done=true∧r'.swapped=false∧M'=M∧r.st=.swap∧mt c M i r.word=false):=by
 obtain ⟨⟨s,hs,hw,hp⟩,hnd,hdn,hsw,hcl⟩:=hl
 have hdw:dec r.word=some s:=by rw [hw];exact QF hs
 cases hS with
 |lost h1 h2=>
  right;right;right
  refine ⟨rfl,by show r.swapped=false;rw [hsw,h1];simp,rfl,h1, ?_⟩
  have hst:=hP s (hp h1)
  obtain ⟨u,hu⟩:=VG (d:=11) (s:=s) (own:=0) (more:=4095) Lb (t:=Z6 s 0 4095) (by
   simp only [chg];rw [if_pos]
   simp only [Z0,isV,Bool.and_eq_true,Bool.or_eq_true,decide_eq_true_eq];omega)
  have:=h2 s u hdw hu
  rwa [hcl,h.VI hi] at this
 |swap s' u h1 h2 h3 h4=>
  rw [hdw] at h2;cases h2
  rw [hcl] at h4 ⊢
  left
  obtain ⟨-,e,hu,e2, -⟩:=h.swap hdw h3 h4
  have q:=(Ku h3).2.2.1 rfl
  rw [e2]
  refine ⟨hdn,h.KX hi u, ?_⟩
  rw [h.Q02 hi hu,e,show rJ r=0 by unfold rJ;rw [h1],show rJ {r with word:=u.enc,swapped:=true,st:=RSt.look,cell:=Q5 c i}=2 from rfl];omega
 |look h1=>
  right;left
  exact ⟨hdn,rfl,by rw [h1];simp,by unfold rJ;rw [h1];simp,fun X X'=>by unfold rR;rw [h1];simp⟩
 |stale h1 h2=>
  right;left
  refine ⟨hdn,rfl,by rw [h1];simp,by unfold rJ;rw [h1];simp,fun X X'=>by unfold rR;rw [h1];simp⟩
 |age s' u h1 h2 h3 h4=>
  rw [hdw] at h2;cases h2
  rw [hcl] at h4 ⊢
  left
  obtain ⟨-,e,hu,e2, -⟩:=h.swap hdw h3 h4
  have q:=(Ku h3).1 Lc
  rw [e2]
  refine ⟨hdn,h.KX hi u, ?_⟩
  rw [h.Q02 hi hu,e,show rJ r=2 by unfold rJ;rw [h1],show rJ {r with st:=RSt.QO,cell:=Q5 c i}=1 from rfl];omega
 |QO h1=>
  right;right;left
  obtain ⟨a,b⟩:=Q9j h hn
  exact ⟨rfl,by show r.swapped=true;rw [hsw,h1];simp,a,by rw [b,show rJ r=1 by unfold rJ;rw [h1]];omega,by rw [h1];simp⟩
def tFq (c:Q0):Int:=c.sl*(c.wo+5)+9
def kY (c:Q0):Int:=5*c.sl+tFq c+7
def tT (c:Q0) (st a:Int):Int:=if st=1 then (c.sl - a)+2*c.sl+3 else if st=3 then (c.sl - a)+c.sl+2 else (c.sl - a)+1
def wlB (c:Q0) (M:List Int) (st a:Int):Bool:=(List.range c.sl.toNat).any fun j=>(decide (st=1∨(st=3∧a≤(j:Int)))&&Jp (SL c M j))||(decide (st≠7∨a≤(j:Int))&&isV (SL c M j) 0)
def wlY (c:Q0) (M:List Int) (st a:Int):Int:=if wlB c M st a then 0 else kY c
theorem Ec {st a:Int}:wlB c M st a=true↔∃j:Int,(0≤j∧j<c.sl)∧(((st=1∨(st=3∧a≤j))∧Jp (SL c M j)=true)∨((st≠7∨a≤j)∧isV (SL c M j) 0=true)):=by
 unfold wlB
 simp only [List.any_eq_true,List.mem_range,Bool.or_eq_true,Bool.and_eq_true,decide_eq_true_eq]
 constructor
 · rintro ⟨j,hj,h⟩;exact ⟨j,Lb,h⟩
 · rintro ⟨j,⟨h0,h1⟩,h⟩
   refine ⟨j.toNat,Lb, ?_⟩
   rw [Int.toNat_of_nonneg h0];exact h
theorem Same.wlY (h:Same c M M') (st a:Int):wlY c M' st a=wlY c M st a:=by
 unfold Go.Proofs.YtgjklfmnmljilaaGreatDoor.wlY wlB
 simp only [h.SL]
theorem Zo (h:Qj c n M):0≤tFq c∧0≤kY c:=by
 have:=h.cf.1;have:=h.cf.2.1
 have:0≤c.sl*(c.wo+5):=Int.mul_nonneg Lb Lb
 unfold kY tFq;omega
theorem Kn (h:Qj c n M) (st a:Int):0≤wlY c M st a∧wlY c M st a≤kY c:=by have:=Zo h;unfold wlY;split<;>omega
theorem Q1S {st a st' a':Int} (h:wlB c M st a=true→wlB c M st' a'=true) (h0:0≤kY c):wlY c M st' a'≤wlY c M st a:=by
 unfold wlY
 by_cases h1:wlB c M st a=true
 · rw [if_pos h1,if_pos (h h1)];omega
 · rw [if_neg h1];split<;>omega
theorem ES (h:Qj c n M) {a kind own:Int} (h0:0≤a) (h1:a<c.sl) (hf:JC (Q6 M (c.slot a)) kind own=false):Jq (SL c M a) kind own=false:=by
 obtain ⟨-, -,a3⟩:=h.at a
 have e:Q5 c a=c.slot a:=by unfold Q5;rw [if_pos ⟨h0,h1⟩]
 rw [e] at a3
 unfold JC at hf;rw [a3] at hf;exact hf
theorem Wv (h:Qj c n M) {st a own:Int} (hst:st=1∨st=3∨st=7) (h0:0≤a) (h1:a<c.sl) (hf:JC (Q6 M (c.slot a)) (ZU st) own=false) (hw:wlB c M st a=true):
 wlB c M st (a+1)=true∧(a+1=c.sl→st≠7)∧(a+1=c.sl→st=3→wlB c M 7 0=true)∧(st=1→wlB c M 3 0=true):=by
 have hf:=ES h h0 h1 hf
 rw [Ec] at hw
 obtain ⟨j,hj,hc⟩:=hw
 have A:st=3→Jp (SL c M a)=false:=by rintro rfl;simpa [ZU,Jq] using hf
 have B:st=7→isV (SL c M a) 0=false:=by rintro rfl;simpa [ZU,Jq] using hf
 have hne:st=7→j≠a:=by
  rintro e rfl
  rcases hc with ⟨c1, -⟩|⟨-,c2⟩
  · omega
  · rw [B e] at c2;cases c2
 simp only [Ec]
 refine ⟨⟨j,hj, ?_⟩,fun e e7=> ?_,fun e e3=> ?_,fun e1=>⟨j,hj, ?_⟩⟩
 · rcases hc with ⟨c1,c2⟩|⟨c1,c2⟩
   · left;refine ⟨?_,c2⟩
     rcases c1 with c1|⟨c1,c3⟩
     · exact .inl c1
     · right;refine ⟨c1, ?_⟩
       have:j≠a:=by rintro rfl;rw [A c1] at c2;cases c2
       omega
   · right;refine ⟨?_,c2⟩
     by_cases e:st=7
     · have:=hne e;right;omega
     · exact .inl e
 · have:=hne e7
   rcases hc with ⟨c1, -⟩|⟨c1, -⟩<;>omega
 · rcases hc with ⟨c1,c2⟩|⟨c1,c2⟩
   · exfalso
     have:j≠a:=by rintro rfl;rw [A e3] at c2;cases c2
     omega
   · exact ⟨j,hj,.inr ⟨.inr hj.1,c2⟩⟩
 · rcases hc with ⟨c1,c2⟩|⟨c1,c2⟩
   · exact .inl ⟨.inr ⟨trivial,hj.1⟩,c2⟩
   · exact .inr ⟨.inl Lb,c2⟩
def kR (c:Q0) (M:List Int) (t:Qd):Int:=
 if t.st=0 then 3*c.sl+4+tFq c+wlY c M 1 0
 else if t.st=1∨t.st=3∨t.st=7 then tT c t.st t.lk.at_+wlY c M t.st t.lk.at_
 else if t.st=2∨t.st=4∨t.st=8 then (if mt c M t.lk.at_ t.lk.word then 1 else tT c (t.st - 1) t.lk.at_+kY c+1)
 else if t.st=5 then 2*(c.sl - t.lk.at_)+tFq c+5
 else if t.st=6 then 2*(c.sl - t.lk.at_)+tFq c+4
 else if t.st=9 then tFq c+2
 else if t.st=10 then tFq c+4
 else if t.st=11 then tFq c+3
 else if t.st=12 then rR c M t.i t.rt (tFq c+4)
 else if t.st=13 then tFq c+3
 else if t.st=14 then (if mt c M t.i t.word then tFq c+1 else tFq c+4)
 else 0
def kJ (c:Q0) (t:Qd):Int:=if t.st=5∨t.st=6 then c.sl - t.lk.at_ else if t.st=9 then 5 else if t.st=12 then rJ t.rt else if t.st=10∨t.st=11∨t.st=15 then 0 else c.sl+6
theorem D6 {t:Qd} {x:Int} (h:t.st=x) (hx:x=1∨x=3∨x=7):kR c M t=tT c x t.lk.at_+wlY c M x t.lk.at_:=by unfold kR;rw [if_neg Lb,if_pos Lb,h]
theorem kR_f {t:Qd} {x:Int} (h:t.st=x) (hx:x=2∨x=4∨x=8):kR c M t=(if mt c M t.lk.at_ t.lk.word then 1 else tT c (x - 1) t.lk.at_+kY c+1):=by unfold kR;rw [if_neg Lb,if_neg Lb,if_pos Lb,h]
theorem ZQ {t:Qd} (h:(0≤t.st∧t.st≤4)∨t.st=7∨t.st=8∨t.st=13∨t.st=14):kJ c t=c.sl+6:=by unfold kJ;rw [if_neg Lb,if_neg Lb,if_neg Lb,if_neg Lb]
theorem Wo {t:Qd} (h:t.st=5∨t.st=6):kJ c t=c.sl - t.lk.at_:=by unfold kJ;rw [if_pos h]
theorem Q2N {t:Qd} (h:t.st=5):kR c M t=2*(c.sl - t.lk.at_)+tFq c+5:=by unfold kR;rw [if_neg Lb,if_neg Lb,if_neg Lb,if_pos h]
theorem kR_6 {t:Qd} (h:t.st=6):kR c M t=2*(c.sl - t.lk.at_)+tFq c+4:=by unfold kR;rw [if_neg Lb,if_neg Lb,if_neg Lb,if_neg Lb,if_pos h]
def kEJ (c:Q0) (e:Int):Int:=if e=3 then c.sl+6 else 0
def kER (c:Q0) (e:Int):Int:=if e=3 then 5*c.sl+tFq c+6 else tFq c
theorem JW {t:Qd} {f:Qi} (h:t.look=some f):t.lk=f:=by unfold Qd.lk;rw [h];rfl
theorem Y9 (i:Int):mt c M i (Q6 M (Q5 c i))=true:=by unfold mt;simp
theorem Q60 {st a:Int} (h0:0≤c.sl) (h1:a<c.sl):2≤tT c st a:=by unfold tT;split<;>(try split)<;>omega
theorem Q8a (h:Qj c n M) (hn:n≤1000000000) (hw:(w:Int)<c.wo) {t t':Qd} {good:Bool} (hl:t.live c w) (hS:TkS c M good t t' M'):
 (t'.st≠15→Gg c M M' (kJ c t) (kJ c t') (kR c M t) (kR c M' t'))∧(t'.st=15→Gg c M M' (kJ c t) (kEJ c t'.e) (kR c M t) (kER c t'.e)):=by
 obtain ⟨s0,s1,tw,hlk,hfd,hwd,hi,hrt⟩:=hl
 have E:∀f g:Qi,t.look=some f→t.look=some g→f=g:=fun f g a b=>by rw [a] at b;exact Option.some.inj b
 have sl:=h.cf.2.1;have wo:=h.cf.1
 have kp:=Zo h
 have own:0≤t.w∧t.w≤15:=by rw [tw];omega
 have slc:∀{a:Int},0≤a→a<c.sl→Q5 c a=c.slot a:=fun h0 h1=>by unfold Q5;rw [if_pos ⟨h0,h1⟩]
 have w0:=(Kn h 1 0).1
 have bJ:∀e:Int,e≠3→kEJ c e=0∧kER c e=tFq c:=fun e he=>by unfold kEJ kER;rw [if_neg he,if_neg he];exact ⟨rfl,rfl⟩
 have fnd:∀k o:Int,(QE k o 0).at_=0:=fun _ _=>rfl
 have goAt:∀f:Qi,f.found=true→f.go.at_=f.at_+1:=fun f e=>by unfold Qi.go;rw [if_pos e]
 cases hS with
 |shut h1 h2=>
  refine ⟨fun e=>absurd rfl e,fun _=>.stay ?_ ?_⟩
  · rw [ZQ (t:=t) Lb,(bJ _ (by simp [Qd.end_])).1];omega
  · rw [(bJ _ (by simp [Qd.end_])).2];unfold kR;rw [if_pos h1];omega
 |begins h1 h2=>
  refine ⟨fun _=>.stay ?_ ?_,fun e=>by simp [Qd.search] at e⟩
  · rw [ZQ (t:=t) Lb,ZQ (by simp [Qd.search])];omega
  · rw [D6 (x:=1) rfl Lb];unfold kR;rw [if_pos h1]
    show tT c 1 0+wlY c M 1 0+1≤_
    unfold tT;rw [if_pos rfl];omega
 |@hit f h1 h2 h3 h4=>
  obtain ⟨f',e1,e2,e3,e4,e5,e6⟩:=hlk Lb
  cases E _ _ e1 h2
  refine ⟨fun _=>.stay ?_ ?_,fun e=>by simp only at e;omega⟩
  · rw [ZQ (t:=t) Lb,ZQ Ld];omega
  · have:=Q60 (c:=c) (st:=t.st) (a:=f.at_) Lb h3
    have:=(Kn h t.st f.at_).1
    rw [D6 (t:=t) rfl Lb,JW h2,kR_f (x:=t.st+1) rfl Lb,if_pos]
    · omega
    · show mt c M f.at_ (Q6 M (c.slot f.at_))=true
      rw [←slc e3 h3];exact Y9 _
 |@miss f h1 h2 h3 h4=>
  obtain ⟨f',e1,e2,e3,e4,e5,e6⟩:=hlk h1
  cases E _ _ e1 h2
  refine ⟨fun _=> ?_,fun e=>by simp only at e;omega⟩
  by_cases h5:t.st=5
  · refine .stay ?_ ?_
    · rw [Wo (t:=t) (.inl h5),Wo (by exact .inl h5),JW h2];show c.sl - (f.at_+1)≤_;omega
    · rw [Q2N (t:=t) h5,Q2N (by exact h5),JW h2]
      show 2*(c.sl - (f.at_+1))+tFq c+5+1≤2*(c.sl - f.at_)+tFq c+5;omega
  · refine .stay ?_ ?_
    · rw [ZQ (t:=t) Lb,ZQ Ld];omega
    · rw [D6 (t:=t) rfl Lb,D6 (x:=t.st) (by rfl) Lb,JW h2]
      show tT c t.st (f.at_+1)+wlY c M t.st (f.at_+1)+1≤_
      have:=Q1S (c:=c) (M:=M) (st:=t.st) (a:=f.at_) (st':=t.st) (a':=f.at_+1) (fun hw=>(Wv h (own:=f.own) Lb e3 Lb (by rw [←e6];exact h4) hw).1) kp.2
      have:tT c t.st (f.at_+1)=tT c t.st f.at_ - 1:=by unfold tT;split<;>(try split)<;>omega
      omega
 |@last1 f h1 h2 h3 h4=>
  obtain ⟨f',e1,e2,e3,e4,e5,e6⟩:=hlk Lb
  cases E _ _ e1 h2
  refine ⟨fun _=>.stay ?_ ?_,fun e=>by simp [Qd.search] at e⟩
  · rw [ZQ (t:=t) Lb,ZQ (by simp [Qd.search])];omega
  · rw [D6 (t:=t) h1 Lb,JW h2,D6 (x:=3) rfl Lb]
    show tT c 3 0+wlY c M 3 0+1≤_
    have:=Q1S (c:=c) (M:=M) (st:=1) (a:=f.at_) (st':=3) (a':=0) (fun hw=>(Wv h (own:=f.own) (st:=1) Lb e3 Lb (by rw [←h1,←e6];exact h4) hw).2.2.2 rfl) kp.2
    unfold tT;rw [if_neg Lb,if_pos rfl,if_pos rfl];omega
 |@last3 f h1 h2 h3 h4=>
  obtain ⟨f',e1,e2,e3,e4,e5,e6⟩:=hlk Lb
  cases E _ _ e1 h2
  refine ⟨fun _=>.stay ?_ ?_,fun e=>by simp [Qd.search] at e⟩
  · rw [ZQ (t:=t) Lb,ZQ (by simp [Qd.search])];omega
  · rw [D6 (t:=t) h1 Lb,JW h2,D6 (x:=7) rfl Lb]
    show tT c 7 0+wlY c M 7 0+1≤_
    have:=Q1S (c:=c) (M:=M) (st:=3) (a:=f.at_) (st':=7) (a':=0) (fun hw=>(Wv h (own:=f.own) (st:=3) Lb e3 Lb (by rw [←h1,←e6];exact h4) hw).2.2.1 h3 rfl) kp.2
    unfold tT;rw [if_neg Lb,if_neg Lb,if_neg Lb,if_pos rfl];omega
 |@last7 f h1 h2 h3 h4=>
  obtain ⟨f',e1,e2,e3,e4,e5,e6⟩:=hlk Lb
  cases E _ _ e1 h2
  refine ⟨fun e=>absurd rfl e,fun _=>.stay ?_ ?_⟩
  · rw [ZQ (t:=t) Lb];show kEJ c 3≤_;unfold kEJ;rw [if_pos rfl];omega
  · rw [D6 (t:=t) h1 Lb,JW h2]
    show kER c 3+1≤_
    have:wlY c M 7 f.at_=kY c:=by
     unfold wlY;rw [if_neg]
     intro hw
     exact (Wv h (own:=f.own) (st:=7) Lb e3 Lb (by rw [←h1,←e6];exact h4) hw).2.1 h3 rfl
    have:=Q60 (c:=c) (st:=7) (a:=f.at_) Lb Lb
    unfold kER;rw [if_pos rfl];unfold kY at*;omega
 |@last5 f f' h1 h2=>
  obtain ⟨f0,e1,e2,e3,e4,e5,e6⟩:=hlk Lb
  cases E _ _ e1 h2
  refine ⟨fun _=>.stay ?_ ?_,fun e=>by simp at e⟩
  · rw [Wo (t:=t) (.inl h1),JW h2];show (0:Int)≤_;omega
  · rw [Q2N h1,JW h2];show tFq c+4+1≤_;omega
 |@pass f h1 h2 h3=>
  obtain ⟨f0,e1,e2,e3,e4,e5,e6⟩:=hlk Lb
  cases E _ _ e1 h2
  refine ⟨fun _=>.stay ?_ ?_,fun e=>by simp only at e;omega⟩
  · rw [Wo (t:=t) (.inl h1),Wo (by exact .inl h1),JW h2];show c.sl - (f.at_+1)≤_;omega
  · rw [Q2N (t:=t) h1,Q2N (by exact h1),JW h2]
    show 2*(c.sl - (f.at_+1))+tFq c+5+1≤2*(c.sl - f.at_)+tFq c+5;omega
 |@move f h1 h2 h3 h4=>
  refine ⟨fun _=>.stay ?_ ?_,fun e=>by simp at e⟩
  · rw [Wo (t:=t) (.inl h1),Wo (.inr rfl),JW h2];show c.sl - f.at_≤_;omega
  · rw [Q2N (t:=t) h1,kR_6 rfl,JW h2]
    show 2*(c.sl - f.at_)+tFq c+4+1≤2*(c.sl - f.at_)+tFq c+5;omega
 |@lease f s u h1 h2 h3 h4 h5=>
  refine ⟨fun _=>h.XP h3 h4 h5 _ _ ?_,fun e=>by simp at e⟩
  rw [ZQ (t:=t) Lb,(Ku h4).1 Lc]
  show qS s+0+1≤_;omega
 |@leaseMove f s u h1 h2 h3 h4 h5=>
  refine ⟨fun _=>h.XP h3 h4 h5 _ _ ?_,fun e=>by simp at e⟩
  rw [ZQ (t:=t) Lb,(Ku h4).1 Lc]
  show qS s+(c.sl - 0)+1≤_;omega
 |@again f h1 h2 h3=>
  obtain ⟨f',s,e1,e2,e3,e4,e5,e6,e7,e8⟩:=hfd Lb
  cases E _ _ e1 h2
  have hm:mt c M f.at_ f.word=false:=by
   rw [←h.VI ⟨e3,e4⟩]
   obtain ⟨u,hu⟩:∃u,Qk s (if t.st=8 then 0 else 3) t.w 0=some u:=by
    rw [e8] at e7
    rcases h1 with h1|h1|h1
    · rw [if_neg Lb]
      refine VG own (t:=Js s t.w) ?_
      simp [h1,ZU,Jq] at e7
      simp only [chg];rw [if_pos e7.1]
    · rw [if_neg Lb]
      refine VG own (t:=Js s t.w) ?_
      simp [h1,ZU,Jq] at e7
      simp only [chg];rw [if_pos e7]
    · rw [if_pos h1]
      refine VG own (t:=toV s 1 t.w) ?_
      simp [h1,ZU,Jq] at e7
      simp only [chg];rw [if_pos e7]
   exact h3 s u (by rw [e6];exact QF e5) hu
  refine ⟨fun _=>.stay ?_ ?_,fun e=>by simp only at e;omega⟩
  · rw [ZQ (t:=t) Lb,ZQ Ld];omega
  · have:=(Kn h (t.st - 1) f.at_).2
    rw [kR_f (t:=t) rfl Lb,JW h2,if_neg (by rw [hm];simp),D6 (x:=t.st - 1) rfl Lb]
    show tT c (t.st - 1) f.at_+wlY c M (t.st - 1) f.at_+1≤_;omega
 |@dial f s u h1 h2 h3 h4 h5=>
  refine ⟨fun _=>h.XP h3 h4 h5 _ _ ?_,fun e=>by simp at e⟩
  rw [ZQ (t:=t) Lb,(Ku h4).1 Lc]
  show qS s+5+1≤_;omega
 |@moved f s u h1 h2 h3 h4 h5=>
  obtain ⟨f',s',e1,e2,e3,e4,e5,e6,e7,e8⟩:=hfd Lb
  cases E _ _ e1 h2
  refine ⟨fun _=>h.XP h3 h4 h5 _ _ ?_,fun e=>by simp at e⟩
  rw [(Ku h4).1 Lc]
  rw [Wo (t:=t) (.inr h1),Wo (.inl rfl),JW h2]
  show qS s+(c.sl - f.go.at_)+1≤_
  rw [goAt f e2];omega
 |@unmoved f h1 h2=>
  obtain ⟨f',s',e1,e2,e3,e4,e5,e6,e7,e8⟩:=hfd Lb
  cases E _ _ e1 h2
  refine ⟨fun _=>.stay ?_ ?_,fun e=>by simp at e⟩
  · rw [Wo (t:=t) (.inr h1),Wo (.inl rfl),JW h2]
    show c.sl - f.go.at_≤_
    rw [goAt f e2];omega
  · rw [kR_6 (t:=t) h1,Q2N rfl,JW h2]
    show 2*(c.sl - f.go.at_)+tFq c+5+1≤2*(c.sl - f.at_)+tFq c+4
    rw [goAt f e2];omega
 |up s u h1 h2 h3 h4 h5=>
  refine ⟨fun _=>h.XP h3 h4 h5 _ _ ?_,fun e=>by simp at e⟩
  have:=(Ku h4).2.1 rfl
  show qS u+0+1≤_
  unfold kJ;rw [if_neg Lb,if_pos h1];omega
 |down s u h1 h2 h3 h4 h5=>
  refine ⟨fun e=>absurd rfl e,fun _=>h.XP h3 h4 h5 _ _ ?_⟩
  rw [(Ku h4).1 Lc,(bJ _ (by simp [Qd.end_])).1]
  unfold kJ;rw [if_neg Lb,if_pos h1];omega
 |undialed h1 h2=>
  refine ⟨fun e=>absurd rfl e,fun _=>.stay ?_ ?_⟩
  · rw [(bJ _ (by simp [Qd.end_])).1];unfold kJ;rw [if_neg Lb,if_pos h1];omega
  · rw [(bJ _ (by simp [Qd.end_])).2];unfold kR;simp [h1]<;>omega
 |fine h1 h2=>
  refine ⟨fun e=>absurd rfl e,fun _=>.stay ?_ ?_⟩
  · rw [(bJ _ (by simp [Qd.end_])).1];unfold kJ;simp [h1]
  · rw [(bJ _ (by simp [Qd.end_])).2];unfold kR;simp [h1]<;>omega
 |late h1 h2=>
  refine ⟨fun _=>.stay ?_ ?_,fun e=>by simp at e⟩
  · unfold kJ;simp [h1]
  · unfold kR;simp [h1]<;>omega
 |gives s h1 h2 h3 h4 h5=>
  have hi':=hi Lb
  refine ⟨fun _=>.stay ?_ ?_,fun e=>by simp at e⟩
  · unfold kJ;simp [h1,Qd.rt,Jb,rJ]
  · unfold kR;simp [h1,Qd.rt,Jb,rR,Y9];omega
 |gone h1 h2=>
  refine ⟨fun e=>absurd rfl e,fun _=>.stay ?_ ?_⟩
  · rw [(bJ _ (by simp [Qd.end_])).1];unfold kJ;simp [h1]
  · rw [(bJ _ (by simp [Qd.end_])).2];unfold kR;simp [h1]<;>omega
 |@goes r r' _ h1 h2 h3 h4=>
  obtain ⟨r0,f1,f2⟩:=hrt h1
  rw [h2] at f1;cases f1
  have hi':=hi Lb
  have er:t.rt=r:=by unfold Qd.rt;rw [h2];rfl
  have jt:kJ c t=rJ r:=by unfold kJ;rw [if_neg Lb,if_neg Lb,if_pos h1,er]
  have jt':kJ c {t with ret:=some r'}=rJ r':=by unfold kJ;rw [if_neg Ld,if_neg Ld,if_pos h1];rfl
  refine ⟨fun _=> ?_,fun e=>by simp only at e;omega⟩
  rw [jt,jt']
  rcases KP h hn f2 hi' (fun s hs=>.inr hs.1) h3 with ⟨-,a,b⟩|⟨-,rfl,a,b,d⟩|⟨a, -⟩|⟨a, -⟩
  · exact .inl ⟨a,b⟩
  · refine .stay b ?_
    have kt:kR c M' t=rR c M' t.i r (tFq c+4):=by unfold kR;simp [h1,er]
    have kt':kR c M' {t with ret:=some r'}=rR c M' t.i r' (tFq c+4):=by unfold kR;simp [h1,Qd.rt]
    rw [kt,kt'];exact d _ _
  · rw [h4] at a;cases a
  · rw [h4] at a;cases a
 |@went r r' _ h1 h2 h3 h4 h5=>
  obtain ⟨r0,f1,f2⟩:=hrt h1
  rw [h2] at f1;cases f1
  have hi':=hi Lb
  have er:t.rt=r:=by unfold Qd.rt;rw [h2];rfl
  have jt:kJ c t=rJ r:=by unfold kJ;rw [if_neg Lb,if_neg Lb,if_pos h1,er]
  refine ⟨fun e=>absurd rfl e,fun _=> ?_⟩
  rw [jt,(bJ _ (by simp [Qd.end_])).1]
  rcases KP h hn f2 hi' (fun s hs=>.inr hs.1) h3 with ⟨a, -⟩|⟨a, -⟩|⟨-, -,a,b, -⟩|⟨-,a, -⟩
  · rw [h4] at a;cases a
  · rw [h4] at a;cases a
  · exact .inl ⟨a,Lb⟩
  · rw [h5] at a;cases a
 |@back r r' _ h1 h2 h3 h4 h5=>
  obtain ⟨r0,f1,f2⟩:=hrt h1
  rw [h2] at f1;cases f1
  have hi':=hi Lb
  have er:t.rt=r:=by unfold Qd.rt;rw [h2];rfl
  refine ⟨fun _=> ?_,fun e=>by simp at e⟩
  rcases KP h hn f2 hi' (fun s hs=>.inr hs.1) h3 with ⟨a, -⟩|⟨a, -⟩|⟨-,a, -⟩|⟨-, -,rfl,b,d⟩
  · rw [h4] at a;cases a
  · rw [h4] at a;cases a
  · rw [h5] at a;cases a
  · refine .stay ?_ ?_
    · have:=(KV r).1
      unfold kJ;simp [h1,er];omega
    · unfold kR;simp [h1,er,rR,b,d];omega
 |loads h1=>
  refine ⟨fun _=>.stay ?_ ?_,fun e=>by simp at e⟩
  · rw [ZQ (t:=t) Lb,ZQ Lc];omega
  · unfold kR;simp [h1,Y9];omega
 |none h1 h2=>
  refine ⟨fun e=>absurd rfl e,fun _=>.stay ?_ ?_⟩
  · rw [ZQ (t:=t) Lb,(bJ _ (by simp [Qd.end_])).1];omega
  · rw [(bJ _ (by simp [Qd.end_])).2];unfold kR;simp [h1];split<;>omega
 |takes s u h1 h2 h3 h4=>
  refine ⟨fun _=>h.XP h2 h3 h4 _ _ ?_,fun e=>by simp only at e;split at e<;>omega⟩
  rw [ZQ (t:=t) Lb,(Ku h3).1 Lc]
  by_cases h5:u.st=3
  · unfold kJ;simp [h5];omega
  · unfold kJ;simp [h5];omega
 |fails s u h1 h2 h3 h4=>
  obtain ⟨-,hi⟩:True∧True:=⟨trivial,trivial⟩
  refine ⟨fun _=>.stay ?_ ?_,fun e=>by simp at e⟩
  · rw [ZQ (t:=t) Lb,ZQ Lc];omega
  · have hm:mt c M t.i t.word=false:=by
     by_cases hin:0≤t.i∧t.i<c.sl
     · rw [←h.VI hin];exact h4
     · unfold mt
       rw [JU _ hin,YW,decide_eq_false_iff_not]
       intro e
       rw [←e,Q1q] at h2
       cases h2
       obtain ⟨-,t',ht, -⟩:=X7 h3
       have:chg 16 Vy t.w 0=none:=by
        simp only [chg]
        rw [if_neg (by simp [Jh,Vy]),if_neg (by simp [Jh,Vy])]
       rw [this] at ht;cases ht
    unfold kR;simp [h1,hm];omega
end
section
variable {c:Q0} {w:Nat} {n:Int} {M M':List Int}
theorem mt_out {i:Int} {s:Q7} (hi:¬(0≤i∧i<c.sl)) (hs:s.right) (h0:s.st≠0):mt c M i s.enc=false:=by
 unfold mt
 rw [JU _ hi,YW,decide_eq_false_iff_not]
 intro e
 have:dec 0=some s:=by rw [e];exact QF hs
 rw [Q1q] at this
 cases this
 exact h0 rfl
theorem Q6E (h:Qj c n M) {i:Int} {s:Q7} (hs:s.right) (h0:s.st≠0) (hc:Qx M (Q5 c i) s.enc=false):mt c M i s.enc=false:=by
 by_cases hi:0≤i∧i<c.sl
 · rw [←h.VI hi];exact hc
 · exact mt_out hi hs h0
def gR (c:Q0) (M:List Int) (g:QC):Int:=if g.st=0 then tFq c+3 else if g.st=1 then tFq c+2 else if g.st=2 then (if mt c M g.i g.word then 1 else tFq c+3) else if g.st=3 then rR c M g.i g.rt (tFq c+3) else 0
def gJ (g:QC):Int:=if g.st=3∧g.rt.st≠.swap then rJ g.rt else 1
theorem Ga {g:QC} (h:g.st≠3):gJ g=1:=by unfold gJ;rw [if_neg (fun a=>h a.1)]
theorem Q93 (h:Qj c n M) (hn:n≤1000000000) (hw:(w:Int)<c.wo) {g g':QC} (hl:g.live c w) (hS:GvS c M g g' M'):
 (g'.st≠4→Gg c M M' (gJ g) (gJ g') (gR c M g) (gR c M' g'))∧(g'.st=4→Gg c M M' (gJ g) 0 (gR c M g) (tFq c)):=by
 obtain ⟨s0,s1,tw,hwd,hrt⟩:=hl
 have kp:=Zo h
 have wo:=h.cf.1
 cases hS with
 |forced h1=>exact ⟨fun e=>absurd rfl e,fun _=>.stay (by rw [Ga Lb];omega) (by unfold gR;simp [h1]<;>omega)⟩
 |begins h1=>exact ⟨fun _=>.stay (by rw [Ga (g:=g) Lb,Ga Lc];omega) (by unfold gR;simp [h1]<;>omega),fun e=>by simp at e⟩
 |ends wo e h1 h2=>exact ⟨fun e=>absurd rfl e,fun _=>.stay (by rw [Ga Lb];omega) (by unfold gR;simp [h1]<;>omega)⟩
 |has s h1 i0 i1 h2 h3 h4 h5 h6=>exact ⟨fun _=>.stay (by rw [Ga (g:=g) Lb,Ga Lc];omega) (by unfold gR;simp [h1,Y9];omega),fun e=>by simp at e⟩
 |rets s h1 i0 i1 h2 h3 h4 h5=>exact ⟨fun _=>.stay (by rw [Ga (g:=g) Lb];unfold gJ;simp [QC.rt,Jb]) (by unfold gR;simp [h1,QC.rt,Jb,rR,Y9];omega),fun e=>by simp at e⟩
 |given s u h1 h2 h3 h4=>exact ⟨fun e=>absurd rfl e,fun _=>h.XP h2 h3 h4 _ _ (by rw [Ga Lb,(Ku h3).1 Lc];omega)⟩
 |lost h1 h2=>
  obtain ⟨hi,s,b1,b2,b3,b4,b5,b6⟩:=hwd h1
  have hm:mt c M g.i g.word=false:=by
   rw [←h.VI hi]
   obtain ⟨u,hu⟩:∃u,Qk s 4 g.w 0=some u:=VG (by rw [tw];omega) (t:=toV s 2 g.w) (by simp only [chg];rw [if_pos];simp [Jh,b3,b4,b6])
   exact h2 s u (by rw [b2];exact QF b1) hu
  exact ⟨fun _=>.stay (by rw [Ga (g:=g) Lb,Ga Lc];omega) (by unfold gR;simp [h1,hm];omega),fun e=>by simp at e⟩
 |@goes r r' _ h1 h2 h3 h4=>
  obtain ⟨hi,r0,f1,f2⟩:=hrt h1
  rw [h2] at f1;cases f1
  have er:g.rt=r:=by unfold QC.rt;rw [h2];rfl
  have er':({g with ret:=some r'}:QC).rt=r':=rfl
  have rj:=KV r;have rj':=KV r'
  have jt:rJ r≤gJ g:=by
   unfold gJ;rw [er];split
   · omega
   · rename_i hx
     have:r.st=.swap:=by
      by_cases hs:r.st=.swap
      · exact hs
      · exact absurd ⟨h1,hs⟩ hx
     unfold rJ;rw [this];simp
  have JJ:∀r1:J2,r1.st≠.swap→gJ {g with ret:=some r1}=rJ r1:=fun r1 h=>by unfold gJ;rw [if_pos ⟨h1,h⟩];rfl
  have hst:r'.st≠.swap:=by
   cases h3 with
   |lost g1 g2=>simp [J2.fin] at h4
   |QO g1=>simp [J2.fin] at h4
   |swap s u g1=>simp
   |look g1=>simp
   |stale g1=>simp
   |age s u g1=>simp
  refine ⟨fun _=> ?_,fun e=>by simp only at e;omega⟩
  rw [JJ r' hst]
  rcases KP h hn f2 hi (fun s hs=>.inr hs.1) h3 with ⟨-,a,b⟩|⟨-,rfl,a,b,d⟩|⟨a, -⟩|⟨a, -⟩
  · exact .inl ⟨a,Lb⟩
  · refine .stay Lb ?_
    have kt:gR c M' g=rR c M' g.i r (tFq c+3):=by unfold gR;simp [h1,er]
    have kt':gR c M' {g with ret:=some r'}=rR c M' g.i r' (tFq c+3):=by unfold gR;simp [h1,QC.rt]
    rw [kt,kt'];exact d _ _
  · rw [h4] at a;cases a
  · rw [h4] at a;cases a
 |@went r r' _ h1 h2 h3 h4 h5=>
  obtain ⟨hi,r0,f1,f2⟩:=hrt h1
  rw [h2] at f1;cases f1
  have er:g.rt=r:=by unfold QC.rt;rw [h2];rfl
  refine ⟨fun e=>absurd rfl e,fun _=> ?_⟩
  rcases KP h hn f2 hi (fun s hs=>.inr hs.1) h3 with ⟨a, -⟩|⟨a, -⟩|⟨-, -,a,b,d⟩|⟨-,a, -⟩
  · rw [h4] at a;cases a
  · rw [h4] at a;cases a
  · have e1:gJ g=rJ r:=by unfold gJ;rw [er,if_pos ⟨h1,d⟩]
    exact .inl ⟨a,by rw [e1];omega⟩
  · rw [h5] at a;cases a
 |@back r r' _ h1 h2 h3 h4 h5=>
  obtain ⟨hi,r0,f1,f2⟩:=hrt h1
  rw [h2] at f1;cases f1
  have er:g.rt=r:=by unfold QC.rt;rw [h2];rfl
  refine ⟨fun _=> ?_,fun e=>by simp at e⟩
  rcases KP h hn f2 hi (fun s hs=>.inr hs.1) h3 with ⟨a, -⟩|⟨a, -⟩|⟨-,a, -⟩|⟨-, -,rfl,b,d⟩
  · rw [h4] at a;cases a
  · rw [h4] at a;cases a
  · rw [h5] at a;cases a
  · refine .stay ?_ ?_
    · rw [Ga Lc];unfold gJ;simp [er,b]
    · unfold gR;simp [h1,er,rR,b,d];omega
def sR (c:Q0) (M:List Int) (g:QN):Int:=if g.st=0 then tFq c+3 else if g.st=1 then tFq c+2 else (if mt c M g.i g.word then 1 else tFq c+3)
theorem Q8d (h:Qj c n M) (hn:n≤1000000000) (hw:(w:Int)<c.wo) {g g':QN} (hl:g.live c w) (hS:SmS c M g g' M'):
 (g'.st≠3→Gg c M M' 1 1 (sR c M g) (sR c M' g'))∧(g'.st=3→Gg c M M' 1 0 (sR c M g) (tFq c)):=by
 obtain ⟨s0,s1,tw,hwd⟩:=hl
 have kp:=Zo h
 cases hS with
 |forced h1=>exact ⟨fun e=>absurd rfl e,fun _=>.stay Lb (by unfold sR;simp [h1]<;>omega)⟩
 |begins h1=>exact ⟨fun _=>.stay Lb (by unfold sR;simp [h1]<;>omega),fun e=>by simp at e⟩
 |ends wo e h1 h2=>exact ⟨fun e=>absurd rfl e,fun _=>.stay Lb (by unfold sR;simp [h1]<;>omega)⟩
 |has s t h1 h2 h3 h4=>exact ⟨fun _=>.stay Lb (by unfold sR;simp [h1,Y9];omega),fun e=>by simp at e⟩
 |swapped h1 h2=>
  obtain ⟨s,t,more,a1,a2,a3,a4,a5,a6⟩:=hwd h1
  refine ⟨fun e=>absurd rfl e,fun _=> ?_⟩
  rw [a5]
  rw [a2] at h2 ⊢
  exact h.XP (QF a1) a4 h2 _ _ (by rw [(Ku a4).1 (by split<;>simp)];omega)
 |lost h1 h2=>
  obtain ⟨s,t,more,a1,a2,a3,a4,a5,a6⟩:=hwd h1
  have hst:s.st≠0:=by
   intro e
   obtain ⟨-,t',ht, -⟩:=X7 a4
   cases ho:g.opens with
   |true=>rw [ho] at ht;simp [chg,VF,Jh,e] at ht
   |false=>rw [ho] at ht;simp [chg,Vz,Jh,e] at ht
  rw [a2] at h2
  have hm:=Q6E h a1 hst h2
  rw [←a2] at hm
  exact ⟨fun _=>.stay Lb (by unfold sR;simp [h1,hm];omega),fun e=>by simp at e⟩
def qR (c:Q0) (M:List Int) (s:QuS):Int:=
 match s.nx with
 |.come=>tFq c+2
 |.push=>if mQ M=s.line then 1 else tFq c+3
 |.closed=>tFq c+4
 |.look=>tFq c+2
 |.drop=>if mQ M=s.line then 1 else tFq c+3
 |.head=>tFq c+2
 |.pop=>if mQ M=s.line then 1 else tFq c+3
 |.tell=>tFq c+3
 |.done=>tFq c+1
def qB (c:Q0) (s:QuS):Int:=match s.nx with|.come=>2*Qw c|.push=>2*Qw c|_=>0
theorem QS_low (h:Qj c n M) {j v:Int} (h0:0≤j) (h1:j<3+2*c.wo):QS c (M.set j.toNat v)=QS c M:=Hw (fun i=>h.Y0 h0 h1 i) _
theorem mQ_put (h:Qj c n M) {L:List Int} (hL:Ln L):mQ (M.set (1:Int).toNat (wd L:Int))=L:=by
 have:=h.len;have:=h.cf.2.1;have:=h.cf.1
 exact mQ_wd hL (by rw [ZF Lb (by unfold Q0.cells at*;omega),if_pos rfl])
theorem WK (h:Qj c n M) {L:List Int} (hL:Ln L) {j j':Int} (r r':Int) (hj:(L.length<(mQ M).length∧j'≤j+2)∨(L.length≤(mQ M).length+1∧j'+2*Qw c≤j)):Gg c M (M.set (1:Int).toNat (wd L:Int)) j j' r r':=by
 have wo:=h.cf.1
 right;left
 refine ⟨QS_low h Lb Lb, ?_⟩
 rw [mQ_put h hL]
 have q0:0≤Qw c:=by unfold Qw;omega
 rcases hj with ⟨a,b⟩|⟨a,b⟩
 · have:Qw c*(L.length:Int)≤Qw c*(((mQ M).length:Int) - 1):=Int.mul_le_mul_of_nonneg_left Lb q0
   rw [Int.mul_sub] at this
   unfold Qw at*;omega
 · have:Qw c*(L.length:Int)≤Qw c*(((mQ M).length:Int)+1):=Int.mul_le_mul_of_nonneg_left Lb q0
   rw [Int.mul_add] at this
   unfold Qw at*;omega
theorem rm_len {L:List Int} {x:Int} (h:x∈L):(rm L x).length<L.length:=by
 unfold rm
 rw [List.length_filter_lt_length_iff_exists]
 exact ⟨x,h,Lc⟩
theorem q_go (h:Qj c n M) {s:QuS} (hl:s.live c):
 ((Qo c s M).1.nx.isDone=false→Gg c M (Qo c s M).2 (qB c s) (qB c (Qo c s M).1) (qR c M s) (qR c (Qo c s M).2 (Qo c s M).1))∧((Qo c s M).1.nx.isDone=true→Gg c M (Qo c s M).2 (qB c s) 0 (qR c M s) (tFq c)):=by
 obtain ⟨⟨hLn,hpush,hdrop,htell⟩,hlw,w0,w1,hhd⟩:=hl
 have kp:=Zo h
 have wo:=h.cf.1
 have q0:0≤Qw c:=by unfold Qw;omega
 unfold Qo
 cases hn:s.nx with
 |come=>
  simp only
  by_cases hc:c.wa≤((mQ M).length:Int)∨s.w∈mQ M
  · rw [if_pos hc];exact ⟨fun e=>by simp [QSt.isDone] at e,fun _=>.stay (by unfold qB;rw [hn];simp only;omega) (by unfold qR;rw [hn];simp only;omega)⟩
  · rw [if_neg hc];exact ⟨fun _=>.stay (by unfold qB;rw [hn];simp) (by unfold qR;rw [hn];simp;omega),fun e=>by simp [QSt.isDone] at e⟩
 |push=>
  simp only
  by_cases hc:mQ M=s.line
  · rw [if_pos hc]
    refine ⟨fun _=>WK h (hpush hn) _ _ (.inr ⟨by rw [hc];simp,by unfold qB;rw [hn];simp⟩),fun e=>by simp [QSt.isDone] at e⟩
  · rw [if_neg hc];exact ⟨fun _=>.stay (by unfold qB;rw [hn];simp) (by unfold qR;rw [hn];simp [hc];omega),fun e=>by simp [QSt.isDone] at e⟩
 |closed=>
  simp only
  by_cases hc:Q6 M 0=0
  · rw [if_pos hc];exact ⟨fun e=>by simp [QSt.isDone] at e,fun _=>.stay (by unfold qB;rw [hn];simp) (by unfold qR;rw [hn];simp only;omega)⟩
  · rw [if_neg hc];exact ⟨fun _=>.stay (by unfold qB;rw [hn];simp) (by unfold qR;rw [hn];simp;omega),fun e=>by simp [QSt.isDone] at e⟩
 |look=>
  simp only
  by_cases hc:s.w∈mQ M
  · rw [if_pos hc];exact ⟨fun _=>.stay (by unfold qB;rw [hn];simp) (by unfold qR;rw [hn];simp;omega),fun e=>by simp [QSt.isDone] at e⟩
  · rw [if_neg hc];exact ⟨fun e=>by simp [QSt.isDone] at e,fun _=>.stay (by unfold qB;rw [hn];simp) (by unfold qR;rw [hn];simp only;omega)⟩
 |drop=>
  simp only
  by_cases hc:mQ M=s.line
  · rw [if_pos hc]
    exact ⟨fun e=>by simp [QSt.isDone] at e,fun _=>WK h (hLn.rm s.w) _ _ (.inl ⟨by rw [hc];exact rm_len (hdrop hn),by unfold qB;rw [hn];simp⟩)⟩
  · rw [if_neg hc];exact ⟨fun _=>.stay (by unfold qB;rw [hn];simp) (by unfold qR;rw [hn];simp [hc];omega),fun e=>by simp [QSt.isDone] at e⟩
 |head=>
  simp only
  by_cases hc:mQ M=[]
  · rw [if_pos hc];exact ⟨fun e=>by simp [QSt.isDone] at e,fun _=>.stay (by unfold qB;rw [hn];simp) (by unfold qR;rw [hn];simp only;omega)⟩
  · rw [if_neg hc];exact ⟨fun _=>.stay (by unfold qB;rw [hn];simp) (by unfold qR;rw [hn];simp;omega),fun e=>by simp [QSt.isDone] at e⟩
 |pop=>
  simp only
  by_cases hc:mQ M=s.line
  · rw [if_pos hc]
    refine ⟨fun _=>WK h hLn.tail _ _ (.inl ⟨?_,by unfold qB;rw [hn];simp⟩),fun e=>by simp [QSt.isDone] at e⟩
    rw [hc,List.length_tail]
    have:=List.length_pos_iff.2 (hhd hn).2
    omega
  · rw [if_neg hc];exact ⟨fun _=>.stay (by unfold qB;rw [hn];simp) (by unfold qR;rw [hn];simp [hc];omega),fun e=>by simp [QSt.isDone] at e⟩
 |tell=>
  simp only
  obtain ⟨f0,f1⟩:=htell hn
  have:=h.len;have:=h.cf.2.1
  rw [Jr Lb (by unfold Q0.cells at*;omega)]
  exact ⟨fun _=>.inr (.inr ⟨h.ZO Lb Lb,by unfold qB;rw [hn];simp,by unfold qR;rw [hn];simp only;omega⟩),fun e=>by simp [QSt.isDone] at e⟩
 |done=>simp only;exact ⟨fun e=>by rw [hn] at e;simp [QSt.isDone] at e,fun _=>.stay (by unfold qB;rw [hn];simp) (by unfold qR;rw [hn];simp only;omega)⟩
end
end Go.Proofs.YtgjklfmnmljilaaGreatDoor
