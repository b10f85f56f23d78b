/- A part of the proof: TqQ to TqR. -/
import Derived.Test.YtgjklfmnmljilaaGreatDoorZS46
namespace Go.Proofs.YtgjklfmnmljilaaGreatDoor
set_option linter.unusedVariables false
set_option linter.unusedSimpArgs false
set_option linter.unusedSectionVars false
set_option linter.unnecessarySimpa false
set_option maxRecDepth 100000
set_option maxHeartbeats 8000000
section
theorem Gg.shift {c:Q0} {M M':List Int} {j j' r r':Int} (g:Gg c M M' j j' r r') {d d' e:Int} (h:d'≤d):Gg c M M' (j+d) (j'+d') (r+e) (r'+e):=by
 rcases g with ⟨a,b⟩|⟨a,b⟩|⟨a,b,x⟩
 · exact .inl ⟨a,by omega⟩
 · exact .inr (.inl ⟨a,by omega⟩)
 · exact .inr (.inr ⟨a,by omega,by omega⟩)
theorem Gg.le {c:Q0} {M M':List Int} {j j' r r':Int} (g:Gg c M M' j j' r r') {a a' b b':Int} (h1:j≤a) (h2:a'≤j') (h3:r≤b) (h4:b'≤r'):Gg c M M' a a' b b':=by
 rcases g with ⟨x,y⟩|⟨x,y⟩|⟨x,y,z⟩
 · exact .inl ⟨x,by omega⟩
 · exact .inr (.inl ⟨x,by omega⟩)
 · exact .inr (.inr ⟨x,by omega,by omega⟩)
def rpR (c:Q0) (M:List Int) (r:QM):Int:=
 if r.st=0 then 7*(c.sl - r.look.at_)+tFq c+2
 else if r.st=1 then 7*(c.sl - r.look.at_)+tFq c+1
 else if r.st=2 then 7*(c.sl - r.look.at_)+tFq c
 else if r.rt.st=.swap then 7*(c.sl - r.look.at_)+tFq c
 else rR c M r.look.at_ r.rt 0
def rpJ (c:Q0) (r:QM):Int:=if r.st=3 then (c.sl - r.look.at_)+rJ r.rt else c.sl - r.look.at_
def jJ (c:Q0):Yo→Int
 |.get t=>kJ c t
 |.give g=>gJ g
 |.strm _=>1
 |.reap r=>rpJ c r
 |_=>0
def jR (c:Q0) (M:List Int):Yo→Int
 |.get t=>kR c M t
 |.give g=>gR c M g
 |.strm s=>sR c M s
 |.reap r=>rpR c M r
 |.close _ none=>tFq c+3
 |.close _ (some q)=>qR c M q
 |.stats t=>twR c M t+tFq c+1
 |.none=>0
def cR (c:Q0) (M:List Int) (t:Tw2):Int:=twR c M t+(if ZF c M t then 3*c.sl+tFq c+6 else 8*c.sl+2*tFq c+12)
def pR (c:Q0):Int:=15*c.sl+2*tFq c+14
def wJ (c:Q0) (M:List Int) (k:Q9):Int:=
 if k.st=1∨k.st=3∨k.st=6∨k.st=7 then c.sl+6+(2+2*Qw c)
 else if k.st=2 then jJ c k.work+(2+2*Qw c)
 else if k.st=4 then qB c (k.qu.getD (XL 0))+2
 else if k.st=5 then yA M (k.ti.getD (QG 0))+yJ (k.ti.getD (QG 0))
 else if k.st=8 then 2+2*Qw c else 0
def wR (c:Q0) (M:List Int) (k:Q9):Int:=
 if k.st=1 then (if k.half then pR c+1 else pR c+2)
 else if k.st=2 then jR c M k.work
 else if k.st=3 then cR c M (k.tw.getD Y0)
 else if k.st=4∨k.st=8 then qR c M (k.qu.getD (XL 0))
 else if k.st=5 then yR c M (k.ti.getD (QG 0))
 else if k.st=6 then pR c+5
 else if k.st=7 then (if k.half then pR c+3 else pR c+4) else 0
variable {n:Int} {m m':Qb} {w:Nat} {c:Q0} {M M':List Int} {k:Q9}
theorem Ky (h:k.st=1∨k.st=3∨k.st=6∨k.st=7):wJ c M k=c.sl+6+(2+2*Qw c):=if_pos h
theorem Q04 (h:k.st=2):wJ c M k=jJ c k.work+(2+2*Qw c):=by unfold wJ;rw [if_neg (by omega),if_pos h]
theorem Q7O {q:QuS} (h:k.st=4) (hq:k.qu=some q):wJ c M k=qB c q+2:=by unfold wJ;rw [if_neg (by omega),if_neg (by omega),if_pos h,hq];rfl
theorem Q7N {t:Qh} (h:k.st=5) (ht:k.ti=some t):wJ c M k=yA M t+yJ t:=by unfold wJ;rw [if_neg (by omega),if_neg (by omega),if_neg (by omega),if_pos h,ht];rfl
theorem Q7M (h:k.st=8):wJ c M k=2+2*Qw c:=by unfold wJ;rw [if_neg (by omega),if_neg (by omega),if_neg (by omega),if_neg (by omega),if_pos h]
theorem Q7K (h:k.st=1):wR c M k=(if k.half then pR c+1 else pR c+2):=if_pos h
theorem Q03 (h:k.st=2):wR c M k=jR c M k.work:=by unfold wR;rw [if_neg (by omega),if_pos h]
theorem Q7J {t:Tw2} (h:k.st=3) (ht:k.tw=some t):wR c M k=cR c M t:=by unfold wR;rw [if_neg (by omega),if_neg (by omega),if_pos h,ht];rfl
theorem Q02 {q:QuS} (h:k.st=4∨k.st=8) (hq:k.qu=some q):wR c M k=qR c M q:=by unfold wR;rw [if_neg (by omega),if_neg (by omega),if_neg (by omega),if_pos h,hq];rfl
theorem Q7I {t:Qh} (h:k.st=5) (ht:k.ti=some t):wR c M k=yR c M t:=by unfold wR;rw [if_neg (by omega),if_neg (by omega),if_neg (by omega),if_neg (by omega),if_pos h,ht];rfl
theorem wR_6 (h:k.st=6):wR c M k=pR c+5:=by unfold wR;rw [if_neg (by omega),if_neg (by omega),if_neg (by omega),if_neg (by omega),if_neg (by omega),if_pos h]
theorem Q7H (h:k.st=7):wR c M k=(if k.half then pR c+3 else pR c+4):=by unfold wR;rw [if_neg (by omega),if_neg (by omega),if_neg (by omega),if_neg (by omega),if_neg (by omega),if_neg (by omega),if_pos h]
theorem new5 {w:Nat} (h5:k.st=5) (ht:k.ti=some (QG w)):wJ c M k=2∧wR c M k=tFq c:=by
 rw [Q7N h5 ht,Q7I h5 ht]
 refine ⟨?_, ?_⟩
 · rw [JH (by simp [QG]),Jf (by simp [QG])];rfl
 · unfold yR yB yE;simp [QG]
def SGo (m m':Qb) (w:Nat):Prop:=(m'.wk w).st=0∨(m'.wk w).st=6∨Gg m.c m.M m'.M (wJ m.c m.M (m.wk w)) (wJ m.c m'.M (m'.wk w)) (wR m.c m.M (m.wk w)) (wR m.c m'.M (m'.wk w))
theorem Xm {m1:Qb} {k':Q9} (hw:w<m1.ws.length) (g:k'.st=0∨k'.st=6∨Gg m.c m.M m1.M (wJ m.c m.M (m.wk w)) (wJ m.c m1.M k') (wR m.c m.M (m.wk w)) (wR m.c m1.M k')):SGo m (m1.setW w k') w:=by
 unfold SGo;rw [Ze hw];exact g
theorem Xz {m1:Qb} {j':Yo} (hw:w<m1.ws.length) (hs:(m.wk w).st=2) (g:Gg m.c m.M m1.M (jJ m.c (m.wk w).work) (jJ m.c j') (jR m.c m.M (m.wk w).work) (jR m.c m1.M j')):SGo m (m1.setW w {(m.wk w) with work:=j'}) w:=
 Xm hw (.inr (.inr (by
  rw [Q04 hs,Q03 hs,Q04 (by exact hs),Q03 (by exact hs)]
  show Gg m.c m.M m1.M (jJ m.c (m.wk w).work+(2+2*Qw m.c)) (jJ m.c j'+(2+2*Qw m.c)) (jR m.c m.M (m.wk w).work) (jR m.c m1.M j')
  exact (g.shift (d:=2+2*Qw m.c) (d':=2+2*Qw m.c) (Int.le_refl _) (e:=0)).le (Int.le_refl _) (Int.le_refl _) (by omega) (by omega))))
theorem YV {m1:Qb} {j':Yo} {x:EvV} (hq:0≤Qw m.c) (hw:w<m1.ws.length) (hs:(m.wk w).st=2) (g:Gg m.c m.M m1.M (jJ m.c (m.wk w).work) 0 (jR m.c m.M (m.wk w).work) (tFq m.c)):SGo m (m1.setW w ({(m.wk w) with work:=j'}.end_ w x)) w:=
 Xm hw (.inr (.inr (by
  obtain ⟨a,b⟩:=new5 (c:=m.c) (M:=m1.M) (k:=({(m.wk w) with work:=j'}:Q9).end_ w x) (w:=w) rfl rfl
  rw [Q04 hs,Q03 hs,a,b]
  exact (g.shift (d:=2+2*Qw m.c) (d':=2) (e:=0) (by omega)).le (by omega) (by omega) (by omega) (by omega))))
theorem Q5A (h:MInv n m) (hn:n≤1000000000) (hw:(w:Int)<m.c.wo) (hs:(m.wk w).st=2):SGo m (Jb m w) w:=by
 have L:=h.wk w hw
 have hl:=L.wk hs
 have hwl:w<m.ws.length:=by have:=h.wl;omega
 have wo:=h.mem.cf.1;have sl:=h.mem.cf.2.1;have len:=h.mem.len
 have q0:0≤Qw m.c:=by unfold Qw;omega
 have kp:=Zj h.mem
 unfold Jb
 simp only
 cases hk:(m.wk w).work with
 |none=>rw [hk] at hl;exact hl.elim
 |get t=>
  rw [hk] at hl
  obtain ⟨ho,hl⟩:=hl
  simp only
  obtain ⟨m1,good,e1⟩:∃m1 good,(if t.st=9 then m.Qs else (m,false))=(m1,good):=⟨_,_,rfl⟩
  have em:m1.ws=m.ws:=by
   split at e1
   · have e2:m1=m.Qs.1:=(congrArg Prod.fst e1).symm
     rw [e2];rfl
   · have e2:m1=m:=(congrArg Prod.fst e1).symm
     rw [e2]
  obtain ⟨x,hx⟩:∃x,Qf m.c t m.M good=x:=⟨_,rfl⟩
  obtain ⟨t',M'⟩:=x
  have hS:=K9 m.c w t m.M good hl
  rw [hx] at hS
  simp only at hS
  obtain ⟨G1,G2⟩:=Q7T h.mem hn hw hl hS
  unfold Xy
  simp only [e1,hx]
  have hw1:w<({m1 with M:=M'}:Qb).ws.length:=by show w<m1.ws.length;rw [em];exact hwl
  by_cases h15:t'.st=15
  · rw [if_pos h15]
    have G:=G2 h15
    by_cases h3:t'.e=3
    · rw [if_pos h3]
      unfold kEJ kER at G
      rw [if_pos h3,if_pos h3] at G
      split
      · refine Xm hw1 (.inr (.inr ?_))
        rw [Q04 hs,Q03 hs,hk,Q7O rfl rfl,Q02 (.inl rfl) rfl]
        exact (G.shift (d:=2+2*Qw m.c) (d':=2+2*Qw m.c) (e:=0) (by omega)).le (by show kJ m.c t+_≤kJ m.c t+_;omega) (by show 2*Qw m.c+2≤_;omega) (by show kR m.c m.M t+0≤kR m.c m.M t;omega) (by show tFq m.c+2≤_;omega)
      · refine Xm hw1 (.inr (.inr ?_))
        have hM':cR m.c M' Y0=5*m.c.sl+tFq m.c+6:=by
         have p:ZF m.c M' Y0:=⟨rfl,by simp [Y0]⟩
         unfold cR twR;rw [if_pos p,if_pos p];simp [Y0];omega
        rw [Q04 hs,Q03 hs,hk,Ky (by simp),Q7J rfl rfl]
        exact (G.shift (d:=2+2*Qw m.c) (d':=2+2*Qw m.c) (e:=0) (by omega)).le (by show kJ m.c t+_≤kJ m.c t+_;omega) (by omega) (by show kR m.c m.M t+0≤kR m.c m.M t;omega) (by show cR m.c M' Y0≤_;omega)
    · rw [if_neg h3]
      unfold kEJ kER at G
      rw [if_neg h3,if_neg h3] at G
      refine YV q0 hw1 hs ?_
      rw [hk];exact G
  · rw [if_neg h15]
    refine Xz hw1 hs ?_
    rw [hk];exact G1 h15
 |give g=>
  rw [hk] at hl
  obtain ⟨ho,hl,hi,hg⟩:=hl
  simp only
  have hS:=Uk m.c w g m.M hl
  generalize Qt m.c g m.M=x at*
  obtain ⟨g',M'⟩:=x
  simp only at hS ⊢
  obtain ⟨G1,G2⟩:=Q8J h.mem hn hw hl hS
  by_cases h4:g'.st=4
  · rw [if_pos h4];refine YV (m1:={m with M:=M'}) q0 hwl hs ?_;rw [hk];exact G2 h4
  · rw [if_neg h4];refine Xz (m1:={m with M:=M'}) hwl hs ?_;rw [hk];exact G1 h4
 |strm s=>
  rw [hk] at hl
  obtain ⟨ho,hl,hi,hg,hop'⟩:=hl
  simp only
  have hS:=Kc m.c w s m.M hl
  generalize Qu m.c s m.M=x at*
  obtain ⟨s',M'⟩:=x
  simp only at hS ⊢
  obtain ⟨G1,G2⟩:=Q7W h.mem hn hw hl hS
  by_cases h4:s'.st=3
  · rw [if_pos h4];refine YV (m1:={m with M:=M'}) q0 hwl hs ?_;rw [hk];exact G2 h4
  · rw [if_neg h4];refine Xz (m1:={m with M:=M'}) hwl hs ?_;rw [hk];exact G1 h4
 |reap r=>
  rw [hk] at hl
  obtain ⟨ho,hl⟩:=hl
  simp only
  unfold QY
  have hs4:r.st=0∨r.st=1∨r.st=2∨r.st=3:=by have:=hl.s0;have:=hl.s1;omega
  have ha:=hl.a
  have goAt:∀a:r.look.found=true,(r.J5).look.at_=r.look.at_+1:=fun a=>by simp [QM.J5,Qi.go,a]
  rcases hs4 with h0|h0|h0|h0
  · rw [if_pos h0]
    have jt:rpJ m.c r=m.c.sl - r.look.at_:=by unfold rpJ;rw [if_neg (by omega)]
    have rt:rpR m.c m.M r=7*(m.c.sl - r.look.at_)+tFq m.c+2:=by unfold rpR;rw [if_pos h0]
    rcases X6 m.c r.look m.M (hl.lk h0) with ⟨a1,a2,e⟩|⟨a1,a2,e⟩|⟨a1,e⟩
    · rw [e];simp only [if_true]
      refine Xz (m1:=m) hwl hs (.stay ?_ ?_)
      · rw [hk];show rpJ m.c _≤rpJ m.c r;rw [jt];unfold rpJ;rw [if_neg (by simp)];exact Int.le_refl _
      · rw [hk];show rpR m.c m.M _+1≤rpR m.c m.M r;rw [rt];unfold rpR;simp<;>omega
    · rw [e];simp only [hl.lk h0,Bool.false_eq_true,if_false]
      by_cases h1:m.c.sl≤r.look.at_+1
      · simp only [decide_eq_true h1,if_true]
        refine YV (m1:=m) q0 hwl hs (.stay ?_ ?_)
        · rw [hk];show 0≤rpJ m.c r;rw [jt];omega
        · rw [hk];show tFq m.c+1≤rpR m.c m.M r;rw [rt];omega
      · simp only [decide_eq_false h1,Bool.false_eq_true,if_false]
        refine Xz (m1:=m) hwl hs (.stay ?_ ?_)
        · rw [hk];show rpJ m.c _≤rpJ m.c r;rw [jt];unfold rpJ;rw [if_neg (by simp only;omega)];simp only;omega
        · rw [hk];show rpR m.c m.M _+1≤rpR m.c m.M r;rw [rt];unfold rpR;simp only [h0,if_true];omega
    · rw [e];simp only [hl.lk h0,Bool.false_eq_true,if_false,if_true]
      refine YV (m1:=m) q0 hwl hs (.stay ?_ ?_)
      · rw [hk];show 0≤rpJ m.c r;rw [jt];omega
      · rw [hk];show tFq m.c+1≤rpR m.c m.M r;rw [rt];omega
  · rw [if_neg (by omega),if_pos h0]
    have jt:rpJ m.c r=m.c.sl - r.look.at_:=by unfold rpJ;rw [if_neg (by omega)]
    have rt:rpR m.c m.M r=7*(m.c.sl - r.look.at_)+tFq m.c+1:=by unfold rpR;rw [if_neg (by omega),if_pos h0]
    obtain ⟨f1,f2,s,f3,f4,f5⟩:=hl.fd (by omega)
    simp only
    split
    · refine Xz (m1:=m.Qs.1) hwl hs (.stay ?_ ?_)
      · rw [hk];show rpJ m.c _≤rpJ m.c r;rw [jt];unfold rpJ;rw [if_neg (by simp)];exact Int.le_refl _
      · rw [hk];show rpR m.c m.M _+1≤rpR m.c m.M r;rw [rt];unfold rpR;simp<;>omega
    · refine Xz (m1:=m.Qs.1) hwl hs (.stay ?_ ?_)
      · rw [hk];show rpJ m.c _≤rpJ m.c r;rw [jt];unfold rpJ;simp [QM.rt,Ji,rJ]
      · rw [hk];show rpR m.c m.M _+1≤rpR m.c m.M r;rw [rt];unfold rpR;simp [QM.rt,Ji]<;>omega
  · rw [if_neg (by omega),if_neg (by omega),if_pos h0]
    have jt:rpJ m.c r=m.c.sl - r.look.at_:=by unfold rpJ;rw [if_neg (by omega)]
    have rt:rpR m.c m.M r=7*(m.c.sl - r.look.at_)+tFq m.c:=by unfold rpR;rw [if_neg (by omega),if_neg (by omega),if_pos h0]
    obtain ⟨f1,f2,s,f3,f4,f5⟩:=hl.fd (by omega)
    have jt':rpJ m.c r.J5=m.c.sl - r.look.at_ - 1:=by unfold rpJ;rw [if_neg (by simp [QM.J5]),goAt f1];omega
    have rt':∀M',rpR m.c M' r.J5=7*(m.c.sl - r.look.at_)+tFq m.c - 5:=fun M'=>by unfold rpR;rw [if_pos (show r.J5.st=0 from rfl),goAt f1];omega
    have G0:Gg m.c m.M m.M (rpJ m.c r) (rpJ m.c r.J5) (rpR m.c m.M r) (rpR m.c m.M r.J5):=.stay (by omega) (by rw [rt,rt'];omega)
    cases ha:J6 r.look.word 10 w 0 with
    |none=>
     simp only
     refine Xz (m1:=m) hwl hs ?_
     rw [hk];exact G0
    |some x=>
     obtain ⟨s',hds,hu,he⟩:=JB ha
     obtain ⟨u,nx⟩:=x
     simp only at hu he ⊢
     subst he
     cases hc:Qv m.M (Q5 m.c r.look.at_) r.look.word with
     |true=>
      refine Xz (m1:={m with M:=QL m.M (Q5 m.c r.look.at_) r.look.word u.enc}) hwl hs ?_
      rw [hk]
      refine h.mem.XJ hds hu hc _ _ ?_
      show qS u+rpJ m.c r.J5+1≤qS s'+rpJ m.c r
      rw [(Kh hu).1 (by simp),jt,jt'];omega
     |false=>
      rw [Zy hc]
      refine Xz (m1:=m) hwl hs ?_
      rw [hk];exact G0
  · rw [if_neg (by omega),if_neg (by omega),if_neg (by omega)]
    obtain ⟨f1,f2, -⟩:=hl.fd (by omega)
    obtain ⟨t,ht,hlt⟩:=hl.rt h0
    have er:r.rt=t:=by unfold QM.rt;rw [ht];rfl
    have hS:=YE r.rt m.M (by rw [er];exact hlt.nd)
    generalize Qn r.rt m.M=x at*
    obtain ⟨t',M'⟩:=x
    simp only at hS ⊢
    rw [er] at hS
    have jt:rpJ m.c r=m.c.sl - r.look.at_+rJ t:=by unfold rpJ;rw [if_pos h0,er]
    have jg:∀b:Int,rpJ m.c ({r with ret:=some t',many:=b}:QM).J5=m.c.sl - r.look.at_ - 1:=fun b=>by
     unfold rpJ;rw [if_neg (by simp [QM.J5])];show m.c.sl - r.look.go.at_=_;unfold Qi.go;rw [if_pos f1];simp only;omega
    have j0:=KO t
    have e2:t'.done=false→t'.st≠.swap:=by
     intro d
     cases hS with
     |lost g1=>simp [J4.fin] at d
     |swap s u g1=>simp
     |look g1=>simp
     |stale g1=>simp
     |age s u g1=>simp
     |J5 g1=>simp [J4.fin] at d
    rcases KH h.mem hn hlt ⟨ha.1,f2⟩ (fun s hs=>.inl hs) hS with ⟨d,a,b⟩|⟨d,rfl,a,b,e⟩|⟨d,d2,a,b, -⟩|⟨d,d2,rfl,a,b⟩
    · rw [d]
      simp only [Bool.false_eq_true,if_false]
      refine Xz (m1:={m with M:=M'}) hwl hs (.inl ⟨a, ?_⟩)
      rw [hk]
      show QS m.c M'+rpJ m.c {r with ret:=some t'}+1≤QS m.c m.M+rpJ m.c r
      have:rpJ m.c {r with ret:=some t'}=m.c.sl - r.look.at_+rJ t':=by unfold rpJ;rw [if_pos h0];rfl
      rw [this,jt];omega
    · rw [d]
      simp only [Bool.false_eq_true,if_false]
      refine Xz (m1:=m) hwl hs (.stay ?_ ?_)
      · rw [hk]
        show rpJ m.c {r with ret:=some t'}≤rpJ m.c r
        have:rpJ m.c {r with ret:=some t'}=m.c.sl - r.look.at_+rJ t':=by unfold rpJ;rw [if_pos h0];rfl
        rw [this,jt];omega
      · rw [hk]
        show rpR m.c m.M {r with ret:=some t'}+1≤rpR m.c m.M r
        have e1:rpR m.c m.M r=rR m.c m.M r.look.at_ t 0:=by unfold rpR;rw [if_neg (by omega),if_neg (by omega),if_neg (by omega),er,if_neg a]
        have e3:rpR m.c m.M {r with ret:=some t'}=rR m.c m.M r.look.at_ t' 0:=by
         unfold rpR;rw [if_neg (by simp only;omega),if_neg (by simp only;omega),if_neg (by simp only;omega),if_neg (by exact e2 d)];rfl
        rw [e1,e3];exact e _ _
    · rw [d]
      simp only [if_true]
      refine Xz (m1:={m with M:=M'}) hwl hs (.inl ⟨a, ?_⟩)
      rw [hk]
      show QS m.c M'+rpJ m.c (QM.J5 _)+1≤QS m.c m.M+rpJ m.c r
      rw [jg,jt];omega
    · rw [d]
      simp only [if_true]
      refine Xz (m1:=m) hwl hs (.stay ?_ ?_)
      · rw [hk]
        show rpJ m.c (QM.J5 _)≤rpJ m.c r
        rw [jg,jt];omega
      · rw [hk]
        show rpR m.c m.M (QM.J5 _)+1≤rpR m.c m.M r
        have e1:rpR m.c m.M r=7*(m.c.sl - r.look.at_)+tFq m.c:=by unfold rpR;rw [if_neg (by omega),if_neg (by omega),if_neg (by omega),er,if_pos a]
        rw [e1]
        unfold rpR;rw [if_pos (show (QM.J5 _).st=0 from rfl)]
        show 7*(m.c.sl - r.look.go.at_)+tFq m.c+2+1≤_
        unfold Qi.go;rw [if_pos f1];simp only;omega
 |close force drain=>
  rw [hk] at hl
  obtain ⟨ho,hl⟩:=hl
  cases drain with
  |some q=>
   obtain ⟨hq,hqn⟩:=hl q rfl
   simp only
   obtain ⟨G1,G2⟩:=q_go h.mem hq
   have b0:qB m.c q=0:=by unfold qB;rcases hqn with x|x|x<;>rw [x]
   by_cases hd:(Qp m.c q m.M).1.nx.isDone=true
   · rw [if_pos hd]
     refine YV (m1:={m with M:=(Qp m.c q m.M).2}) q0 hwl hs ?_
     have G:=G2 hd
     rw [b0] at G
     rw [hk];exact G
   · rw [if_neg hd]
     refine Xz (m1:={m with M:=(Qp m.c q m.M).2}) hwl hs ?_
     have G:=G1 (by simpa using hd)
     have b1:qB m.c (Qp m.c q m.M).1=0:=by unfold qB;rcases Gw hqn hd with x|x|x<;>rw [x]
     rw [b0,b1] at G
     rw [hk];exact G
  |none=>
   simp only
   have h00:(0:Int)<m.M.length:=by unfold Q0.cells at len;omega
   have G:Same m.c m.M (if force=true then QA m.M 0 2 else QL m.M 0 0 1):=by
    cases force with
    |true=>
     simp only [if_true]
     rw [JG (by omega) h00]
     exact h.mem.ZE (.inl rfl) (by omega)
    |false=>
     simp only [Bool.false_eq_true,if_false]
     cases hc:Qv m.M 0 0 with
     |false=>rw [Zy hc];exact Same.refl
     |true=>
      have e:QL m.M 0 0 1=m.M.set (0:Int).toNat 1:=by unfold QL;rw [if_pos hc]
      rw [e];exact h.mem.ZE (.inl rfl) (by omega)
   refine Xz (m1:={m with M:=if force=true then QA m.M 0 2 else QL m.M 0 0 1}) hwl hs (.inr (.inr ⟨G, ?_, ?_⟩))
   · rw [hk];exact Int.le_refl _
   · rw [hk];show tFq m.c+2+1≤tFq m.c+3;omega
 |stats t=>
  rw [hk] at hl
  obtain ⟨ho,hl⟩:=hl
  simp only
  obtain ⟨a,b,d⟩:=tw_go h.mem hl
  by_cases hd:(QD m.c t m.M).d=true
  · rw [if_pos hd]
    refine YV (m1:=m) q0 hwl hs (.stay ?_ ?_)
    · rw [hk];exact Int.le_refl _
    · rw [hk];show tFq m.c+1≤twR m.c m.M t+tFq m.c+1;omega
  · rw [if_neg hd]
    have:=(a (by simpa using hd)).2.2
    refine Xz (m1:=m) hwl hs (.stay ?_ ?_)
    · rw [hk];exact Int.le_refl _
    · rw [hk];show twR m.c m.M _+tFq m.c+1+1≤twR m.c m.M t+tFq m.c+1;omega
end
section
variable {n:Int} {m m':Qb} {w:Nat} {c:Q0} {M M':List Int} {k:Q9}
theorem Vu {m1:Qb} {k':Q9} (hw:w<m1.ws.length) (h5:k'.st=5) (ht:k'.ti=some (QG w)) (g:Gg m.c m.M m1.M (wJ m.c m.M (m.wk w)) 2 (wR m.c m.M (m.wk w)) (tFq m.c)):SGo m (m1.setW w k') w:=
 Xm hw (.inr (.inr (by
  obtain ⟨a,b⟩:=new5 (c:=m.c) (M:=m1.M) (k:=k') (w:=w) h5 ht
  rw [a,b];exact g)))
theorem wl_any (h:Qm c n M) {who:Int} (hx:(V9 c M).any (fun x=>JA x 3 who)=true):wlB c M 1 0=true:=by
 rw [List.any_eq_true] at hx
 obtain ⟨x,hm,hf⟩:=hx
 unfold V9 at hm
 rw [List.mem_map] at hm
 obtain ⟨i,hi,rfl⟩:=hm
 rw [List.mem_range] at hi
 obtain ⟨-, -,f⟩:=h.Yt (by omega) (by omega) hf
 rw [DZ]
 refine ⟨i,by omega, ?_⟩
 unfold JX at f
 rw [if_neg (by omega),if_neg (by omega),if_neg (by omega),if_pos rfl,Bool.or_eq_true] at f
 rcases f with f|f
 · exact .inl ⟨.inl rfl,f⟩
 · exact .inr ⟨.inl (by omega),f⟩
theorem Q5h (h:MInv n m) (hn:n≤1000000000) (hw:(w:Int)<m.c.wo) (hs:(m.wk w).st=3):SGo m (Xx m w) w:=by
 have L:=h.wk w hw
 have hwl:w<m.ws.length:=by have:=h.wl;omega
 have wo:=h.mem.cf.1;have sl:=h.mem.cf.2.1
 have q0:0≤Qw m.c:=by unfold Qw;omega
 have kp:=Zj h.mem
 obtain ⟨t,ht,hlt⟩:=L.tw hs
 unfold Xx
 simp only [ht,Option.getD_some]
 obtain ⟨a,b,d⟩:=tw_go h.mem hlt
 have r0:cR m.c m.M t=wR m.c m.M (m.wk w):=(Q7J hs ht).symm
 have j0:wJ m.c m.M (m.wk w)=m.c.sl+6+(2+2*Qw m.c):=Ky (by omega)
 unfold cR at r0
 by_cases hd:(QD m.c t m.M).d=true
 · rw [if_pos hd]
   split
   · rename_i hx
     refine Xm (m1:=m) hwl (.inr (.inr (.stay ?_ ?_)))
     · rw [j0,Q04 (by rfl)]
       show kJ m.c (J8 w)+_≤_
       rw [ZH (by simp [J8])];omega
     · rw [Q03 (by rfl),←r0]
       show kR m.c m.M (J8 w)+1≤_
       have e:kR m.c m.M (J8 w)=3*m.c.sl+4+tFq m.c+wlY m.c m.M 1 0:=by unfold kR;rw [if_pos (show (J8 (w:Int)).st=0 from rfl)]
       rw [e]
       by_cases p:ZF m.c m.M t
       · rw [if_pos p]
         rw [b hd p] at hx
         have:wlY m.c m.M 1 0=0:=by unfold wlY;rw [if_pos (wl_any h.mem hx)]
         omega
       · rw [if_neg p]
         have:=(K6 h.mem 1 0).2
         unfold kY at this;omega
   · refine Vu (m1:=m) hwl rfl rfl (.stay (by omega) ?_)
     rw [←r0]
     split<;>omega
 · rw [if_neg hd]
   obtain ⟨a1, -,a3⟩:=a (by simpa using hd)
   refine Xm (m1:=m) hwl (.inr (.inr (.stay ?_ ?_)))
   · rw [j0,Ky (.inr (.inl (by exact hs)))];omega
   · rw [Q7J (t:=QD m.c t m.M) (by exact hs) rfl,←r0]
     unfold cR
     by_cases p:ZF m.c m.M t
     · rw [if_pos p,if_pos (a1 p)];omega
     · rw [if_neg p];split<;>omega
theorem Q55 (h:MInv n m) (hn:n≤1000000000) (hw:(w:Int)<m.c.wo) (hs:(m.wk w).st=4):SGo m (Xw m w) w:=by
 have L:=h.wk w hw
 have hwl:w<m.ws.length:=by have:=h.wl;omega
 obtain ⟨q,hq,hlq⟩:=L.en hs
 unfold Xw
 simp only [hq,Option.getD_some]
 obtain ⟨G1,G2⟩:=q_go h.mem hlq
 have j0:=Q7O (c:=m.c) (M:=m.M) hs hq
 have r0:=Q02 (c:=m.c) (M:=m.M) (.inl hs) hq
 by_cases hd:(Qp m.c q m.M).1.nx.isDone=true
 · rw [if_pos hd]
   have G:Gg m.c m.M (Qp m.c q m.M).2 (wJ m.c m.M (m.wk w)) 2 (wR m.c m.M (m.wk w)) (tFq m.c):=by
    rw [j0,r0];exact ((G2 hd).shift (d:=2) (d':=2) (e:=0) (Int.le_refl _)).le (Int.le_refl _) (by omega) (by omega) (by omega)
   split
   · exact Vu (m1:={m with M:=(Qp m.c q m.M).2}) hwl rfl rfl G
   · exact Vu (m1:={m with M:=(Qp m.c q m.M).2}) hwl rfl rfl G
 · rw [if_neg hd]
   refine Xm (m1:={m with M:=(Qp m.c q m.M).2}) hwl (.inr (.inr ?_))
   rw [j0,r0,Q7O (q:=(Qp m.c q m.M).1) (by exact hs) rfl,Q02 (q:=(Qp m.c q m.M).1) (.inl (by exact hs)) rfl]
   exact ((G1 (by simpa using hd)).shift (d:=2) (d':=2) (e:=0) (Int.le_refl _)).le (Int.le_refl _) (Int.le_refl _) (by omega) (by show qR m.c (Qp m.c q m.M).2 _≤_;omega)
theorem Q4S (h:MInv n m) (hn:n≤1000000000) (hw:(w:Int)<m.c.wo) (hs:(m.wk w).st=8):SGo m (JV m w) w:=by
 have L:=h.wk w hw
 have hwl:w<m.ws.length:=by have:=h.wl;omega
 have wo:=h.mem.cf.1
 have q0:0≤Qw m.c:=by unfold Qw;omega
 obtain ⟨q,hq,hlq,hnx,hwhy⟩:=L.le hs
 unfold JV
 simp only [hq,Option.getD_some]
 have b0:qB m.c q=0:=by unfold qB;rcases hnx with x|x<;>rw [x]
 obtain ⟨G1,G2⟩:=q_go h.mem hlq
 rw [b0] at G1 G2
 have j0:=Q7M (c:=m.c) (M:=m.M) hs
 have r0:=Q02 (c:=m.c) (M:=m.M) (.inr hs) hq
 by_cases hd:(Qp m.c q m.M).1.nx.isDone=true
 · rw [if_pos hd]
   split
   · exact Xm (m1:={m with M:=(Qp m.c q m.M).2}) hwl (.inr (.inl rfl))
   · refine Vu (m1:={m with M:=(Qp m.c q m.M).2}) hwl rfl rfl ?_
     rw [j0,r0];exact ((G2 hd).shift (d:=2+2*Qw m.c) (d':=2) (e:=0) (by omega)).le (by omega) (by omega) (by omega) (by omega)
 · rw [if_neg hd]
   refine Xm (m1:={m with M:=(Qp m.c q m.M).2}) hwl (.inr (.inr ?_))
   rw [j0,r0,Q7M (by exact hs),Q02 (q:=(Qp m.c q m.M).1) (.inr (by exact hs)) rfl]
   have hb:0≤qB m.c (Qp m.c q m.M).1:=by unfold qB;split<;>omega
   exact ((G1 (by simpa using hd)).shift (d:=2+2*Qw m.c) (d':=2+2*Qw m.c) (e:=0) (Int.le_refl _)).le (by omega) (by omega) (by omega) (by show qR m.c (Qp m.c q m.M).2 _≤_;omega)
theorem Q5D (h:MInv n m) (hn:n≤1000000000) (hw:(w:Int)<m.c.wo) (hs:(m.wk w).st=7):SGo m (X9 m w) w:=by
 have hwl:w<m.ws.length:=by have:=h.wl;omega
 have wo:=h.mem.cf.1;have sl:=h.mem.cf.2.1;have len:=h.mem.len
 have q0:0≤Qw m.c:=by unfold Qw;omega
 have kp:=Zj h.mem
 have j0:wJ m.c m.M (m.wk w)=m.c.sl+6+(2+2*Qw m.c):=Ky (by omega)
 have r0:=Q7H (c:=m.c) (M:=m.M) hs
 unfold X9
 simp only
 cases hf:(m.wk w).half with
 |false=>
  rw [hf] at r0
  simp only [if_true]
  refine Xm (m1:=m) hwl (.inr (.inr (.stay ?_ ?_)))
  · rw [j0,Ky (.inr (.inr (.inr (by exact hs))))];omega
  · rw [r0,Q7H (by exact hs)];simp;omega
 |true=>
  rw [hf] at r0
  simp only [Bool.true_eq_false,if_false]
  have e:QA m.M (3+m.c.wo+(w:Int)) 0=m.M.set (3+m.c.wo+(w:Int)).toNat 0:=JG (by omega) (by unfold Q0.cells at*;omega)
  rw [e]
  have S:=h.mem.ZE (j:=3+m.c.wo+(w:Int)) (v:=0) (by omega) (by omega)
  split
  · refine Vu (m1:={m with M:=_}) hwl rfl rfl (.inr (.inr ⟨S,by omega, ?_⟩))
    rw [r0];simp;unfold pR;omega
  · refine Xm (m1:={m with M:=_}) hwl (.inr (.inr (.inr (.inr ⟨S, ?_, ?_⟩))))
    · rw [j0,Ky (.inl rfl)];omega
    · rw [r0,Q7K rfl];simp;omega
theorem Q3S (h:MInv n m) (hn:n≤1000000000) (hw:(w:Int)<m.c.wo) (hs:(m.wk w).st=5):SGo m (Xl m w) w:=by
 have L:=h.wk w hw
 have hwl:w<m.ws.length:=by have:=h.wl;omega
 obtain ⟨t,ht,hlt⟩:=L.ti hs
 unfold Xl
 simp only [ht,Option.getD_some]
 have hS:=WW m.c w n (Js m.M) t m.M hlt
 generalize Qk m.c t m.M=x at*
 obtain ⟨t',M'⟩:=x
 simp only at hS ⊢
 by_cases h17:t'.st=17
 · rw [if_pos h17]
   split
   · exact Xm (m1:={m with M:=M'}) hwl (.inr (.inl rfl))
   · exact Xm (m1:={m with M:=M',evs:=_}) hwl (.inl rfl)
 · rw [if_neg h17]
   have G:=Q7R h.mem hn hlt hS h17
   refine Xm (m1:={m with M:=M'}) hwl (.inr (.inr ?_))
   rw [Q7N hs ht,Q7I hs ht,Q7N (t:=t') (by exact hs) rfl,Q7I (t:=t') (by exact hs) rfl]
   exact G
theorem Q8D (h:MInv n m) (k:Q9):jJ m.c (Kj m.c w k)≤m.c.sl+6∧∀M',Qm m.c n M'∨Qm m.c (n+1) M'→jR m.c M' (Kj m.c w k)≤pR m.c:=by
 have wo:=h.mem.cf.1;have sl:=h.mem.cf.2.1
 have kp:=Zj h.mem
 unfold Kj
 split
 · split
   · exact ⟨by show kJ _ _≤_;rw [ZH (by simp [QX])];omega,fun M' _=>by show kR _ _ _≤_;unfold kR pR;simp [QX];omega⟩
   · refine ⟨by show kJ _ _≤_;rw [ZH (by simp [J8])];omega,fun M' hm=> ?_⟩
     have:wlY m.c M' 1 0≤kY m.c:=by
      rcases hm with hm|hm
      · exact (K6 hm 1 0).2
      · exact (K6 hm 1 0).2
     show kR _ _ _≤_
     unfold kR pR kY at*;simp [J8];omega
 split
 · exact ⟨by show gJ _≤_;rw [G7 (by simp [Jv])];omega,fun M' _=>by show gR _ _ _≤_;unfold gR pR;simp [Jv];omega⟩
 split
 · exact ⟨by show gJ _≤_;rw [G7 (by simp [Jv])];omega,fun M' _=>by show gR _ _ _≤_;unfold gR pR;simp [Jv];omega⟩
 split
 · exact ⟨by show (1:Int)≤_;omega,fun M' _=>by show sR _ _ _≤_;unfold sR pR;simp [JE];omega⟩
 split
 · exact ⟨by show (1:Int)≤_;omega,fun M' _=>by show sR _ _ _≤_;unfold sR pR;simp [JE];omega⟩
 split
 · exact ⟨by show rpJ _ _≤_;unfold rpJ;simp [XV,QF];omega,fun M' _=>by show rpR _ _ _≤_;unfold rpR pR;simp [XV,QF];omega⟩
 split
 · exact ⟨by show (0:Int)≤_;omega,fun M' _=>by show tFq m.c+3≤_;unfold pR;omega⟩
 · exact ⟨by show (0:Int)≤_;omega,fun M' _=>by
    show twR m.c M' Y0+tFq m.c+1≤_
    have p:ZF m.c M' Y0:=⟨rfl,by simp [Y0]⟩
    unfold twR;rw [if_pos p];simp [Y0];unfold pR;omega⟩
theorem Q8o (h:MInv n m) (hn:n≤1000000000) (hw:(w:Int)<m.c.wo) (hs:(m.wk w).st=1):SGo m ({m with M:=(ZR (m.wk w) m.c w m.M).2}.setW w (ZR (m.wk w) m.c w m.M).1) w:=by
 have L:=h.wk w hw
 have hwl:w<m.ws.length:=by have:=h.wl;omega
 have wo:=h.mem.cf.1;have sl:=h.mem.cf.2.1;have len:=h.mem.len
 have j0:wJ m.c m.M (m.wk w)=m.c.sl+6+(2+2*Qw m.c):=Ky (by omega)
 have r0:=Q7K (c:=m.c) (M:=m.M) hs
 unfold ZR
 cases hf:(m.wk w).half with
 |false=>
  rw [hf] at r0
  simp only [if_true]
  refine Xm (m1:=m) hwl (.inr (.inr (.stay ?_ ?_)))
  · rw [j0,Ky (.inl (by exact hs))];omega
  · rw [r0,Q7K (by exact hs)];simp;omega
 |true=>
  rw [hf] at r0
  simp only [Bool.true_eq_false,if_false]
  have hwd:=L.pin hs hf
  have e:QA m.M (3+(w:Int)) ((m.wk w).word+1)=m.M.set (3+(w:Int)).toNat ((m.wk w).word+1):=JG (by omega) (by unfold Q0.cells at*;omega)
  rw [e]
  have S:=h.mem.ZE (j:=3+(w:Int)) (v:=(m.wk w).word+1) (by omega) (by omega)
  have st:=h.mem.Vi (j:=3+(w:Int)) (v:=(m.wk w).word+1) (by omega) (by omega) (by omega) (by omega) (by omega) (by omega) (by omega)
  obtain ⟨a,b⟩:=Q8D (w:=w) h (m.wk w)
  refine Xm (m1:={m with M:=_}) hwl (.inr (.inr (.inr (.inr ⟨S, ?_, ?_⟩))))
  · rw [j0,Q04 (by rfl)];simp only;omega
  · have:=b _ (.inr st.ok)
    rw [r0,Q03 (by rfl)];simp only [if_true];omega
theorem Wu (hwl:w<m.ws.length) (k0:Q9):(m.setW w k0).wk w=k0:=Ze hwl k0
theorem Q7X (h:MInv n m) (hn:n≤1000000000) (hw:(w:Int)<m.c.wo) (h0:(m.wk w).st≠0):SGo m (QJ m w) w:=by
 have L:=h.wk w hw
 have hwl:w<m.ws.length:=by have:=h.wl;omega
 have wo:=h.mem.cf.1;have sl:=h.mem.cf.2.1
 have q0:0≤Qw m.c:=by unfold Qw;omega
 have kp:=Zj h.mem
 have hs:(m.wk w).st=1∨(m.wk w).st=2∨(m.wk w).st=3∨(m.wk w).st=4∨(m.wk w).st=5∨(m.wk w).st=6∨(m.wk w).st=7∨(m.wk w).st=8:=by have:=L.s0;have:=L.s1;omega
 unfold QJ
 simp only
 rcases hs with hs|hs|hs|hs|hs|hs|hs|hs
 · rw [if_pos hs];exact Q8o h hn hw hs
 · rw [if_neg (by omega),if_pos hs];exact Q5A h hn hw hs
 · rw [if_neg (by omega),if_neg (by omega),if_pos hs];exact Q5h h hn hw hs
 · rw [if_neg (by omega),if_neg (by omega),if_neg (by omega),if_pos hs];exact Q55 h hn hw hs
 · rw [if_neg (by omega),if_neg (by omega),if_neg (by omega),if_neg (by omega),if_pos hs];exact Q3S h hn hw hs
 · rw [if_neg (by omega),if_neg (by omega),if_neg (by omega),if_neg (by omega),if_neg (by omega),if_pos hs]
   unfold XW
   simp only
   have hh:=L.half (by omega) (by omega)
   have j0:wJ m.c m.M (m.wk w)=m.c.sl+6+(2+2*Qw m.c):=Ky (by omega)
   have r0:=wR_6 (c:=m.c) (M:=m.M) hs
   split
   · unfold X9
     simp only [Wu hwl]
     rw [if_pos hh,Y9]
     refine Xm (m1:=m) hwl (.inr (.inr (.stay ?_ ?_)))
     · rw [j0,Ky (.inr (.inr (.inr rfl)))];omega
     · rw [r0,Q7H rfl];simp;omega
   · have e:JV (m.setW w {(m.wk w) with qu:=some (Jc w),st:=8}) w=m.setW w (if (w:Int)∈mQ m.M then {(m.wk w) with st:=8,qu:=some {Jc w with line:=mQ m.M,nx:=.drop}} else {(m.wk w) with qu:=some {Jc w with line:=mQ m.M,e:=8,nx:=.done},timed:=false,st:=6}):=by
      have q:Qp m.c (Jc w) m.M=(if (w:Int)∈mQ m.M then {Jc w with line:=mQ m.M,nx:=.drop} else {Jc w with line:=mQ m.M,e:=8,nx:=.done},m.M):=rfl
      have q2:∀X,Qp (m.setW w X).c (Jc w) (m.setW w X).M=(if (w:Int)∈mQ m.M then {Jc w with line:=mQ m.M,nx:=.drop} else {Jc w with line:=mQ m.M,e:=8,nx:=.done},m.M):=fun X=>q
      unfold JV
      simp only [Wu hwl,Option.getD_some,q2]
      show Qb.setW (Qb.setW m w _) w _=_
      rw [Y9]
      by_cases hi:(w:Int)∈mQ m.M
      · simp only [if_pos hi,QSt.isDone,Bool.false_eq_true,if_false]
      · simp only [if_neg hi,QSt.isDone,if_true]
     rw [e]
     refine Xm (m1:=m) hwl ?_
     by_cases hi:(w:Int)∈mQ m.M
     · rw [if_pos hi]
       refine .inr (.inr (.stay ?_ ?_))
       · rw [j0,Q7M rfl];omega
       · rw [r0,Q02 (.inr rfl) rfl];unfold qR pR;simp;omega
     · rw [if_neg hi];exact .inr (.inl rfl)
 · rw [if_neg (by omega),if_neg (by omega),if_neg (by omega),if_neg (by omega),if_neg (by omega),if_neg (by omega),if_pos hs];exact Q5D h hn hw hs
 · rw [if_neg (by omega),if_neg (by omega),if_neg (by omega),if_neg (by omega),if_neg (by omega),if_neg (by omega),if_neg (by omega),if_pos hs];exact Q4S h hn hw hs
end
end Go.Proofs.YtgjklfmnmljilaaGreatDoor
