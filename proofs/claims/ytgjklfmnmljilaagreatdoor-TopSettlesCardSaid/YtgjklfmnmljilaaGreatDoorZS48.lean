/- A part of the proof: TqS to TqT. -/
import Derived.Test.YtgjklfmnmljilaaGreatDoorZS47
namespace Go.Proofs.YtgjklfmnmljilaaGreatDoor
set_option linter.unusedVariables false
set_option linter.unusedSimpArgs false
set_option linter.unusedSectionVars false
set_option linter.unnecessarySimpa false
set_option maxRecDepth 100000
set_option maxHeartbeats 8000000
section
variable {n:Int} {m m':Qb} {w:Nat} {c:Q0} {M M':List Int} {k:Q9}
def WX (k:Q9):Prop:=k.st=7→k.half=true∧k.word≠0
def UL (t:Qd):Int:=if t.st=9∨t.st=10∨t.st=11∨t.st=12∨t.st=13∨t.st=14∨t.st=5∨t.st=6 then 1 else 3
def Ui:Yo→Int
 |.get t=>UL t
 |_=>1
def rho (k:Q9):Int:=
 if k.st=0 then 0
 else if k.st=1 then (if 0<k.grant then 1 else 3)
 else if k.st=2 then Ui k.work
 else if k.st=3∨k.st=4 then 3
 else if k.st=5 then (if k.parks then (if k.timed then 3 else 2) else 1)
 else if k.st=6 then (if k.timed then 2 else 1)
 else if k.st=7 then 1
 else 2
theorem Q7U (t:Qd):1≤UL t∧UL t≤3:=by unfold UL;split<;>omega
theorem ED (j:Yo):1≤Ui j∧Ui j≤3:=by cases j<;>first|exact Q7U _|(simp [Ui])
theorem Ke (k:Q9):0≤rho k∧rho k≤3:=by
 have:=ED k.work
 unfold rho
 repeat' split
 all_goals omega
theorem Q64 (h:k.st≠0):1≤rho k:=by
 have:=ED k.work
 unfold rho
 rw [if_neg h]
 repeat' split
 all_goals omega
theorem rho_5 (h:k.st=5) (hp:k.parks=false):rho k=1:=by unfold rho;rw [if_neg (by omega),if_neg (by omega),if_neg (by omega),if_neg (by omega),if_pos h,hp];simp
theorem Q5O {t t':Qd} {good:Bool} (hl:t.live c w) (hS:TkS c M good t t' M'):(t'.st≠15→UL t'≤UL t)∧(t'.st=15→t'.e=3→UL t=3):=by
 obtain ⟨s0,s1, -⟩:=hl
 cases hS
 all_goals
  refine ⟨fun h15=> ?_,fun h15 h3=> ?_⟩
  · dsimp only [Qd.end_,Qd.search] at h15 ⊢
    unfold UL
    dsimp only
    repeat' split
    all_goals omega
  · dsimp only [Qd.end_,Qd.search] at h15 h3
    unfold UL
    split<;>(try split at h15)<;>omega
def RGo (m m':Qb) (w:Nat):Prop:=WX (m'.wk w)∧rho (m'.wk w)≤rho (m.wk w)∧((m'.wk w).st=0∨(m'.wk w).st=6→rho (m'.wk w)+1≤rho (m.wk w))
theorem Zf {m1:Qb} {k':Q9} (hw:w<m1.ws.length) (a:k'.st≠7) (b:k'.st≠0) (d:k'.st≠6) (e:rho k'≤rho (m.wk w)):RGo m (m1.setW w k') w:=by
 unfold RGo;rw [Ze hw];exact ⟨fun x=>absurd x a,e,fun x=>x.elim (fun y=>absurd y b) (fun y=>absurd y d)⟩
theorem KJ {m1:Qb} {k':Q9} (hw:w<m1.ws.length) (a:k'.st=0∨k'.st=6) (e:rho k'+1≤rho (m.wk w)):RGo m (m1.setW w k') w:=by
 unfold RGo;rw [Ze hw];exact ⟨fun x=>by omega,by omega,fun _=>e⟩
theorem Zg {m1:Qb} {k:Q9} {x:EvV} (hw:w<m1.ws.length) (h0:(m.wk w).st≠0):RGo m (m1.setW w (k.end_ w x)) w:=
 Zf hw (by simp [Q9.end_,Q9.QU]) (by simp [Q9.end_,Q9.QU]) (by simp [Q9.end_,Q9.QU]) (by rw [rho_5 rfl rfl];exact Q64 h0)
theorem ZM {m1:Qb} {j':Yo} (hw:w<m1.ws.length) (hs:(m.wk w).st=2) (e:Ui j'≤Ui (m.wk w).work):RGo m (m1.setW w {(m.wk w) with work:=j'}) w:=by
 refine Zf hw (by simp only;omega) (by simp only;omega) (by simp only;omega) ?_
 have R:∀k:Q9,k.st=2→rho k=Ui k.work:=fun k h=>by unfold rho;rw [if_neg (by omega),if_neg (by omega),if_pos h]
 rw [R _ hs,R _ (by exact hs)];exact e
theorem Q3I (h:MInv n m) (hw:(w:Int)<m.c.wo) (hs:(m.wk w).st=2):RGo m (Jb m w) w:=by
 have L:=h.wk w hw
 have hl:=L.wk hs
 have hwl:w<m.ws.length:=by have:=h.wl;omega
 have h0:(m.wk w).st≠0:=by omega
 have R2:rho (m.wk w)=Ui (m.wk w).work:=by unfold rho;rw [if_neg (by omega),if_neg (by omega),if_pos hs]
 unfold Jb
 simp only
 cases hk:(m.wk w).work with
 |none=>rw [hk] at hl;exact hl.elim
 |get t=>
  rw [hk] at hl R2
  obtain ⟨ho,hl⟩:=hl
  simp only
  obtain ⟨m1,good,e1⟩:∃m1 good,(if t.st=9 then m.Qs else (m,false))=(m1,good):=⟨_,_,rfl⟩
  have em:m1.ws=m.ws:=by
   split at e1
   · have e2:m1=m.Qs.1:=(congrArg Prod.fst e1).symm
     rw [e2];rfl
   · have e2:m1=m:=(congrArg Prod.fst e1).symm
     rw [e2]
  obtain ⟨x,hx⟩:∃x,Qf m.c t m.M good=x:=⟨_,rfl⟩
  obtain ⟨t',M'⟩:=x
  have hS:=K9 m.c w t m.M good hl
  rw [hx] at hS
  simp only at hS
  obtain ⟨G1,G2⟩:=Q5O hl hS
  unfold Xy
  simp only [e1,hx]
  have hw1:w<({m1 with M:=M'}:Qb).ws.length:=by show w<m1.ws.length;rw [em];exact hwl
  by_cases h15:t'.st=15
  · rw [if_pos h15]
    by_cases h3:t'.e=3
    · rw [if_pos h3]
      have G:=G2 h15 h3
      have e3:rho (m.wk w)=3:=by rw [R2];exact G
      split
      · exact Zf hw1 (by simp) (by simp) (by simp) (by rw [e3];exact (Ke _).2)
      · exact Zf hw1 (by simp) (by simp) (by simp) (by rw [e3];exact (Ke _).2)
    · rw [if_neg h3];exact Zg hw1 h0
  · rw [if_neg h15]
    refine ZM hw1 hs ?_
    rw [hk];exact G1 h15
 |give g=>
  simp only
  split
  · exact Zg (m1:={m with M:=_}) hwl h0
  · exact ZM (m1:={m with M:=_}) hwl hs (by rw [hk];exact Int.le_refl _)
 |strm s=>
  simp only
  split
  · exact Zg (m1:={m with M:=_}) hwl h0
  · exact ZM (m1:={m with M:=_}) hwl hs (by rw [hk];exact Int.le_refl _)
 |reap r=>
  simp only
  unfold QY
  simp only
  split
  · split
    · exact ZM (m1:=m) hwl hs (by rw [hk];exact Int.le_refl _)
    · split
      · exact Zg (m1:=m) hwl h0
      · exact ZM (m1:=m) hwl hs (by rw [hk];exact Int.le_refl _)
  · split
    · split
      · exact ZM (m1:=m.Qs.1) hwl hs (by rw [hk];exact Int.le_refl _)
      · exact ZM (m1:=m.Qs.1) hwl hs (by rw [hk];exact Int.le_refl _)
    · split
      · exact ZM (m1:={m with M:=_}) hwl hs (by rw [hk];exact Int.le_refl _)
      · refine ZM (m1:={m with M:=_}) hwl hs ?_
        rw [hk];exact Int.le_refl _
 |close force drain=>
  cases drain with
  |some q=>
   simp only
   split
   · exact Zg (m1:={m with M:=_}) hwl h0
   · exact ZM (m1:={m with M:=_}) hwl hs (by rw [hk];exact Int.le_refl _)
  |none=>exact ZM (m1:={m with M:=_}) hwl hs (by rw [hk];exact Int.le_refl _)
 |stats t=>
  simp only
  split
  · exact Zg (m1:=m) hwl h0
  · exact ZM (m1:=m) hwl hs (by rw [hk];exact Int.le_refl _)
theorem Q5S (h:MInv n m) (hw:(w:Int)<m.c.wo) (h0:(m.wk w).st≠0) (hx:WX (m.wk w)) (h6:(m.wk w).st=6→Xt m w=true):RGo m (QJ m w) w:=by
 have L:=h.wk w hw
 have hwl:w<m.ws.length:=by have:=h.wl;omega
 have hs:(m.wk w).st=1∨(m.wk w).st=2∨(m.wk w).st=3∨(m.wk w).st=4∨(m.wk w).st=5∨(m.wk w).st=6∨(m.wk w).st=7∨(m.wk w).st=8:=by have:=L.s0;have:=L.s1;omega
 unfold QJ
 simp only
 rcases hs with hs|hs|hs|hs|hs|hs|hs|hs
 · rw [if_pos hs]
   have r0:rho (m.wk w)=(if 0<(m.wk w).grant then 1 else 3):=by unfold rho;rw [if_neg (by omega),if_pos hs]
   unfold ZR
   split
   · refine Zf (m1:={m with M:=_}) hwl (by simp only;omega) (by simp only;omega) (by simp only;omega) ?_
     rw [r0];unfold rho;simp only;rw [if_neg (by omega),if_pos hs];exact Int.le_refl _
   · refine Zf (m1:={m with M:=_}) hwl (by simp) (by simp) (by simp) ?_
     rw [r0]
     have e:∀k:Q9,k.st=2→rho k=Ui k.work:=fun k h=>by unfold rho;rw [if_neg (by omega),if_neg (by omega),if_pos h]
     rw [e _ rfl]
     show Ui (Kj m.c w (m.wk w))≤_
     have b:=(ED (Kj m.c w (m.wk w))).2
     split
     · rename_i hg
       unfold Kj
       rw [if_pos hg]
       repeat' split
       all_goals first|exact Int.le_refl _|(simp [Ui,UL,QX])
     · exact b
 · rw [if_neg (by omega),if_pos hs];exact Q3I h hw hs
 · rw [if_neg (by omega),if_neg (by omega),if_pos hs]
   have r0:rho (m.wk w)=3:=by unfold rho;rw [if_neg (by omega),if_neg (by omega),if_neg (by omega),if_pos (.inl hs)]
   unfold Xx
   simp only
   split
   · split
     · exact Zf (m1:=m) hwl (by simp) (by simp) (by simp) (by rw [r0];exact (Ke _).2)
     · exact Zg (m1:=m) hwl h0
   · exact Zf (m1:=m) hwl (by simp only;omega) (by simp only;omega) (by simp only;omega) (by rw [r0];exact (Ke _).2)
 · rw [if_neg (by omega),if_neg (by omega),if_neg (by omega),if_pos hs]
   have r0:rho (m.wk w)=3:=by unfold rho;rw [if_neg (by omega),if_neg (by omega),if_neg (by omega),if_pos (.inr hs)]
   unfold Xw
   simp only
   split
   · split
     · exact Zg (m1:={m with M:=_}) hwl h0
     · exact Zf (m1:={m with M:=_}) hwl (by simp [Q9.QU]) (by simp [Q9.QU]) (by simp [Q9.QU]) (by rw [r0];exact (Ke _).2)
   · exact Zf (m1:={m with M:=_}) hwl (by simp only;omega) (by simp only;omega) (by simp only;omega) (by rw [r0];exact (Ke _).2)
 · rw [if_neg (by omega),if_neg (by omega),if_neg (by omega),if_neg (by omega),if_pos hs]
   have r0:rho (m.wk w)=(if (m.wk w).parks then (if (m.wk w).timed then 3 else 2) else 1):=by unfold rho;rw [if_neg (by omega),if_neg (by omega),if_neg (by omega),if_neg (by omega),if_pos hs]
   unfold Xl
   simp only
   split
   · split
     · rename_i hp
       refine KJ (m1:={m with M:=_}) hwl (.inr rfl) ?_
       rw [r0,if_pos hp]
       have e:∀k:Q9,k.st=6→rho k=(if k.timed then 2 else 1):=fun k h=>by unfold rho;rw [if_neg (by omega),if_neg (by omega),if_neg (by omega),if_neg (by omega),if_neg (by omega),if_pos h]
       rw [e _ rfl]
       simp only
       split<;>omega
     · rename_i hp
       refine KJ (m1:={m with M:=_,evs:=_}) hwl (.inl rfl) ?_
       rw [r0,if_neg hp];unfold rho;simp
   · refine Zf (m1:={m with M:=_}) hwl (by simp only;omega) (by simp only;omega) (by simp only;omega) ?_
     rw [r0];unfold rho;simp only [hs];simp
 · rw [if_neg (by omega),if_neg (by omega),if_neg (by omega),if_neg (by omega),if_neg (by omega),if_pos hs]
   have r0:rho (m.wk w)=(if (m.wk w).timed then 2 else 1):=by unfold rho;rw [if_neg (by omega),if_neg (by omega),if_neg (by omega),if_neg (by omega),if_neg (by omega),if_pos hs]
   have hh:=L.half (by omega) (by omega)
   have r1:=Q64 h0
   unfold XW
   simp only
   split
   · rename_i hg
     unfold ZI at hg
     rw [decide_eq_true_eq] at hg
     unfold X9
     simp only [Wu hwl]
     rw [if_pos hh,Y9]
     unfold RGo
     rw [Ze hwl]
     refine ⟨fun _=>⟨rfl,hg⟩, ?_,fun x=>by simp at x⟩
     unfold rho;simp only;simp;split<;>omega
   · rename_i hg
     have ht:(m.wk w).timed=true:=by
      have:=h6 hs
      unfold Xt at this
      rw [Bool.or_eq_true,Bool.and_eq_true] at this
      exact (this.resolve_left hg).1
     rw [ht] at r0
     simp only [if_true] at r0
     unfold JV
     simp only [Wu hwl,Option.getD_some]
     split
     · split
       · show RGo m (Qb.setW (Qb.setW {m with M:=_} w _) w _) w
         rw [Y9]
         exact KJ (m1:={m with M:=_}) hwl (.inr rfl) (by rw [r0];unfold rho;simp)
       · show RGo m (Qb.setW (Qb.setW {m with M:=_} w _) w _) w
         rw [Y9]
         exact Zg (m1:={m with M:=_}) hwl h0
     · show RGo m (Qb.setW (Qb.setW {m with M:=_} w _) w _) w
       rw [Y9]
       exact Zf (m1:={m with M:=_}) hwl (by simp) (by simp) (by simp) (by rw [r0];unfold rho;simp)
 · rw [if_neg (by omega),if_neg (by omega),if_neg (by omega),if_neg (by omega),if_neg (by omega),if_neg (by omega),if_pos hs]
   obtain ⟨x1,x2⟩:=hx hs
   have r1:=Q64 h0
   unfold X9
   simp only
   rw [if_neg (by rw [x1];simp)]
   split
   · exact Zg (m1:={m with M:=_}) hwl h0
   · refine Zf (m1:={m with M:=_}) hwl (by simp) (by simp) (by simp) ?_
     unfold rho
     simp only
     rw [if_neg (by omega),if_pos trivial,if_pos (by omega)]
     exact r1
 · rw [if_neg (by omega),if_neg (by omega),if_neg (by omega),if_neg (by omega),if_neg (by omega),if_neg (by omega),if_neg (by omega),if_pos hs]
   have r0:rho (m.wk w)=2:=by unfold rho;rw [if_neg (by omega),if_neg (by omega),if_neg (by omega),if_neg (by omega),if_neg (by omega),if_neg (by omega),if_neg (by omega)]
   unfold JV
   simp only
   split
   · split
     · exact KJ (m1:={m with M:=_}) hwl (.inr rfl) (by rw [r0];unfold rho;simp)
     · exact Zg (m1:={m with M:=_}) hwl h0
   · refine Zf (m1:={m with M:=_}) hwl (by simp only;omega) (by simp only;omega) (by simp only;omega) ?_
     rw [r0];unfold rho;simp only [hs];simp
end
section
variable {n:Int} {m m':Qb} {w:Nat} {c:Q0} {M M':List Int} {k:Q9}
def KC (f:Nat→Int):Nat→Int
 |0=>0
 |k+1=>KC f k+f k
theorem Wx {f g:Nat→Int} {w:Nat} {d:Int} (hd:0≤d) (h:∀k,k≠w→g k≤f k+d):∀N:Nat,KC g N≤KC f N+(if w<N then g w - f w - d else 0)+d*N
 |0=>by simp [KC]
 |k+1=>by
  have ih:=Wx hd h k
  unfold KC
  have e:d*((k+1:Nat):Int)=d*k+d:=by rw [show ((k+1:Nat):Int)=(k:Int)+1 by omega,Int.mul_add,Int.mul_one]
  rw [e]
  by_cases hk:k=w
  · subst hk
    rw [if_neg (by omega)] at ih
    rw [if_pos (by omega)];omega
  · have:=h k hk
    by_cases h2:w<k
    · rw [if_pos h2] at ih;rw [if_pos (by omega)];omega
    · rw [if_neg h2] at ih;rw [if_neg (by omega)];omega
theorem Ed {f:Nat→Int} {b:Int} (N:Nat) (h:∀k,k<N→0≤f k∧f k≤b):0≤KC f N∧KC f N≤b*N:=by
 induction N with
 |zero=>simp [KC]
 |succ k ih=>
  have:=ih fun j hj=>h j (by omega)
  have:=h k (by omega)
  have e:b*((k+1:Nat):Int)=b*k+b:=by rw [show ((k+1:Nat):Int)=(k:Int)+1 by omega,Int.mul_add,Int.mul_one]
  unfold KC;rw [e];omega
def Lm (c:Q0):Int:=15*c.sl+2*tFq c+19
def Jm (c:Q0):Int:=c.sl+8+2*Qw c
theorem Q36 {i:Int} {r:J4} {X:Int} (h:3≤X):0≤rR c M i r X∧rR c M i r X≤X:=by unfold rR;split<;>(try split)<;>omega
theorem tT_in {st a:Int} (h0:0≤a) (h1:a≤c.sl):0≤tT c st a∧tT c st a≤3*c.sl+3:=by unfold tT;split<;>(try split)<;>omega
theorem kR_in (h:Qm c n M) {t:Qd} (hl:t.live c w):(0≤kR c M t∧kR c M t≤Lm c)∧0≤kJ c t∧kJ c t≤c.sl+6:=by
 obtain ⟨s0,s1,tw,hlk,hfd, -⟩:=hl
 have sl:=h.cf.2.1
 have kp:=Zj h
 have w1:=K6 h
 have rj:=KO t.rt
 have hat:t.st=1∨t.st=2∨t.st=3∨t.st=4∨t.st=5∨t.st=6∨t.st=7∨t.st=8→0≤t.lk.at_∧t.lk.at_≤c.sl:=by
  intro hs
  by_cases hx:t.st=1∨t.st=3∨t.st=5∨t.st=7
  · obtain ⟨f,e1,e2,e3,e4, -⟩:=hlk hx
    rw [JM e1];omega
  · obtain ⟨f,s,e1,e2,e3,e4, -⟩:=hfd (by omega)
    rw [JM e1];omega
 have hr:=Q36 (c:=c) (M:=M) (i:=t.i) (r:=t.rt) (X:=tFq c+4) (by unfold tFq;have:0≤c.sl*(c.wo+5):=Int.mul_nonneg (by omega) (by have:=h.cf.1;omega);omega)
 have ky:kY c=5*c.sl+tFq c+7:=rfl
 have lm:Lm c=15*c.sl+2*tFq c+19:=rfl
 refine ⟨?_, ?_⟩
 · have a0:=w1 1 0
   have a1:=w1 t.st t.lk.at_
   by_cases hs:t.st=1∨t.st=2∨t.st=3∨t.st=4∨t.st=5∨t.st=6∨t.st=7∨t.st=8
   · have hh:=hat hs
     have t1:=tT_in (c:=c) (st:=t.st) hh.1 hh.2
     have t2:=tT_in (c:=c) (st:=t.st - 1) hh.1 hh.2
     unfold kR
     repeat' split
     all_goals omega
   · unfold kR
     repeat' split
     all_goals omega
 · by_cases hs:t.st=5∨t.st=6
   · have hh:=hat (by omega)
     rw [Wn hs];omega
   · unfold kJ;rw [if_neg hs]
     repeat' split
     all_goals omega
theorem Q5H (h:Qm c n M) {t:Tw2} (hl:t.live c n):0≤twR c M t∧twR c M t≤3*c.sl:=by
 have sl:=h.cf.2.1
 have:=hl.r
 unfold twR
 repeat' split
 all_goals omega
theorem Q6g (h:Qm c n M) (s:QuS):0≤qR c M s∧qR c M s≤tFq c+4:=by
 have kp:=Zj h
 unfold qR
 repeat' split
 all_goals omega
theorem qB_in (h:Qm c n M) (s:QuS):0≤qB c s∧qB c s≤2*Qw c:=by
 have wo:=h.cf.1
 have q0:0≤Qw c:=by unfold Qw;omega
 unfold qB
 split<;>omega
theorem yR_in (h:Qm c n M) {shut:Prop} {t:Qh} (hl:t.live c w n shut):(0≤yR c M t∧yR c M t≤2*tFq c+2)∧0≤yA M t+yJ t∧yA M t+yJ t≤6:=by
 obtain ⟨s0,s1,tw,w1,ep,hcl,hlk,hfd,hi,hrt,hot,hhd,hwd⟩:=hl
 have wo:=h.cf.1;have sl:=h.cf.2.1
 have K0:c.sl*(c.wo+5)=c.sl*(c.wo+3)+2*c.sl:=by rw [show c.wo+5=(c.wo+3)+2 by omega,Int.mul_add];omega
 have K1:0≤c.sl*(c.wo+3):=Int.mul_nonneg (by omega) (by omega)
 have tf:tFq c=c.sl*(c.wo+3)+2*c.sl+9:=by unfold tFq;rw [K0]
 have rj:=KO t.rt
 refine ⟨?_, ?_⟩
 · have hE:0≤yE c M t∧yE c M t≤tFq c+1:=by unfold yE;split<;>omega
   have hB:0≤yB c M t∧yB c M t≤tFq c:=by
    by_cases hs:t.st=3∨t.st=4∨t.st=5∨t.st=6∨t.st=7∨t.st=9∨t.st=10
    · have hat:0≤t.lk.at_∧t.lk.at_≤c.sl∧(t.st≠5→t.lk.at_<c.sl):=by
       by_cases hx:t.st=3∨t.st=5∨t.st=9
       · obtain ⟨f,e1,e2,e3,e4,e5, -⟩:=hlk hx
         rw [JQ e1];exact ⟨e3,e4,e5⟩
       · obtain ⟨f,s,e1,e2,e3, -⟩:=hfd (by omega)
         have:=hi (by omega)
         rw [JQ e1,e3];omega
      obtain ⟨a0,a1,a2⟩:=hat
      have k1:0≤(c.sl - t.lk.at_)*(c.wo+3):=Int.mul_nonneg (by omega) (by omega)
      have k2:(c.sl - t.lk.at_)*(c.wo+3)≤c.sl*(c.wo+3):=Int.mul_le_mul_of_nonneg_right (by omega) (by omega)
      have k3:=Q8u (c.sl - t.lk.at_) (c.wo+3)
      have k4:t.st≠5→0≤(c.sl - t.lk.at_ - 1)*(c.wo+3):=fun h5=>Int.mul_nonneg (by have:=a2 h5;omega) (by omega)
      have hr:=Q36 (c:=c) (M:=M) (i:=t.i) (r:=t.rt) (X:=(c.sl - t.lk.at_)+c.sl*(c.wo+3)+c.sl+7) (by omega)
      unfold yB
      rcases hs with hs|hs|hs|hs|hs|hs|hs
      · simp [hs];omega
      · simp only [hs];simp;omega
      · simp [hs];omega
      · have:=hot hs;have:=k4 (by omega);simp [hs];omega
      · have:=k4 (by omega);simp [hs];omega
      · simp [hs];omega
      · simp [hs];split<;>omega
    · unfold yB
      repeat' split
      all_goals omega
   unfold yR;omega
 · have hA:1≤yA M t∧yA M t≤4:=by
    unfold yA
    repeat' split
    all_goals omega
   unfold yJ;split<;>omega
theorem wR_in (h:MInv n m) (hw:(w:Int)<m.c.wo):(0≤wR m.c m.M (m.wk w)∧wR m.c m.M (m.wk w)≤Lm m.c)∧0≤wJ m.c m.M (m.wk w)∧wJ m.c m.M (m.wk w)≤Jm m.c:=by
 have L:=h.wk w hw
 have wo:=h.mem.cf.1;have sl:=h.mem.cf.2.1
 have q0:Qw m.c=2*m.c.wo+1:=rfl
 have kp:=Zj h.mem
 have lm:Lm m.c=15*m.c.sl+2*tFq m.c+19:=rfl
 have jm:Jm m.c=m.c.sl+8+2*Qw m.c:=rfl
 have pr:pR m.c=15*m.c.sl+2*tFq m.c+14:=rfl
 have hs:(m.wk w).st=0∨(m.wk w).st=1∨(m.wk w).st=2∨(m.wk w).st=3∨(m.wk w).st=4∨(m.wk w).st=5∨(m.wk w).st=6∨(m.wk w).st=7∨(m.wk w).st=8:=by have:=L.s0;have:=L.s1;omega
 rcases hs with hs|hs|hs|hs|hs|hs|hs|hs|hs
 · unfold wR wJ;simp [hs];omega
 · rw [Ky (.inl hs),Q7K hs];refine ⟨?_,by omega⟩;split<;>omega
 · rw [Q04 hs,Q03 hs]
   have hl:=L.wk hs
   cases hk:(m.wk w).work with
   |none=>rw [hk] at hl;exact hl.elim
   |get t=>
    rw [hk] at hl
    obtain ⟨a,b⟩:=kR_in h.mem hl.2
    exact ⟨a,by show 0≤kJ m.c t+_∧kJ m.c t+_≤_;omega⟩
   |give g=>
    rw [hk] at hl
    have hr:=Q36 (c:=m.c) (M:=m.M) (i:=g.i) (r:=g.rt) (X:=tFq m.c+3) (by omega)
    have rj:=KO g.rt
    refine ⟨?_, ?_⟩
    · show 0≤gR m.c m.M g∧gR m.c m.M g≤_
      unfold gR
      repeat' split
      all_goals omega
    · show 0≤gJ g+_∧gJ g+_≤_
      unfold gJ;split<;>omega
   |strm s=>
    refine ⟨?_, ?_⟩
    · show 0≤sR m.c m.M s∧sR m.c m.M s≤_
      unfold sR
      repeat' split
      all_goals omega
    · show 0≤(1:Int)+_∧(1:Int)+_≤_;omega
   |reap r=>
    rw [hk] at hl
    have ha:=hl.2.a
    have hr:=Q36 (c:=m.c) (M:=m.M) (i:=r.look.at_) (r:=r.rt) (X:=3) (by omega)
    have hr0:0≤rR m.c m.M r.look.at_ r.rt 0∧rR m.c m.M r.look.at_ r.rt 0≤3:=by
     unfold rR
     repeat' split
     all_goals omega
    have rj:=KO r.rt
    refine ⟨?_, ?_⟩
    · show 0≤rpR m.c m.M r∧rpR m.c m.M r≤_
      unfold rpR
      repeat' split
      all_goals omega
    · show 0≤rpJ m.c r+_∧rpJ m.c r+_≤_
      unfold rpJ;split<;>omega
   |close force drain=>
    refine ⟨?_,by show 0≤(0:Int)+_∧(0:Int)+_≤_;omega⟩
    cases drain with
    |none=>show 0≤tFq m.c+3∧tFq m.c+3≤_;omega
    |some q=>have:=Q6g h.mem q;show 0≤qR m.c m.M q∧qR m.c m.M q≤_;omega
   |stats t=>
    rw [hk] at hl
    have:=Q5H h.mem hl.2
    exact ⟨by show 0≤twR m.c m.M t+tFq m.c+1∧twR m.c m.M t+tFq m.c+1≤_;omega,by show 0≤(0:Int)+_∧(0:Int)+_≤_;omega⟩
 · obtain ⟨t,ht,hlt⟩:=L.tw hs
   rw [Ky (by omega),Q7J hs ht]
   have:=Q5H h.mem hlt
   refine ⟨?_,by omega⟩
   unfold cR;split<;>omega
 · obtain ⟨q,hq, -⟩:=L.en hs
   rw [Q7O hs hq,Q02 (.inl hs) hq]
   have:=Q6g h.mem q;have:=qB_in h.mem q;omega
 · obtain ⟨t,ht,hlt⟩:=L.ti hs
   rw [Q7N hs ht,Q7I hs ht]
   obtain ⟨a,b⟩:=yR_in h.mem hlt
   exact ⟨by omega,by omega⟩
 · rw [Ky (by omega),wR_6 hs];omega
 · rw [Ky (by omega),Q7H hs];refine ⟨?_,by omega⟩;split<;>omega
 · obtain ⟨q,hq, -⟩:=L.le hs
   rw [Q7M hs,Q02 (.inr hs) hq]
   have:=Q6g h.mem q;omega
def Ej (m:Qb):Int:=QS m.c m.M+Qw m.c*((mQ m.M).length:Int)+KC (fun k=>wJ m.c m.M (m.wk k)) m.ws.length
def Lr (m:Qb):Int:=KC (fun k=>wR m.c m.M (m.wk k)) m.ws.length
def Phi (m:Qb):Int:=Lr m+(m.c.wo*Lm m.c+1)*Ej m
def Rho (m:Qb):Int:=KC (fun k=>rho (m.wk k)) m.ws.length
def Em (c:Q0):Int:=4*c.sl+15*Qw c+c.wo*Jm c
def Bm (c:Q0):Int:=c.wo*Lm c+(c.wo*Lm c+1)*Em c
theorem Q7q (h:MInv n m):0≤Lr m∧Lr m≤m.c.wo*Lm m.c:=by
 have:=Ed (b:=Lm m.c) m.ws.length (fun k hk=>(wR_in h (w:=k) (by have:=h.wl;omega)).1)
 rw [h.wl,Int.mul_comm] at this
 exact this
theorem Ej_in (h:MInv n m):0≤Ej m∧Ej m≤Em m.c:=by
 have a:=Ed (b:=Jm m.c) m.ws.length (fun k hk=>(wR_in h (w:=k) (by have:=h.wl;omega)).2)
 rw [h.wl,Int.mul_comm] at a
 have b:=Q7o m.c m.M m.c.sl.toNat
 have l:=h.mem.ln.length
 have wo:=h.mem.cf.1;have sl:=h.mem.cf.2.1
 have q0:0≤Qw m.c:=by unfold Qw;omega
 have q1:Qw m.c*((mQ m.M).length:Int)≤Qw m.c*15:=Int.mul_le_mul_of_nonneg_left (by omega) q0
 have q2:0≤Qw m.c*((mQ m.M).length:Int):=Int.mul_nonneg q0 (by omega)
 unfold Ej Em QS;omega
theorem Q7r (h:MInv n m):0≤m.c.wo*Lm m.c:=by
 have kp:=Zj h.mem
 have wo:=h.mem.cf.1;have sl:=h.mem.cf.2.1
 exact Int.mul_nonneg (by omega) (by unfold Lm;omega)
theorem UC (h:MInv n m):0≤Phi m∧Phi m≤Bm m.c:=by
 have a:=Q7q h;have b:=Ej_in h;have d:=Q7r h
 have e:0≤(m.c.wo*Lm m.c+1)*Ej m:=Int.mul_nonneg (by omega) b.1
 have f:(m.c.wo*Lm m.c+1)*Ej m≤(m.c.wo*Lm m.c+1)*Em m.c:=Int.mul_le_mul_of_nonneg_left b.2 (by omega)
 unfold Phi Bm;omega
theorem UA (h:MInv n m):0≤Rho m∧Rho m≤3*m.c.wo:=by
 have:=Ed (b:=3) m.ws.length (fun k _=>Ke (m.wk k))
 rw [h.wl] at this
 exact this
def ZG (c:Q0):Int:=10000*c.wo*(c.sl+c.wo)
theorem Q6H (h1:1≤c.wo∧c.wo≤4) (h2:1≤c.sl∧c.sl≤5):Bm c≤ZG c∧Bm c≤230000:=by
 obtain ⟨wo,sl,st,wa,us⟩:=c
 simp only at h1 h2
 have a:wo=1∨wo=2∨wo=3∨wo=4:=by omega
 have b:sl=1∨sl=2∨sl=3∨sl=4∨sl=5:=by omega
 unfold Bm Em Jm Lm Qw tFq ZG
 simp only
 rcases a with rfl|rfl|rfl|rfl<;>rcases b with rfl|rfl|rfl|rfl|rfl<;>decide
end
end Go.Proofs.YtgjklfmnmljilaaGreatDoor
