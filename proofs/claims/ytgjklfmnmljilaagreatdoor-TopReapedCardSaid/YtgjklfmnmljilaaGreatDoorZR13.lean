/- A part of the proof. -/
import Derived.Test.YtgjklfmnmljilaaGreatDoorZR12
namespace Go.Proofs.YtgjklfmnmljilaaGreatDoor
set_option linter.unusedVariables false
set_option linter.unusedSimpArgs false
set_option linter.unusedSectionVars false
set_option linter.unnecessarySimpa false
set_option maxRecDepth 100000
set_option maxHeartbeats 8000000
section
variable {n:Int} {m m':Qa} {w:Nat} {c:Q0} {M M':List Int} {k:Q8}
theorem VA {m1:Qa} {k':Q8} (hw:w<m1.ws.length) (h5:k'.st=5) (ht:k'.ti=some (Qz w)) (g:Gg m.c m.M m1.M (wJ m.c m.M (m.wk w)) 2 (wR m.c m.M (m.wk w)) (tFq m.c)):SGo m (m1.setW w k') w:=
 Xt hw (.inr (.inr (by
  obtain ⟨a,b⟩:=new5 (c:=m.c) (M:=m1.M) (k:=k') (w:=w) h5 ht
  rw [a,b];exact g)))
theorem wl_any (h:Qj c n M) {who:Int} (hx:(Vl c M).any (fun x=>JC x 3 who)=true):wlB c M 1 0=true:=by
 rw [List.any_eq_true] at hx
 obtain ⟨x,hm,hf⟩:=hx
 unfold Vl at hm
 rw [List.mem_map] at hm
 obtain ⟨i,hi,rfl⟩:=hm
 rw [List.mem_range] at hi
 obtain ⟨-, -,f⟩:=h.ZL Lb Lb hf
 rw [Ec]
 refine ⟨i,Lb, ?_⟩
 unfold Jq at f
 rw [if_neg Lb,if_neg Lb,if_neg Lb,if_pos rfl,Bool.or_eq_true] at f
 rcases f with f|f
 · exact .inl ⟨.inl rfl,f⟩
 · exact .inr ⟨.inl Lb,f⟩
theorem Q5t (h:MInv n m) (hn:n≤1000000000) (hw:(w:Int)<m.c.wo) (hs:(m.wk w).st=3):SGo m (Xd m w) w:=by
 have L:=h.wk w hw
 have hwl:w<m.ws.length:=by have:=h.wl;omega
 have wo:=h.mem.cf.1;have sl:=h.mem.cf.2.1
 have q0:0≤Qw m.c:=by unfold Qw;omega
 have kp:=Zo h.mem
 obtain ⟨t,ht,hlt⟩:=L.tw hs
 unfold Xd
 simp only [ht,Option.getD_some]
 obtain ⟨a,b,d⟩:=tw_go h.mem hlt
 have r0:cR m.c m.M t=wR m.c m.M (m.wk w):=(Q7X hs ht).symm
 have j0:wJ m.c m.M (m.wk w)=m.c.sl+6+(2+2*Qw m.c):=KJ Lb
 unfold cR at r0
 by_cases hd:(QH m.c t m.M).d=true
 · rw [if_pos hd]
   split
   · rename_i hx
     refine Xt (m1:=m) hwl (.inr (.inr (.stay ?_ ?_)))
     · rw [j0,Q0f (by rfl)]
       show kJ m.c (Jc w)+_≤_
       rw [ZQ (by simp [Jc])];omega
     · rw [Q0e (by rfl),←r0]
       show kR m.c m.M (Jc w)+1≤_
       have e:kR m.c m.M (Jc w)=3*m.c.sl+4+tFq m.c+wlY m.c m.M 1 0:=by unfold kR;rw [if_pos (show (Jc (w:Int)).st=0 from rfl)]
       rw [e]
       by_cases p:ZP m.c m.M t
       · rw [if_pos p]
         rw [b hd p] at hx
         have:wlY m.c m.M 1 0=0:=by unfold wlY;rw [if_pos (wl_any h.mem hx)]
         omega
       · rw [if_neg p]
         have:=(Kn h.mem 1 0).2
         unfold kY at this;omega
   · refine VA (m1:=m) hwl rfl rfl (.stay Lb ?_)
     rw [←r0]
     split<;>omega
 · rw [if_neg hd]
   obtain ⟨a1, -,a3⟩:=a (by simpa using hd)
   refine Xt (m1:=m) hwl (.inr (.inr (.stay ?_ ?_)))
   · rw [j0,KJ (.inr (.inl (by exact hs)))];omega
   · rw [Q7X (t:=QH m.c t m.M) (by exact hs) rfl,←r0]
     unfold cR
     by_cases p:ZP m.c m.M t
     · rw [if_pos p,if_pos (a1 p)];omega
     · rw [if_neg p];split<;>omega
theorem Q5g (h:MInv n m) (hn:n≤1000000000) (hw:(w:Int)<m.c.wo) (hs:(m.wk w).st=4):SGo m (Xc m w) w:=by
 have L:=h.wk w hw
 have hwl:w<m.ws.length:=by have:=h.wl;omega
 obtain ⟨q,hq,hlq⟩:=L.en hs
 unfold Xc
 simp only [hq,Option.getD_some]
 obtain ⟨G1,G2⟩:=q_go h.mem hlq
 have j0:=Q82 (c:=m.c) (M:=m.M) hs hq
 have r0:=Q0d (c:=m.c) (M:=m.M) (.inl hs) hq
 by_cases hd:(Qo m.c q m.M).1.nx.isDone=true
 · rw [if_pos hd]
   have G:Gg m.c m.M (Qo m.c q m.M).2 (wJ m.c m.M (m.wk w)) 2 (wR m.c m.M (m.wk w)) (tFq m.c):=by
    rw [j0,r0];exact ((G2 hd).shift (d:=2) (d':=2) (e:=0) (Int.le_refl _)).le (Int.le_refl _) Lb Lb Lb
   split
   · exact VA (m1:={m with M:=(Qo m.c q m.M).2}) hwl rfl rfl G
   · exact VA (m1:={m with M:=(Qo m.c q m.M).2}) hwl rfl rfl G
 · rw [if_neg hd]
   refine Xt (m1:={m with M:=(Qo m.c q m.M).2}) hwl (.inr (.inr ?_))
   rw [j0,r0,Q82 (q:=(Qo m.c q m.M).1) (by exact hs) rfl,Q0d (q:=(Qo m.c q m.M).1) (.inl (by exact hs)) rfl]
   exact ((G1 (by simpa using hd)).shift (d:=2) (d':=2) (e:=0) (Int.le_refl _)).le (Int.le_refl _) (Int.le_refl _) Lb (by show qR m.c (Qo m.c q m.M).2 _≤_;omega)
theorem Q4Z (h:MInv n m) (hn:n≤1000000000) (hw:(w:Int)<m.c.wo) (hs:(m.wk w).st=8):SGo m (Jo m w) w:=by
 have L:=h.wk w hw
 have hwl:w<m.ws.length:=by have:=h.wl;omega
 have wo:=h.mem.cf.1
 have q0:0≤Qw m.c:=by unfold Qw;omega
 obtain ⟨q,hq,hlq,hnx,hwhy⟩:=L.le hs
 unfold Jo
 simp only [hq,Option.getD_some]
 have b0:qB m.c q=0:=by unfold qB;rcases hnx with x|x<;>rw [x]
 obtain ⟨G1,G2⟩:=q_go h.mem hlq
 rw [b0] at G1 G2
 have j0:=Q80 (c:=m.c) (M:=m.M) hs
 have r0:=Q0d (c:=m.c) (M:=m.M) (.inr hs) hq
 by_cases hd:(Qo m.c q m.M).1.nx.isDone=true
 · rw [if_pos hd]
   split
   · exact Xt (m1:={m with M:=(Qo m.c q m.M).2}) hwl (.inr (.inl rfl))
   · refine VA (m1:={m with M:=(Qo m.c q m.M).2}) hwl rfl rfl ?_
     rw [j0,r0];exact ((G2 hd).shift (d:=2+2*Qw m.c) (d':=2) (e:=0) Lb).le Lb Lb Lb Lb
 · rw [if_neg hd]
   refine Xt (m1:={m with M:=(Qo m.c q m.M).2}) hwl (.inr (.inr ?_))
   rw [j0,r0,Q80 (by exact hs),Q0d (q:=(Qo m.c q m.M).1) (.inr (by exact hs)) rfl]
   have hb:0≤qB m.c (Qo m.c q m.M).1:=by unfold qB;split<;>omega
   exact ((G1 (by simpa using hd)).shift (d:=2+2*Qw m.c) (d':=2+2*Qw m.c) (e:=0) (Int.le_refl _)).le Lb Lb Lb (by show qR m.c (Qo m.c q m.M).2 _≤_;omega)
theorem Q5P (h:MInv n m) (hn:n≤1000000000) (hw:(w:Int)<m.c.wo) (hs:(m.wk w).st=7):SGo m (J7 m w) w:=by
 have hwl:w<m.ws.length:=by have:=h.wl;omega
 have wo:=h.mem.cf.1;have sl:=h.mem.cf.2.1;have len:=h.mem.len
 have q0:0≤Qw m.c:=by unfold Qw;omega
 have kp:=Zo h.mem
 have j0:wJ m.c m.M (m.wk w)=m.c.sl+6+(2+2*Qw m.c):=KJ Lb
 have r0:=Q7V (c:=m.c) (M:=m.M) hs
 unfold J7
 simp only
 cases hf:(m.wk w).half with
 |false=>
  rw [hf] at r0
  simp only [if_true]
  refine Xt (m1:=m) hwl (.inr (.inr (.stay ?_ ?_)))
  · rw [j0,KJ (.inr (.inr (.inr (by exact hs))))];omega
  · rw [r0,Q7V (by exact hs)];simp;omega
 |true=>
  rw [hf] at r0
  simp only [Bool.true_eq_false,if_false]
  have e:Qp m.M (3+m.c.wo+(w:Int)) 0=m.M.set (3+m.c.wo+(w:Int)).toNat 0:=Jr Lb (by unfold Q0.cells at*;omega)
  rw [e]
  have S:=h.mem.ZO (j:=3+m.c.wo+(w:Int)) (v:=0) Lb Lb
  split
  · refine VA (m1:={m with M:=_}) hwl rfl rfl (.inr (.inr ⟨S,Lb, ?_⟩))
    rw [r0];simp;unfold pR;omega
  · refine Xt (m1:={m with M:=_}) hwl (.inr (.inr (.inr (.inr ⟨S, ?_, ?_⟩))))
    · rw [j0,KJ (.inl rfl)];omega
    · rw [r0,Q7Y rfl];simp;omega
theorem Q42 (h:MInv n m) (hn:n≤1000000000) (hw:(w:Int)<m.c.wo) (hs:(m.wk w).st=5):SGo m (QK m w) w:=by
 have L:=h.wk w hw
 have hwl:w<m.ws.length:=by have:=h.wl;omega
 obtain ⟨t,ht,hlt⟩:=L.ti hs
 unfold QK
 simp only [ht,Option.getD_some]
 have hS:=V7 m.c w n (Jz m.M) t m.M hlt
 generalize Ql m.c t m.M=x at*
 obtain ⟨t',M'⟩:=x
 simp only at hS ⊢
 by_cases h17:t'.st=17
 · rw [if_pos h17]
   split
   · exact Xt (m1:={m with M:=M'}) hwl (.inr (.inl rfl))
   · exact Xt (m1:={m with M:=M',evs:=_}) hwl (.inl rfl)
 · rw [if_neg h17]
   have G:=Q86 h.mem hn hlt hS h17
   refine Xt (m1:={m with M:=M'}) hwl (.inr (.inr ?_))
   rw [Q81 hs ht,Q7W hs ht,Q81 (t:=t') (by exact hs) rfl,Q7W (t:=t') (by exact hs) rfl]
   exact G
theorem Q8X (h:MInv n m) (k:Q8):jJ m.c (Vg m.c w k)≤m.c.sl+6∧∀M',Qj m.c n M'∨Qj m.c (n+1) M'→jR m.c M' (Vg m.c w k)≤pR m.c:=by
 have wo:=h.mem.cf.1;have sl:=h.mem.cf.2.1
 have kp:=Zo h.mem
 unfold Vg
 split
 · split
   · exact ⟨by show kJ _ _≤_;rw [ZQ (by simp [QU])];omega,fun M' _=>by show kR _ _ _≤_;unfold kR pR;simp [QU];omega⟩
   · refine ⟨by show kJ _ _≤_;rw [ZQ (by simp [Jc])];omega,fun M' hm=> ?_⟩
     have:wlY m.c M' 1 0≤kY m.c:=by
      rcases hm with hm|hm
      · exact (Kn hm 1 0).2
      · exact (Kn hm 1 0).2
     show kR _ _ _≤_
     unfold kR pR kY at*;simp [Jc];omega
 split
 · exact ⟨by show gJ _≤_;rw [Ga (by simp [JD])];omega,fun M' _=>by show gR _ _ _≤_;unfold gR pR;simp [JD];omega⟩
 split
 · exact ⟨by show gJ _≤_;rw [Ga (by simp [JD])];omega,fun M' _=>by show gR _ _ _≤_;unfold gR pR;simp [JD];omega⟩
 split
 · exact ⟨by show (1:Int)≤_;omega,fun M' _=>by show sR _ _ _≤_;unfold sR pR;simp [JI];omega⟩
 split
 · exact ⟨by show (1:Int)≤_;omega,fun M' _=>by show sR _ _ _≤_;unfold sR pR;simp [JI];omega⟩
 split
 · exact ⟨by show rpJ _ _≤_;unfold rpJ;simp [JV,QE];omega,fun M' _=>by show rpR _ _ _≤_;unfold rpR pR;simp [JV,QE];omega⟩
 split
 · exact ⟨by show (0:Int)≤_;omega,fun M' _=>by show tFq m.c+3≤_;unfold pR;omega⟩
 · exact ⟨by show (0:Int)≤_;omega,fun M' _=>by
    show twR m.c M' Y7+tFq m.c+1≤_
    have p:ZP m.c M' Y7:=⟨rfl,by simp [Y7]⟩
    unfold twR;rw [if_pos p];simp [Y7];unfold pR;omega⟩
theorem Q8F (h:MInv n m) (hn:n≤1000000000) (hw:(w:Int)<m.c.wo) (hs:(m.wk w).st=1):SGo m ({m with M:=(XE (m.wk w) m.c w m.M).2}.setW w (XE (m.wk w) m.c w m.M).1) w:=by
 have L:=h.wk w hw
 have hwl:w<m.ws.length:=by have:=h.wl;omega
 have wo:=h.mem.cf.1;have sl:=h.mem.cf.2.1;have len:=h.mem.len
 have j0:wJ m.c m.M (m.wk w)=m.c.sl+6+(2+2*Qw m.c):=KJ Lb
 have r0:=Q7Y (c:=m.c) (M:=m.M) hs
 unfold XE
 cases hf:(m.wk w).half with
 |false=>
  rw [hf] at r0
  simp only [if_true]
  refine Xt (m1:=m) hwl (.inr (.inr (.stay ?_ ?_)))
  · rw [j0,KJ (.inl (by exact hs))];omega
  · rw [r0,Q7Y (by exact hs)];simp;omega
 |true=>
  rw [hf] at r0
  simp only [Bool.true_eq_false,if_false]
  have hwd:=L.pin hs hf
  have e:Qp m.M (3+(w:Int)) ((m.wk w).word+1)=m.M.set (3+(w:Int)).toNat ((m.wk w).word+1):=Jr Lb (by unfold Q0.cells at*;omega)
  rw [e]
  have S:=h.mem.ZO (j:=3+(w:Int)) (v:=(m.wk w).word+1) Lb Lb
  have st:=h.mem.Vr (j:=3+(w:Int)) (v:=(m.wk w).word+1) Lb Lb Lb Lb Lb Lb Lb
  obtain ⟨a,b⟩:=Q8X (w:=w) h (m.wk w)
  refine Xt (m1:={m with M:=_}) hwl (.inr (.inr (.inr (.inr ⟨S, ?_, ?_⟩))))
  · rw [j0,Q0f (by rfl)];simp only;omega
  · have:=b _ (.inr st.ok)
    rw [r0,Q0e (by rfl)];simp only [if_true];omega
theorem Ww (hwl:w<m.ws.length) (k0:Q8):(m.setW w k0).wk w=k0:=Jg hwl k0
theorem Q8f (h:MInv n m) (hn:n≤1000000000) (hw:(w:Int)<m.c.wo) (h0:(m.wk w).st≠0):SGo m (Qs m w) w:=by
 have L:=h.wk w hw
 have hwl:w<m.ws.length:=by have:=h.wl;omega
 have wo:=h.mem.cf.1;have sl:=h.mem.cf.2.1
 have q0:0≤Qw m.c:=by unfold Qw;omega
 have kp:=Zo h.mem
 have hs:(m.wk w).st=1∨(m.wk w).st=2∨(m.wk w).st=3∨(m.wk w).st=4∨(m.wk w).st=5∨(m.wk w).st=6∨(m.wk w).st=7∨(m.wk w).st=8:=by have:=L.s0;have:=L.s1;omega
 unfold Qs
 simp only
 rcases hs with hs|hs|hs|hs|hs|hs|hs|hs
 · rw [if_pos hs];exact Q8F h hn hw hs
 · rw [if_neg Lb,if_pos hs];exact Q5M h hn hw hs
 · rw [if_neg Lb,if_neg Lb,if_pos hs];exact Q5t h hn hw hs
 · rw [if_neg Lb,if_neg Lb,if_neg Lb,if_pos hs];exact Q5g h hn hw hs
 · rw [if_neg Lb,if_neg Lb,if_neg Lb,if_neg Lb,if_pos hs];exact Q42 h hn hw hs
 · rw [if_neg Lb,if_neg Lb,if_neg Lb,if_neg Lb,if_neg Lb,if_pos hs]
   unfold XB
   simp only
   have hh:=L.half Lb Lb
   have j0:wJ m.c m.M (m.wk w)=m.c.sl+6+(2+2*Qw m.c):=KJ Lb
   have r0:=wR_6 (c:=m.c) (M:=m.M) hs
   split
   · unfold J7
     simp only [Ww hwl]
     rw [if_pos hh,ZB]
     refine Xt (m1:=m) hwl (.inr (.inr (.stay ?_ ?_)))
     · rw [j0,KJ (.inr (.inr (.inr rfl)))];omega
     · rw [r0,Q7V rfl];simp;omega
   · have e:Jo (m.setW w {(m.wk w) with qu:=some (QX w),st:=8}) w=m.setW w (if (w:Int)∈mQ m.M then {(m.wk w) with st:=8,qu:=some {QX w with line:=mQ m.M,nx:=.drop}} else {(m.wk w) with qu:=some {QX w with line:=mQ m.M,e:=8,nx:=.done},timed:=false,st:=6}):=by
      have q:Qo m.c (QX w) m.M=(if (w:Int)∈mQ m.M then {QX w with line:=mQ m.M,nx:=.drop} else {QX w with line:=mQ m.M,e:=8,nx:=.done},m.M):=rfl
      have q2:∀X,Qo (m.setW w X).c (QX w) (m.setW w X).M=(if (w:Int)∈mQ m.M then {QX w with line:=mQ m.M,nx:=.drop} else {QX w with line:=mQ m.M,e:=8,nx:=.done},m.M):=fun X=>q
      unfold Jo
      simp only [Ww hwl,Option.getD_some,q2]
      show Qa.setW (Qa.setW m w _) w _=_
      rw [ZB]
      by_cases hi:(w:Int)∈mQ m.M
      · simp only [if_pos hi,QSt.isDone,Bool.false_eq_true,if_false]
      · simp only [if_neg hi,QSt.isDone,if_true]
     rw [e]
     refine Xt (m1:=m) hwl ?_
     by_cases hi:(w:Int)∈mQ m.M
     · rw [if_pos hi]
       refine .inr (.inr (.stay ?_ ?_))
       · rw [j0,Q80 rfl];omega
       · rw [r0,Q0d (.inr rfl) rfl];unfold qR pR;simp;omega
     · rw [if_neg hi];exact .inr (.inl rfl)
 · rw [if_neg Lb,if_neg Lb,if_neg Lb,if_neg Lb,if_neg Lb,if_neg Lb,if_pos hs];exact Q5P h hn hw hs
 · rw [if_neg Lb,if_neg Lb,if_neg Lb,if_neg Lb,if_neg Lb,if_neg Lb,if_neg Lb,if_pos hs];exact Q4Z h hn hw hs
end
section
variable {n:Int} {m m':Qa} {w:Nat} {c:Q0} {M M':List Int} {k:Q8}
def WX (k:Q8):Prop:=k.st=7→k.half=true∧k.word≠0
def UO (t:Qd):Int:=if t.st=9∨t.st=10∨t.st=11∨t.st=12∨t.st=13∨t.st=14∨t.st=5∨t.st=6 then 1 else 3
def Un:Yh→Int
 |.get t=>UO t
 |_=>1
def rho (k:Q8):Int:=
 if k.st=0 then 0
 else if k.st=1 then (if 0<k.grant then 1 else 3)
 else if k.st=2 then Un k.work
 else if k.st=3∨k.st=4 then 3
 else if k.st=5 then (if k.parks then (if k.timed then 3 else 2) else 1)
 else if k.st=6 then (if k.timed then 2 else 1)
 else if k.st=7 then 1
 else 2
theorem Q8b (t:Qd):1≤UO t∧UO t≤3:=by unfold UO;split<;>omega
theorem EK (j:Yh):1≤Un j∧Un j≤3:=by cases j<;>first|exact Q8b _|(simp [Un])
theorem Kr (k:Q8):0≤rho k∧rho k≤3:=by
 have:=EK k.work
 unfold rho
 repeat' split
 all_goals omega
theorem Q6e (h:k.st≠0):1≤rho k:=by
 have:=EK k.work
 unfold rho
 rw [if_neg h]
 repeat' split
 all_goals omega
theorem rho_5 (h:k.st=5) (hp:k.parks=false):rho k=1:=by unfold rho;rw [if_neg Lb,if_neg Lb,if_neg Lb,if_neg Lb,if_pos h,hp];simp
theorem Q5Z {t t':Qd} {good:Bool} (hl:t.live c w) (hS:TkS c M good t t' M'):(t'.st≠15→UO t'≤UO t)∧(t'.st=15→t'.e=3→UO t=3):=by
 obtain ⟨s0,s1, -⟩:=hl
 cases hS
 all_goals
  refine ⟨fun h15=> ?_,fun h15 h3=> ?_⟩
  · dsimp only [Qd.end_,Qd.search] at h15 ⊢
    unfold UO
    dsimp only
    repeat' split
    all_goals omega
  · dsimp only [Qd.end_,Qd.search] at h15 h3
    unfold UO
    split<;>(try split at h15)<;>omega
def RGo (m m':Qa) (w:Nat):Prop:=WX (m'.wk w)∧rho (m'.wk w)≤rho (m.wk w)∧((m'.wk w).st=0∨(m'.wk w).st=6→rho (m'.wk w)+1≤rho (m.wk w))
theorem Zk {m1:Qa} {k':Q8} (hw:w<m1.ws.length) (a:k'.st≠7) (b:k'.st≠0) (d:k'.st≠6) (e:rho k'≤rho (m.wk w)):RGo m (m1.setW w k') w:=by
 unfold RGo;rw [Jg hw];exact ⟨fun x=>absurd x a,e,fun x=>x.elim (fun y=>absurd y b) (fun y=>absurd y d)⟩
theorem KR {m1:Qa} {k':Q8} (hw:w<m1.ws.length) (a:k'.st=0∨k'.st=6) (e:rho k'+1≤rho (m.wk w)):RGo m (m1.setW w k') w:=by
 unfold RGo;rw [Jg hw];exact ⟨fun x=>Lb,Lb,fun _=>e⟩
theorem Zl {m1:Qa} {k:Q8} {x:EvV} (hw:w<m1.ws.length) (h0:(m.wk w).st≠0):RGo m (m1.setW w (k.end_ w x)) w:=
 Zk hw (by simp [Q8.end_,Q8.QT]) (by simp [Q8.end_,Q8.QT]) (by simp [Q8.end_,Q8.QT]) (by rw [rho_5 rfl rfl];exact Q6e h0)
theorem ZX {m1:Qa} {j':Yh} (hw:w<m1.ws.length) (hs:(m.wk w).st=2) (e:Un j'≤Un (m.wk w).work):RGo m (m1.setW w {(m.wk w) with work:=j'}) w:=by
 refine Zk hw Ld Ld Ld ?_
 have R:∀k:Q8,k.st=2→rho k=Un k.work:=fun k h=>by unfold rho;rw [if_neg Lb,if_neg Lb,if_pos h]
 rw [R _ hs,R _ (by exact hs)];exact e
theorem Q3S (h:MInv n m) (hw:(w:Int)<m.c.wo) (hs:(m.wk w).st=2):RGo m (QM m w) w:=by
 have L:=h.wk w hw
 have hl:=L.wk hs
 have hwl:w<m.ws.length:=by have:=h.wl;omega
 have h0:(m.wk w).st≠0:=Lb
 have R2:rho (m.wk w)=Un (m.wk w).work:=by unfold rho;rw [if_neg Lb,if_neg Lb,if_pos hs]
 unfold QM
 simp only
 cases hk:(m.wk w).work with
 |none=>rw [hk] at hl;exact hl.elim
 |get t=>
  rw [hk] at hl R2
  obtain ⟨ho,hl⟩:=hl
  simp only
  obtain ⟨m1,good,e1⟩:∃m1 good,(if t.st=9 then m.Qr else (m,false))=(m1,good):=⟨_,_,rfl⟩
  have em:m1.ws=m.ws:=by
   split at e1
   · have e2:m1=m.Qr.1:=(congrArg Prod.fst e1).symm
     rw [e2];rfl
   · have e2:m1=m:=(congrArg Prod.fst e1).symm
     rw [e2]
  obtain ⟨x,hx⟩:∃x,Qg m.c t m.M good=x:=⟨_,rfl⟩
  obtain ⟨t',M'⟩:=x
  have hS:=Yn m.c w t m.M good hl
  rw [hx] at hS
  simp only at hS
  obtain ⟨G1,G2⟩:=Q5Z hl hS
  unfold Xi
  simp only [e1,hx]
  have hw1:w<({m1 with M:=M'}:Qa).ws.length:=by show w<m1.ws.length;rw [em];exact hwl
  by_cases h15:t'.st=15
  · rw [if_pos h15]
    by_cases h3:t'.e=3
    · rw [if_pos h3]
      have G:=G2 h15 h3
      have e3:rho (m.wk w)=3:=by rw [R2];exact G
      split
      · exact Zk hw1 Lc Lc Lc (by rw [e3];exact (Kr _).2)
      · exact Zk hw1 Lc Lc Lc (by rw [e3];exact (Kr _).2)
    · rw [if_neg h3];exact Zl hw1 h0
  · rw [if_neg h15]
    refine ZX hw1 hs ?_
    rw [hk];exact G1 h15
 |give g=>
  simp only
  split
  · exact Zl (m1:={m with M:=_}) hwl h0
  · exact ZX (m1:={m with M:=_}) hwl hs (by rw [hk];exact Int.le_refl _)
 |strm s=>
  simp only
  split
  · exact Zl (m1:={m with M:=_}) hwl h0
  · exact ZX (m1:={m with M:=_}) hwl hs (by rw [hk];exact Int.le_refl _)
 |Xl r=>
  simp only
  unfold J4
  simp only
  split
  · split
    · exact ZX (m1:=m) hwl hs (by rw [hk];exact Int.le_refl _)
    · split
      · exact Zl (m1:=m) hwl h0
      · exact ZX (m1:=m) hwl hs (by rw [hk];exact Int.le_refl _)
  · split
    · split
      · exact ZX (m1:=m.Qr.1) hwl hs (by rw [hk];exact Int.le_refl _)
      · exact ZX (m1:=m.Qr.1) hwl hs (by rw [hk];exact Int.le_refl _)
    · split
      · exact ZX (m1:={m with M:=_}) hwl hs (by rw [hk];exact Int.le_refl _)
      · refine ZX (m1:={m with M:=_}) hwl hs ?_
        rw [hk];exact Int.le_refl _
 |close force drain=>
  cases drain with
  |some q=>
   simp only
   split
   · exact Zl (m1:={m with M:=_}) hwl h0
   · exact ZX (m1:={m with M:=_}) hwl hs (by rw [hk];exact Int.le_refl _)
  |none=>exact ZX (m1:={m with M:=_}) hwl hs (by rw [hk];exact Int.le_refl _)
 |stats t=>
  simp only
  split
  · exact Zl (m1:=m) hwl h0
  · exact ZX (m1:=m) hwl hs (by rw [hk];exact Int.le_refl _)
theorem Q63 (h:MInv n m) (hw:(w:Int)<m.c.wo) (h0:(m.wk w).st≠0) (hx:WX (m.wk w)) (h6:(m.wk w).st=6→JG m w=true):RGo m (Qs m w) w:=by
 have L:=h.wk w hw
 have hwl:w<m.ws.length:=by have:=h.wl;omega
 have hs:(m.wk w).st=1∨(m.wk w).st=2∨(m.wk w).st=3∨(m.wk w).st=4∨(m.wk w).st=5∨(m.wk w).st=6∨(m.wk w).st=7∨(m.wk w).st=8:=by have:=L.s0;have:=L.s1;omega
 unfold Qs
 simp only
 rcases hs with hs|hs|hs|hs|hs|hs|hs|hs
 · rw [if_pos hs]
   have r0:rho (m.wk w)=(if 0<(m.wk w).grant then 1 else 3):=by unfold rho;rw [if_neg Lb,if_pos hs]
   unfold XE
   split
   · refine Zk (m1:={m with M:=_}) hwl Ld Ld Ld ?_
     rw [r0];unfold rho;simp only;rw [if_neg Lb,if_pos hs];exact Int.le_refl _
   · refine Zk (m1:={m with M:=_}) hwl Lc Lc Lc ?_
     rw [r0]
     have e:∀k:Q8,k.st=2→rho k=Un k.work:=fun k h=>by unfold rho;rw [if_neg Lb,if_neg Lb,if_pos h]
     rw [e _ rfl]
     show Un (Vg m.c w (m.wk w))≤_
     have b:=(EK (Vg m.c w (m.wk w))).2
     split
     · rename_i hg
       unfold Vg
       rw [if_pos hg]
       repeat' split
       all_goals first|exact Int.le_refl _|(simp [Un,UO,QU])
     · exact b
 · rw [if_neg Lb,if_pos hs];exact Q3S h hw hs
 · rw [if_neg Lb,if_neg Lb,if_pos hs]
   have r0:rho (m.wk w)=3:=by unfold rho;rw [if_neg Lb,if_neg Lb,if_neg Lb,if_pos (.inl hs)]
   unfold Xd
   simp only
   split
   · split
     · exact Zk (m1:=m) hwl Lc Lc Lc (by rw [r0];exact (Kr _).2)
     · exact Zl (m1:=m) hwl h0
   · exact Zk (m1:=m) hwl Ld Ld Ld (by rw [r0];exact (Kr _).2)
 · rw [if_neg Lb,if_neg Lb,if_neg Lb,if_pos hs]
   have r0:rho (m.wk w)=3:=by unfold rho;rw [if_neg Lb,if_neg Lb,if_neg Lb,if_pos (.inr hs)]
   unfold Xc
   simp only
   split
   · split
     · exact Zl (m1:={m with M:=_}) hwl h0
     · exact Zk (m1:={m with M:=_}) hwl (by simp [Q8.QT]) (by simp [Q8.QT]) (by simp [Q8.QT]) (by rw [r0];exact (Kr _).2)
   · exact Zk (m1:={m with M:=_}) hwl Ld Ld Ld (by rw [r0];exact (Kr _).2)
 · rw [if_neg Lb,if_neg Lb,if_neg Lb,if_neg Lb,if_pos hs]
   have r0:rho (m.wk w)=(if (m.wk w).parks then (if (m.wk w).timed then 3 else 2) else 1):=by unfold rho;rw [if_neg Lb,if_neg Lb,if_neg Lb,if_neg Lb,if_pos hs]
   unfold QK
   simp only
   split
   · split
     · rename_i hp
       refine KR (m1:={m with M:=_}) hwl (.inr rfl) ?_
       rw [r0,if_pos hp]
       have e:∀k:Q8,k.st=6→rho k=(if k.timed then 2 else 1):=fun k h=>by unfold rho;rw [if_neg Lb,if_neg Lb,if_neg Lb,if_neg Lb,if_neg Lb,if_pos h]
       rw [e _ rfl]
       simp only
       split<;>omega
     · rename_i hp
       refine KR (m1:={m with M:=_,evs:=_}) hwl (.inl rfl) ?_
       rw [r0,if_neg hp];unfold rho;simp
   · refine Zk (m1:={m with M:=_}) hwl Ld Ld Ld ?_
     rw [r0];unfold rho;simp only [hs];simp
 · rw [if_neg Lb,if_neg Lb,if_neg Lb,if_neg Lb,if_neg Lb,if_pos hs]
   have r0:rho (m.wk w)=(if (m.wk w).timed then 2 else 1):=by unfold rho;rw [if_neg Lb,if_neg Lb,if_neg Lb,if_neg Lb,if_neg Lb,if_pos hs]
   have hh:=L.half Lb Lb
   have r1:=Q6e h0
   unfold XB
   simp only
   split
   · rename_i hg
     unfold XZ at hg
     rw [decide_eq_true_eq] at hg
     unfold J7
     simp only [Ww hwl]
     rw [if_pos hh,ZB]
     unfold RGo
     rw [Jg hwl]
     refine ⟨fun _=>⟨rfl,hg⟩, ?_,fun x=>by simp at x⟩
     unfold rho;simp only;simp;split<;>omega
   · rename_i hg
     have ht:(m.wk w).timed=true:=by
      have:=h6 hs
      unfold JG at this
      rw [Bool.or_eq_true,Bool.and_eq_true] at this
      exact (this.resolve_left hg).1
     rw [ht] at r0
     simp only [if_true] at r0
     unfold Jo
     simp only [Ww hwl,Option.getD_some]
     split
     · split
       · show RGo m (Qa.setW (Qa.setW {m with M:=_} w _) w _) w
         rw [ZB]
         exact KR (m1:={m with M:=_}) hwl (.inr rfl) (by rw [r0];unfold rho;simp)
       · show RGo m (Qa.setW (Qa.setW {m with M:=_} w _) w _) w
         rw [ZB]
         exact Zl (m1:={m with M:=_}) hwl h0
     · show RGo m (Qa.setW (Qa.setW {m with M:=_} w _) w _) w
       rw [ZB]
       exact Zk (m1:={m with M:=_}) hwl Lc Lc Lc (by rw [r0];unfold rho;simp)
 · rw [if_neg Lb,if_neg Lb,if_neg Lb,if_neg Lb,if_neg Lb,if_neg Lb,if_pos hs]
   obtain ⟨x1,x2⟩:=hx hs
   have r1:=Q6e h0
   unfold J7
   simp only
   rw [if_neg (by rw [x1];simp)]
   split
   · exact Zl (m1:={m with M:=_}) hwl h0
   · refine Zk (m1:={m with M:=_}) hwl Lc Lc Lc ?_
     unfold rho
     simp only
     rw [if_neg Lb,if_pos trivial,if_pos Lb]
     exact r1
 · rw [if_neg Lb,if_neg Lb,if_neg Lb,if_neg Lb,if_neg Lb,if_neg Lb,if_neg Lb,if_pos hs]
   have r0:rho (m.wk w)=2:=by unfold rho;rw [if_neg Lb,if_neg Lb,if_neg Lb,if_neg Lb,if_neg Lb,if_neg Lb,if_neg Lb]
   unfold Jo
   simp only
   split
   · split
     · exact KR (m1:={m with M:=_}) hwl (.inr rfl) (by rw [r0];unfold rho;simp)
     · exact Zl (m1:={m with M:=_}) hwl h0
   · refine Zk (m1:={m with M:=_}) hwl Ld Ld Ld ?_
     rw [r0];unfold rho;simp only [hs];simp
end
section
variable {n:Int} {m m':Qa} {w:Nat} {c:Q0} {M M':List Int} {k:Q8}
def ZV (f:Nat→Int):Nat→Int
 |0=>0
 |k+1=>ZV f k+f k
theorem Wy {f g:Nat→Int} {w:Nat} {d:Int} (hd:0≤d) (h:∀k,k≠w→g k≤f k+d):∀N:Nat,ZV g N≤ZV f N+(if w<N then g w - f w - d else 0)+d*N
 |0=>by simp [ZV]
 |k+1=>by
  have ih:=Wy hd h k
  unfold ZV
  have e:d*((k+1:Nat):Int)=d*k+d:=by rw [show ((k+1:Nat):Int)=(k:Int)+1 by omega,Int.mul_add,Int.mul_one]
  rw [e]
  by_cases hk:k=w
  · subst hk
    rw [if_neg Lb] at ih
    rw [if_pos Lb];omega
  · have:=h k hk
    by_cases h2:w<k
    · rw [if_pos h2] at ih;rw [if_pos Lb];omega
    · rw [if_neg h2] at ih;rw [if_neg Lb];omega
theorem Wz {f:Nat→Int} {b:Int} (N:Nat) (h:∀k,k<N→0≤f k∧f k≤b):0≤ZV f N∧ZV f N≤b*N:=by
 induction N with
 |zero=>simp [ZV]
 |succ k ih=>
  have:=ih fun j hj=>h j Lb
  have:=h k Lb
  have e:b*((k+1:Nat):Int)=b*k+b:=by rw [show ((k+1:Nat):Int)=(k:Int)+1 by omega,Int.mul_add,Int.mul_one]
  unfold ZV;rw [e];omega
theorem U2 {f g:Nat→Int} (N:Nat) (h:∀k,k<N→f k=g k):ZV f N=ZV g N:=by
 induction N with
 |zero=>rfl
 |succ k ih=>unfold ZV;rw [ih fun j hj=>h j Lb,h k Lb]
def Lm (c:Q0):Int:=15*c.sl+2*tFq c+19
def Jm (c:Q0):Int:=c.sl+8+2*Qw c
theorem Q3k {i:Int} {r:J2} {X:Int} (h:3≤X):0≤rR c M i r X∧rR c M i r X≤X:=by unfold rR;split<;>(try split)<;>omega
theorem tT_in {st a:Int} (h0:0≤a) (h1:a≤c.sl):0≤tT c st a∧tT c st a≤3*c.sl+3:=by unfold tT;split<;>(try split)<;>omega
theorem kR_in (h:Qj c n M) {t:Qd} (hl:t.live c w):(0≤kR c M t∧kR c M t≤Lm c)∧0≤kJ c t∧kJ c t≤c.sl+6:=by
 obtain ⟨s0,s1,tw,hlk,hfd, -⟩:=hl
 have sl:=h.cf.2.1
 have kp:=Zo h
 have w1:=Kn h
 have rj:=KV t.rt
 have hat:t.st=1∨t.st=2∨t.st=3∨t.st=4∨t.st=5∨t.st=6∨t.st=7∨t.st=8→0≤t.lk.at_∧t.lk.at_≤c.sl:=by
  intro hs
  by_cases hx:t.st=1∨t.st=3∨t.st=5∨t.st=7
  · obtain ⟨f,e1,e2,e3,e4, -⟩:=hlk hx
    rw [JW e1];omega
  · obtain ⟨f,s,e1,e2,e3,e4, -⟩:=hfd Lb
    rw [JW e1];omega
 have hr:=Q3k (c:=c) (M:=M) (i:=t.i) (r:=t.rt) (X:=tFq c+4) (by unfold tFq;have:0≤c.sl*(c.wo+5):=Int.mul_nonneg Lb (by have:=h.cf.1;omega);omega)
 have ky:kY c=5*c.sl+tFq c+7:=rfl
 have lm:Lm c=15*c.sl+2*tFq c+19:=rfl
 refine ⟨?_, ?_⟩
 · have a0:=w1 1 0
   have a1:=w1 t.st t.lk.at_
   by_cases hs:t.st=1∨t.st=2∨t.st=3∨t.st=4∨t.st=5∨t.st=6∨t.st=7∨t.st=8
   · have hh:=hat hs
     have t1:=tT_in (c:=c) (st:=t.st) hh.1 hh.2
     have t2:=tT_in (c:=c) (st:=t.st - 1) hh.1 hh.2
     unfold kR
     repeat' split
     all_goals omega
   · unfold kR
     repeat' split
     all_goals omega
 · by_cases hs:t.st=5∨t.st=6
   · have hh:=hat Lb
     rw [Wo hs];omega
   · unfold kJ;rw [if_neg hs]
     repeat' split
     all_goals omega
theorem Q5T (h:Qj c n M) {t:Tw2} (hl:t.live c n):0≤twR c M t∧twR c M t≤3*c.sl:=by
 have sl:=h.cf.2.1
 have:=hl.r
 unfold twR
 repeat' split
 all_goals omega
theorem Q6r (h:Qj c n M) (s:QuS):0≤qR c M s∧qR c M s≤tFq c+4:=by
 have kp:=Zo h
 unfold qR
 repeat' split
 all_goals omega
theorem qB_in (h:Qj c n M) (s:QuS):0≤qB c s∧qB c s≤2*Qw c:=by
 have wo:=h.cf.1
 have q0:0≤Qw c:=by unfold Qw;omega
 unfold qB
 split<;>omega
theorem yR_in (h:Qj c n M) {shut:Prop} {t:Qf} (hl:t.live c w n shut):(0≤yR c M t∧yR c M t≤2*tFq c+2)∧0≤yA M t+yJ t∧yA M t+yJ t≤6:=by
 obtain ⟨s0,s1,tw,w1,ep,hcl,hlk,hfd,hi,hrt,hot,hhd,hwd⟩:=hl
 have wo:=h.cf.1;have sl:=h.cf.2.1
 have K0:c.sl*(c.wo+5)=c.sl*(c.wo+3)+2*c.sl:=by rw [show c.wo+5=(c.wo+3)+2 by omega,Int.mul_add];omega
 have K1:0≤c.sl*(c.wo+3):=Int.mul_nonneg Lb Lb
 have tf:tFq c=c.sl*(c.wo+3)+2*c.sl+9:=by unfold tFq;rw [K0]
 have rj:=KV t.rt
 refine ⟨?_, ?_⟩
 · have hE:0≤yE c M t∧yE c M t≤tFq c+1:=by unfold yE;split<;>omega
   have hB:0≤yB c M t∧yB c M t≤tFq c:=by
    by_cases hs:t.st=3∨t.st=4∨t.st=5∨t.st=6∨t.st=7∨t.st=9∨t.st=10
    · have hat:0≤t.lk.at_∧t.lk.at_≤c.sl∧(t.st≠5→t.lk.at_<c.sl):=by
       by_cases hx:t.st=3∨t.st=5∨t.st=9
       · obtain ⟨f,e1,e2,e3,e4,e5, -⟩:=hlk hx
         rw [JM e1];exact ⟨e3,e4,e5⟩
       · obtain ⟨f,s,e1,e2,e3, -⟩:=hfd Lb
         have:=hi Lb
         rw [JM e1,e3];omega
      obtain ⟨a0,a1,a2⟩:=hat
      have k1:0≤(c.sl - t.lk.at_)*(c.wo+3):=Int.mul_nonneg Lb Lb
      have k2:(c.sl - t.lk.at_)*(c.wo+3)≤c.sl*(c.wo+3):=Int.mul_le_mul_of_nonneg_right Lb Lb
      have k3:=Q8M (c.sl - t.lk.at_) (c.wo+3)
      have k4:t.st≠5→0≤(c.sl - t.lk.at_ - 1)*(c.wo+3):=fun h5=>Int.mul_nonneg (by have:=a2 h5;omega) Lb
      have hr:=Q3k (c:=c) (M:=M) (i:=t.i) (r:=t.rt) (X:=(c.sl - t.lk.at_)+c.sl*(c.wo+3)+c.sl+7) Lb
      unfold yB
      rcases hs with hs|hs|hs|hs|hs|hs|hs
      · simp [hs];omega
      · simp only [hs];simp;omega
      · simp [hs];omega
      · have:=hot hs;have:=k4 Lb;simp [hs];omega
      · have:=k4 Lb;simp [hs];omega
      · simp [hs];omega
      · simp [hs];split<;>omega
    · unfold yB
      repeat' split
      all_goals omega
   unfold yR;omega
 · have hA:1≤yA M t∧yA M t≤4:=by
    unfold yA
    repeat' split
    all_goals omega
   unfold yJ;split<;>omega
theorem wR_in (h:MInv n m) (hw:(w:Int)<m.c.wo):(0≤wR m.c m.M (m.wk w)∧wR m.c m.M (m.wk w)≤Lm m.c)∧0≤wJ m.c m.M (m.wk w)∧wJ m.c m.M (m.wk w)≤Jm m.c:=by
 have L:=h.wk w hw
 have wo:=h.mem.cf.1;have sl:=h.mem.cf.2.1
 have q0:Qw m.c=2*m.c.wo+1:=rfl
 have kp:=Zo h.mem
 have lm:Lm m.c=15*m.c.sl+2*tFq m.c+19:=rfl
 have jm:Jm m.c=m.c.sl+8+2*Qw m.c:=rfl
 have pr:pR m.c=15*m.c.sl+2*tFq m.c+14:=rfl
 have hs:(m.wk w).st=0∨(m.wk w).st=1∨(m.wk w).st=2∨(m.wk w).st=3∨(m.wk w).st=4∨(m.wk w).st=5∨(m.wk w).st=6∨(m.wk w).st=7∨(m.wk w).st=8:=by have:=L.s0;have:=L.s1;omega
 rcases hs with hs|hs|hs|hs|hs|hs|hs|hs|hs
 · unfold wR wJ;simp [hs];omega
 · rw [KJ (.inl hs),Q7Y hs];refine ⟨?_,Lb⟩;split<;>omega
 · rw [Q0f hs,Q0e hs]
   have hl:=L.wk hs
   cases hk:(m.wk w).work with
   |none=>rw [hk] at hl;exact hl.elim
   |get t=>
    rw [hk] at hl
    obtain ⟨a,b⟩:=kR_in h.mem hl.2
    exact ⟨a,by show 0≤kJ m.c t+_∧kJ m.c t+_≤_;omega⟩
   |give g=>
    rw [hk] at hl
    have hr:=Q3k (c:=m.c) (M:=m.M) (i:=g.i) (r:=g.rt) (X:=tFq m.c+3) Lb
    have rj:=KV g.rt
    refine ⟨?_, ?_⟩
    · show 0≤gR m.c m.M g∧gR m.c m.M g≤_
      unfold gR
      repeat' split
      all_goals omega
    · show 0≤gJ g+_∧gJ g+_≤_
      unfold gJ;split<;>omega
   |strm s=>
    refine ⟨?_, ?_⟩
    · show 0≤sR m.c m.M s∧sR m.c m.M s≤_
      unfold sR
      repeat' split
      all_goals omega
    · show 0≤(1:Int)+_∧(1:Int)+_≤_;omega
   |Xl r=>
    rw [hk] at hl
    have ha:=hl.2.a
    have hr:=Q3k (c:=m.c) (M:=m.M) (i:=r.look.at_) (r:=r.rt) (X:=3) Lb
    have hr0:0≤rR m.c m.M r.look.at_ r.rt 0∧rR m.c m.M r.look.at_ r.rt 0≤3:=by
     unfold rR
     repeat' split
     all_goals omega
    have rj:=KV r.rt
    refine ⟨?_, ?_⟩
    · show 0≤rpR m.c m.M r∧rpR m.c m.M r≤_
      unfold rpR
      repeat' split
      all_goals omega
    · show 0≤rpJ m.c r+_∧rpJ m.c r+_≤_
      unfold rpJ;split<;>omega
   |close force drain=>
    refine ⟨?_,by show 0≤(0:Int)+_∧(0:Int)+_≤_;omega⟩
    cases drain with
    |none=>show 0≤tFq m.c+3∧tFq m.c+3≤_;omega
    |some q=>have:=Q6r h.mem q;show 0≤qR m.c m.M q∧qR m.c m.M q≤_;omega
   |stats t=>
    rw [hk] at hl
    have:=Q5T h.mem hl.2
    exact ⟨by show 0≤twR m.c m.M t+tFq m.c+1∧twR m.c m.M t+tFq m.c+1≤_;omega,by show 0≤(0:Int)+_∧(0:Int)+_≤_;omega⟩
 · obtain ⟨t,ht,hlt⟩:=L.tw hs
   rw [KJ Lb,Q7X hs ht]
   have:=Q5T h.mem hlt
   refine ⟨?_,Lb⟩
   unfold cR;split<;>omega
 · obtain ⟨q,hq, -⟩:=L.en hs
   rw [Q82 hs hq,Q0d (.inl hs) hq]
   have:=Q6r h.mem q;have:=qB_in h.mem q;omega
 · obtain ⟨t,ht,hlt⟩:=L.ti hs
   rw [Q81 hs ht,Q7W hs ht]
   obtain ⟨a,b⟩:=yR_in h.mem hlt
   exact ⟨Lb,Lb⟩
 · rw [KJ Lb,wR_6 hs];omega
 · rw [KJ Lb,Q7V hs];refine ⟨?_,Lb⟩;split<;>omega
 · obtain ⟨q,hq, -⟩:=L.le hs
   rw [Q80 hs,Q0d (.inr hs) hq]
   have:=Q6r h.mem q;omega
def Ej (m:Qa):Int:=QS m.c m.M+Qw m.c*((mQ m.M).length:Int)+ZV (fun k=>wJ m.c m.M (m.wk k)) m.ws.length
def Lr (m:Qa):Int:=ZV (fun k=>wR m.c m.M (m.wk k)) m.ws.length
def Phi (m:Qa):Int:=Lr m+(m.c.wo*Lm m.c+1)*Ej m
def Rho (m:Qa):Int:=ZV (fun k=>rho (m.wk k)) m.ws.length
def Em (c:Q0):Int:=4*c.sl+15*Qw c+c.wo*Jm c
def Bm (c:Q0):Int:=c.wo*Lm c+(c.wo*Lm c+1)*Em c
theorem Q7B (h:MInv n m):0≤Lr m∧Lr m≤m.c.wo*Lm m.c:=by
 have:=Wz (b:=Lm m.c) m.ws.length (fun k hk=>(wR_in h (w:=k) (by have:=h.wl;omega)).1)
 rw [h.wl,Int.mul_comm] at this
 exact this
theorem Ej_in (h:MInv n m):0≤Ej m∧Ej m≤Em m.c:=by
 have a:=Wz (b:=Jm m.c) m.ws.length (fun k hk=>(wR_in h (w:=k) (by have:=h.wl;omega)).2)
 rw [h.wl,Int.mul_comm] at a
 have b:=Q7z m.c m.M m.c.sl.toNat
 have l:=h.mem.ln.length
 have wo:=h.mem.cf.1;have sl:=h.mem.cf.2.1
 have q0:0≤Qw m.c:=by unfold Qw;omega
 have q1:Qw m.c*((mQ m.M).length:Int)≤Qw m.c*15:=Int.mul_le_mul_of_nonneg_left Lb q0
 have q2:0≤Qw m.c*((mQ m.M).length:Int):=Int.mul_nonneg q0 Lb
 unfold Ej Em QS;omega
theorem Q7D (h:MInv n m):0≤m.c.wo*Lm m.c:=by
 have kp:=Zo h.mem
 have wo:=h.mem.cf.1;have sl:=h.mem.cf.2.1
 exact Int.mul_nonneg Lb (by unfold Lm;omega)
theorem UG (h:MInv n m):0≤Phi m∧Phi m≤Bm m.c:=by
 have a:=Q7B h;have b:=Ej_in h;have d:=Q7D h
 have e:0≤(m.c.wo*Lm m.c+1)*Ej m:=Int.mul_nonneg Lb b.1
 have f:(m.c.wo*Lm m.c+1)*Ej m≤(m.c.wo*Lm m.c+1)*Em m.c:=Int.mul_le_mul_of_nonneg_left b.2 Lb
 unfold Phi Bm;omega
theorem UE (h:MInv n m):0≤Rho m∧Rho m≤3*m.c.wo:=by
 have:=Wz (b:=3) m.ws.length (fun k _=>Kr (m.wk k))
 rw [h.wl] at this
 exact this
def Y2 (c:Q0):Int:=10000*c.wo*(c.sl+c.wo)
theorem Q6R (h1:1≤c.wo∧c.wo≤4) (h2:1≤c.sl∧c.sl≤5):Bm c≤Y2 c∧Bm c≤230000:=by
 obtain ⟨wo,sl,st,wa,us⟩:=c
 simp only at h1 h2
 have a:wo=1∨wo=2∨wo=3∨wo=4:=Lb
 have b:sl=1∨sl=2∨sl=3∨sl=4∨sl=5:=Lb
 unfold Bm Em Jm Lm Qw tFq Y2
 simp only
 rcases a with rfl|rfl|rfl|rfl<;>rcases b with rfl|rfl|rfl|rfl|rfl<;>decide
end
end Go.Proofs.YtgjklfmnmljilaaGreatDoor
