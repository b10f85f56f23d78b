/- A part of the proof. -/
import Derived.Test.YtgjklfmnmljilaaGreatDoorZR14
namespace Go.Proofs.YtgjklfmnmljilaaGreatDoor
set_option linter.unusedVariables false
set_option linter.unusedSimpArgs false
set_option linter.unusedSectionVars false
set_option linter.unnecessarySimpa false
set_option maxRecDepth 100000
set_option maxHeartbeats 8000000
section
variable {n b:Int} {m m':Qa} {w:Nat} {c:Q0} {M M':List Int} {k:Q8}
def tOf (k:Q8):Qf:=k.ti.getD (Qz 0)
def Need (c:Q0) (M:List Int) (i:Int):Prop:=
 (Q6 M 0≠0∧Jq (SL c M i) 4 (Q6 M 0)=true)∨(Q6 M 0=0∧mQ M≠[]∧(Jp (SL c M i)=true∨(SL c M i).st=0))
def tyL (M:List Int) (i:Int) (t:Qf):Prop:=
 t.st≤2∨(Q6 M 0≠0∧(t.st=3∨t.st=4)∧t.closed=Q6 M 0∧t.lk.at_≤i)∨
 (Q6 M 0=0∧((t.st≤7∧t.closed=0)∨t.st=8∨((t.st=9∨t.st=10)∧t.lk.at_≤i)∨(11≤t.st∧t.st≤14)))
def wl (M:List Int) (i:Int) (k:Q8):Prop:=(1≤k.st∧k.st≤4)∨k.st=7∨(k.st=5∧tyL M i (tOf k))
structure NI (b:Int) (m:Qa):Prop where
 ev:(m.evs.length:Int)+Zw m.ws≤b
 cl:0≤Q6 m.M 0∧Q6 m.M 0≤2
 ax:∀k:Nat,(k:Int)<m.c.wo→(m.wk k).st=5→(tOf (m.wk k)).closed≠0→Q6 m.M 0≠0
 nd:∀i,0≤i→i<m.c.sl→Need m.c m.M i→∃k:Nat,(k:Int)<m.c.wo∧wl m.M i (m.wk k)
def NSt (m m':Qa) (w:Nat):Prop:=(0≤Q6 m'.M 0∧Q6 m'.M 0≤2)∧(Q6 m.M 0≠0→Q6 m'.M 0≠0)∧((m'.wk w).st=5→(tOf (m'.wk w)).closed≠0→Q6 m'.M 0≠0)∧
 ∀i,0≤i→i<m.c.sl→Need m.c m'.M i→wl m'.M i (m'.wk w)∨(Q6 m'.M 0=Q6 m.M 0∧Need m.c m.M i∧¬wl m.M i (m.wk w))
def WB (k:Q8):Prop:=(1≤k.st∧k.st≤4)∨k.st=7∨(k.st=5∧∃u,k.ti=some (Qz u))
theorem WB.end_ {x:EvV}:WB (k.end_ w x):=.inr (.inr ⟨rfl,_,rfl⟩)
theorem WB.wl (h:WB k) (M:List Int) (i:Int):wl M i k:=by
 rcases h with h|h|⟨h,u,e⟩
 · exact .inl h
 · exact .inr (.inl h)
 · refine .inr (.inr ⟨h,.inl ?_⟩)
   unfold tOf;rw [e];simp [Qz]
theorem WB.cl (h:WB k) (h5:k.st=5):(tOf k).closed=0:=by
 rcases h with h|h|⟨h,u,e⟩
 · omega
 · omega
 · unfold tOf;rw [e];rfl
theorem WB.ns {m1:Qa} {k':Q8} (hw:w<m1.ws.length) (hb:WB k') (h0:0≤Q6 m1.M 0∧Q6 m1.M 0≤2) (h1:Q6 m.M 0≠0→Q6 m1.M 0≠0):NSt m (m1.setW w k') w:=by
 have e:(m1.setW w k').wk w=k':=Jg hw k'
 refine ⟨h0,h1,fun a b=> ?_,fun i _ _ _=>.inl ?_⟩
 · rw [e] at a b;exact absurd (hb.cl a) b
 · rw [e];exact hb.wl _ _
theorem WB.ns0 {m1:Qa} {k':Q8} (hw:w<m1.ws.length) (hb:WB k') (h0:0≤Q6 m.M 0∧Q6 m.M 0≤2) (h1:Q6 m1.M 0=Q6 m.M 0):NSt m (m1.setW w k') w:=
 hb.ns hw (by rw [h1];exact h0) (by rw [h1];exact id)
theorem Q5L (h:MInv n m) (hw:(w:Int)<m.c.wo) (hs:(m.wk w).st=2) (h0:0≤Q6 m.M 0∧Q6 m.M 0≤2):NSt m (QM m w) w:=by
 have L:=h.wk w hw
 have hl:=L.wk hs
 have hwl:w<m.ws.length:=by have:=h.wl;omega
 have wo:=h.mem.cf.1
 have on:∀j:Yh,WB {(m.wk w) with work:=j}:=fun j=>.inl (by simp only [hs];omega)
 have z:∀{M':List Int},Q7C m.c m.M M'→Q6 M' 0=Q6 m.M 0:=fun a=>a 0 Lb Lb Lb
 have zc:∀i a b:Int,Q6 (QI m.M (Q5 m.c i) a b) 0=Q6 m.M 0:=fun i a b=>YF h.mem.cf Lb Lb
 unfold QM
 simp only
 cases hk:(m.wk w).work with
 |none=>rw [hk] at hl;exact hl.elim
 |get t=>
  rw [hk] at hl
  obtain ⟨ho,hl⟩:=hl
  simp only
  obtain ⟨m1,good,e1⟩:∃m1 good,(if t.st=9 then m.Qr else (m,false))=(m1,good):=⟨_,_,rfl⟩
  have em:m1.ws=m.ws:=by
   split at e1
   · have e2:m1=m.Qr.1:=(congrArg Prod.fst e1).symm
     rw [e2];rfl
   · have e2:m1=m:=(congrArg Prod.fst e1).symm
     rw [e2]
  obtain ⟨x,hx⟩:∃x,Qg m.c t m.M good=x:=⟨_,rfl⟩
  obtain ⟨t',M'⟩:=x
  have hS:=Yn m.c w t m.M good hl
  rw [hx] at hS
  simp only at hS
  have e0:=z (hS.Wn h.mem.cf hl)
  unfold Xi
  simp only [e1,hx]
  have hw1:w<({m1 with M:=M'}:Qa).ws.length:=by show w<m1.ws.length;rw [em];exact hwl
  split
  · split
    · split
      · exact WB.ns0 hw1 (.inl Lc) h0 e0
      · exact WB.ns0 hw1 (.inl Lc) h0 e0
    · exact WB.ns0 hw1 .end_ h0 e0
  · exact WB.ns0 hw1 (on _) h0 e0
 |give g=>
  rw [hk] at hl
  have e0:=z ((Kw m.c w g m.M hl.2.1).Wn h.mem.cf hl.2.1)
  simp only
  split
  · exact WB.ns0 (m1:={m with M:=_}) hwl .end_ h0 e0
  · exact WB.ns0 (m1:={m with M:=_}) hwl (on _) h0 e0
 |strm s=>
  rw [hk] at hl
  have e0:=z ((V9 m.c w s m.M hl.2.1).Wn h.mem.cf)
  simp only
  split
  · exact WB.ns0 (m1:={m with M:=_}) hwl .end_ h0 e0
  · exact WB.ns0 (m1:={m with M:=_}) hwl (on _) h0 e0
 |Xl r=>
  rw [hk] at hl
  simp only
  unfold J4
  simp only
  split
  · split
    · exact WB.ns0 (m1:=m) hwl (on _) h0 rfl
    · split
      · exact WB.ns0 (m1:=m) hwl .end_ h0 rfl
      · exact WB.ns0 (m1:=m) hwl (on _) h0 rfl
  · split
    · split
      · exact WB.ns0 (m1:=m.Qr.1) hwl (on _) h0 rfl
      · exact WB.ns0 (m1:=m.Qr.1) hwl (on _) h0 rfl
    · split
      · refine WB.ns0 (m1:={m with M:=_}) hwl (on _) h0 ?_
        show Q6 (match J6 r.look.word 10 w 0 with|some (_,next)=>QI m.M (Q5 m.c r.look.at_) r.look.word next|none=>m.M) 0=_
        cases J6 r.look.word 10 w 0 with
        |none=>rfl
        |some x=>exact zc _ _ _
      · rename_i a1 a2 a3
        obtain ⟨t,ht,hlt⟩:=hl.2.rt (by have:=hl.2.s0;have:=hl.2.s1;omega)
        have er:r.rt=t:=by unfold Qy.rt;rw [ht];rfl
        refine WB.ns0 (m1:={m with M:=_}) hwl (on _) h0 ?_
        rw [er]
        exact z ((ZC t m.M hlt.nd).Wn h.mem.cf hlt.cl)
 |close force drain=>
  rw [hk] at hl
  cases drain with
  |some q=>
   have e0:=q_0 h.mem (hl.2 q rfl).1
   simp only
   split
   · exact WB.ns0 (m1:={m with M:=_}) hwl .end_ h0 e0
   · exact WB.ns0 (m1:={m with M:=_}) hwl (on _) h0 e0
  |none=>
   have i0:isIn m.M 0=true:=Jf Lb (by have:=h.mem.len2;omega)
   have e0:Q6 m.M 0=m.M.getD (0:Int).toNat 0:=by unfold Q6;rw [if_pos i0]
   have s0:∀v,m.M.set (0:Int).toNat v=Qp m.M 0 v:=fun v=>by unfold Qp;rw [if_pos i0]
   simp only
   cases force with
   |true=>exact WB.ns (m1:={m with M:=_}) hwl (on _) (by simp only [if_true];rw [Xb i0];omega) (fun _=>by simp only [if_true];rw [Xb i0];omega)
   |false=>
    simp only [Bool.false_eq_true,if_false]
    unfold QI
    split
    · rw [s0];exact WB.ns (m1:={m with M:=_}) hwl (on _) (by simp only;rw [Xb i0];omega) (fun _=>by simp only;rw [Xb i0];omega)
    · exact WB.ns0 (m1:={m with M:=_}) hwl (on _) h0 rfl
 |stats t=>
  simp only
  split
  · exact WB.ns0 (m1:=m) hwl .end_ h0 rfl
  · exact WB.ns0 (m1:=m) hwl (on _) h0 rfl
theorem Q95 {s:Q7} {o:Int} (h:s.st≠2) (h3:s.st≠3):Jq s 4 o=false:=by simp [Jq,isV,h,h3]
theorem Q7b {s:Q7} {o:Int}:Jq s 3 o=true↔Jp s=true∨s.st=0:=by simp [Jq,isV]
theorem Need.not {i:Int} (h:(SL c M i).st≠2) (h3:(SL c M i).st≠3) (h0:Q6 M 0≠0∨(SL c M i).st≠0):¬Need c M i:=by
 rintro (⟨a,b⟩|⟨a,b,d⟩)
 · rw [Q95 h h3] at b;cases b
 · rcases d with d|d
   · simp [Jp,h] at d
   · rcases h0 with e|e
     · exact e a
     · exact e d
theorem Q87 {t t':Qf} (hS:TdS c M t t' M') (hax:t.closed≠0→Q6 M 0≠0):t'.closed≠0→Q6 M 0≠0:=by
 cases hS<;>first|exact hax|exact id
theorem td_11 {t t':Qf} (hS:TdS c M t t' M') (h:t.st=11):11≤t'.st∧t'.st≤14:=by
 cases hS<;>first|(exfalso;omega)|(simp only;omega)
theorem td_7 {t t':Qf} (hS:TdS c M t t' M') (h:t.st=7):t'.st=5∧t'.closed=t.closed:=by
 cases hS<;>first|(exfalso;omega)|exact ⟨rfl,rfl⟩
theorem Q0i {i:Int} {t:Qf} (h:Q6 M 0=0) (h1:t.st≤7) (h2:t.closed=0):tyL M i t:=.inr (.inr ⟨h,.inl ⟨h1,h2⟩⟩)
theorem Q5W {i:Int} {t:Qf} (h:Q6 M 0=0) (h1:t.st=8):tyL M i t:=.inr (.inr ⟨h,.inr (.inl h1)⟩)
theorem Q3b {i:Int} {t:Qf} (h:Q6 M 0=0) (h1:t.st=9∨t.st=10) (h2:t.lk.at_≤i):tyL M i t:=.inr (.inr ⟨h,.inr (.inr (.inl ⟨h1,h2⟩))⟩)
theorem tl_c4 {i:Int} {t:Qf} (h:Q6 M 0=0) (h1:11≤t.st∧t.st≤14):tyL M i t:=.inr (.inr ⟨h,.inr (.inr (.inr h1))⟩)
theorem Q5X (h:Qj c n M) (hn:n≤1000000000) {t t':Qf} (hl:t.live c w n (Jz M)) (hS:TdS c M t t' M') (hax:t.closed≠0→Q6 M 0≠0) {i:Int} (hN:Need c M' i):Need c M i∨tyL M' i t':=by
 obtain ⟨z0,z1⟩:=Q88 h hl hS
 rcases td_SL h hn hl hS i with e|⟨-, -, -, -,e⟩|⟨e,e1|⟨e1,e2⟩⟩|⟨-, -,⟨-,e⟩|⟨-,e⟩⟩|⟨-,e, -⟩
 · by_cases h11:t.st=11
   · by_cases hz:Q6 M 0=0
     · exact .inr (tl_c4 (by rw [z0];exact hz) (td_11 hS h11))
     · left;unfold Need at hN ⊢;rw [z0,e] at hN
       rcases hN with a|⟨a, -⟩
       · exact .inl a
       · exact absurd a hz
   · left;unfold Need at hN ⊢;rw [z0,e,z1 h11] at hN;exact hN
 · exact absurd hN (Need.not Lb Lb (.inr Lb))
 · exact absurd hN (Need.not Lb Lb (.inr Lb))
 · by_cases hz:Q6 M 0=0
   · obtain ⟨f1,f2⟩:=td_7 hS e1
     refine .inr (Q0i (by rw [z0];exact hz) Lb ?_)
     rw [f2]
     by_cases hc:t.closed=0
     · exact hc
     · exact absurd hz (hax hc)
   · exact absurd hN (Need.not Lb Lb (.inl (by rw [z0];exact hz)))
 · exact absurd hN (Need.not Lb Lb (.inr Lb))
 · exact absurd hN (Need.not Lb Lb (.inr Lb))
 · exact .inr (.inl Lb)
theorem Q85 (h:Qj c n M) (hn:n≤1000000000) {t t':Qf} (hl:t.live c w n (Jz M)) (hS:TdS c M t t' M') (hax:t.closed≠0→Q6 M 0≠0) {i:Int} (h0:0≤i) (h1:i<c.sl) (hN:Need c M' i):
 tyL M' i t'∨(Need c M i∧¬tyL M i t):=by
 obtain ⟨z0,z1⟩:=Q88 h hl hS
 rcases Q5X h hn hl hS hax hN with hN0|a
 case inr=>exact .inl a
 by_cases ht:tyL M i t
 case neg=>exact .inr ⟨hN0,ht⟩
 left
 have hlk:=hl.lk
 have E:∀f:Qi,t.look=some f→t.lk=f:=fun f=>JM
 -- none is passed
 have B:∀f:Qi,t.st=3∨t.st=9→t.look=some f→JC (Q6 M (c.slot f.at_)) f.kind f.own=false→(Q6 M 0≠0→t.st=3∧t.closed=Q6 M 0)→(Q6 M 0=0→t.st=9)→f.at_<c.sl→f.at_≠i:=by
  intro f hst hf hw b1 b2 b3 hi
  obtain ⟨f',e1,e2,e3,e4,e5,e6,e7⟩:=hlk Lb
  rw [hf] at e1;cases e1
  have hfit:=ES h e3 b3 hw
  rw [hi] at hfit
  by_cases hz:Q6 M 0=0
  · have:=b2 hz
    rw [e6,this] at hfit
    rcases hN0 with a|⟨-, -,a⟩
    · exact a.1 hz
    · rw [show Xr 9=3 from rfl,Q7b.2 a] at hfit;cases hfit
  · obtain ⟨a1,a2⟩:=b1 hz
    rw [e6,a1,e7 a1,a2] at hfit
    rcases hN0 with a|⟨a, -⟩
    · rw [show Xr 3=4 from rfl,a.2] at hfit;cases hfit
    · exact hz a
 by_cases hA:t.st≤2
 · cases hS<;>first|(exfalso;omega)|exact .inl Ld|skip
   by_cases hz:Q6 M 0=0
   · exact Q0i hz (by simp [Qf.search]) hz
   · exact .inr (.inl ⟨hz,.inl rfl,rfl,by simp [Qf.search,Qf.lk,QE];exact h0⟩)
 rcases ht with ht|⟨hz,ht,hc,ha⟩|⟨hz,ht⟩
 · exact absurd ht hA
 · have hz':Q6 M' 0≠0:=by rw [z0];exact hz
   have hc':t.closed=Q6 M' 0:=by rw [z0];exact hc
   cases hS
   case hit3 f a1 a2 a3 a4=>rw [E _ a2] at ha;exact .inr (.inl ⟨hz',.inr rfl,hc',ha⟩)
   case miss f a1 a2 a3 a4=>
    have a0:t.st=3:=Lb
    have:=B f (.inl a0) a2 a4 (fun _=>⟨a0,hc⟩) (fun x=>absurd x hz) Lb
    rw [E _ a2] at ha
    exact .inr (.inl ⟨hz',.inl a0,hc',by simp only [Qf.lk,Option.getD_some];omega⟩)
   case last3 f a1 a2 a3 a4=>
    have:=B f (.inl a1) a2 a4 (fun _=>⟨a1,hc⟩) (fun x=>absurd x hz) Lb
    rw [E _ a2] at ha;omega
   case goes a1 _ _ _=>exact .inr (.inl ⟨hz',.inr a1,hc',ha⟩)
   case went a1 _ a3 _ _=>exact .inr (.inl ⟨hz',.inl rfl,hc',by rw [E _ (by assumption)] at ha;exact ha⟩)
   all_goals (exfalso;omega)
 · have hz':Q6 M' 0=0:=by rw [z0];exact hz
   have hc:t.st≤7→t.closed=0:=Lb
   have ha:t.st=9∨t.st=10→t.lk.at_≤i:=Lb
   cases hS
   case miss f a1 a2 a3 a4=>
    by_cases h9:t.st=9
    · have:=B f (.inr h9) a2 a4 (fun x=>absurd hz x) (fun _=>h9) Lb
      have ha:=ha (.inl h9)
      rw [E _ a2] at ha
      exact Q3b hz' (.inl h9) (by simp only [Qf.lk,Option.getD_some];omega)
    · exact Q0i hz' Ld (hc Lb)
   case last5 f f' a1 a2 a3=>exact Q5W hz' (if_pos (hc Lb))
   case none8 a1 a2=>
    rcases hN0 with a|⟨-,a, -⟩
    · exact absurd hz a.1
    · exact absurd a2 a
   case head8 a1 a2=>exact Q3b hz' (.inl rfl) (by simp [Qf.search,Qf.lk,QE];exact h0)
   case hit9 f a1 a2 a3 a4=>have ha:=ha (.inl a1);rw [E _ a2] at ha;exact Q3b hz' (.inr rfl) ha
   case last9 f a1 a2 a3 a4=>
    have:=B f (.inr a1) a2 a4 (fun x=>absurd hz x) (fun _=>a1) Lb
    have ha:=ha (.inl a1)
    rw [E _ a2] at ha;omega
   case unkept f a1 a2 a3=>have ha:=ha (.inr a1);rw [E _ a2] at ha;exact Q3b hz' (.inl rfl) ha
   case grant=>exact Q5W hz' rfl
   case lost=>exact Q5W hz' rfl
   case unkeep=>exact .inl Ld
   all_goals first
    |(exfalso;omega)
    |exact tl_c4 hz' Ld
    |exact Q0i hz' (by simp only [Qf.search];omega) (hc Lb)
    |exact Q0i hz' (by simp [Qf.search]) (hc Lb)
theorem Q41 (h:MInv n m) (hn:n≤1000000000) (hw:(w:Int)<m.c.wo) (hs:(m.wk w).st=5) (N:NI b m):NSt m (QK m w) w:=by
 have hwl:w<m.ws.length:=by have:=h.wl;omega
 obtain ⟨t,ht,hlt⟩:=(h.wk w hw).ti hs
 have et:tOf (m.wk w)=t:=by unfold tOf;rw [ht];rfl
 have hax:=N.ax w hw hs
 rw [et] at hax
 unfold QK
 simp only [ht,Option.getD_some]
 have hS:=V7 m.c w n (Jz m.M) t m.M hlt
 generalize Ql m.c t m.M=x at*
 obtain ⟨t',M'⟩:=x
 simp only at hS ⊢
 obtain ⟨z0, -⟩:=Q88 h.mem hlt hS
 have G:∀(m1:Qa) (k':Q8),w<m1.ws.length→m1.M=M'→k'.st≠7∧(k'.st=0∨5≤k'.st)→(k'.st=5→tOf k'=t')→(k'.st≠5→t'.st=17)→NSt m (m1.setW w k') w:=by
  intro m1 k' a1 a2 a3 a4 a5
  have e:(m1.setW w k').wk w=k':=Jg a1 k'
  have e2:(m1.setW w k').M=M':=a2
  refine ⟨by rw [e2,z0];exact N.cl,by rw [e2,z0];exact id,fun b1 b2=> ?_,fun i i0 i1 b=> ?_⟩
  · rw [e] at b1 b2
    rw [a4 b1] at b2
    rw [e2,z0];exact Q87 hS hax b2
  · rw [e2] at b ⊢
    rw [e,z0]
    rcases Q85 h.mem hn hlt hS hax i0 i1 b with d|⟨d1,d2⟩
    · left
      by_cases h5:k'.st=5
      · exact .inr (.inr ⟨h5,by rw [a4 h5];exact d⟩)
      · have:=a5 h5
        unfold tyL at d;omega
    · refine .inr ⟨rfl,d1, ?_⟩
      rintro (x|x|⟨-,x⟩)
      · omega
      · omega
      · rw [et] at x;exact d2 x
 split
 · rename_i h17
   split
   · exact G {m with M:=M'} _ hwl rfl Lc Lc (fun _=>h17)
   · exact G {m with M:=M',evs:=_} _ hwl rfl Lc Lc (fun _=>h17)
 · exact G {m with M:=M'} _ hwl rfl (by simp only [hs];omega) (fun _=>rfl) (fun x=>absurd hs x)
end
section
variable {n b:Int} {m m':Qa} {w:Nat} {c:Q0} {M M':List Int} {k:Q8}
theorem NI.busy (N:NI b m) (hb:WB (m'.wk w)) (e:Q6 m'.M 0=Q6 m.M 0):NSt m m' w:=
 ⟨by rw [e];exact N.cl,by rw [e];exact id,fun h5 x=>absurd (hb.cl h5) x,fun i _ _ _=>.inl (hb.wl _ _)⟩
theorem WB.set {m1:Qa} {k':Q8} (hw:w<m1.ws.length) (hb:WB k'):WB ((m1.setW w k').wk w):=by rw [Jg hw];exact hb
theorem Q5s (h:MInv n m) (hw:(w:Int)<m.c.wo) (hs:(m.wk w).st=3):WB ((Xd m w).wk w)∧Q6 (Xd m w).M 0=Q6 m.M 0:=by
 have hwl:w<m.ws.length:=by have:=h.wl;omega
 unfold Xd
 simp only
 split
 · split
   · exact ⟨WB.set (m1:=m) hwl (.inl Lc),rfl⟩
   · exact ⟨WB.set (m1:=m) hwl .end_,rfl⟩
 · exact ⟨WB.set (m1:=m) hwl (.inl (by simp only [hs];omega)),rfl⟩
theorem Q5f (h:MInv n m) (hw:(w:Int)<m.c.wo) (hs:(m.wk w).st=4):WB ((Xc m w).wk w)∧Q6 (Xc m w).M 0=Q6 m.M 0:=by
 have hwl:w<m.ws.length:=by have:=h.wl;omega
 obtain ⟨q,hq,hlq⟩:=(h.wk w hw).en hs
 have e0:=q_0 h.mem hlq
 unfold Xc
 simp only [hq,Option.getD_some]
 refine ⟨WB.set (m1:={m with M:=_}) hwl ?_,e0⟩
 split
 · split
   · exact .end_
   · exact .inr (.inr ⟨rfl,_,rfl⟩)
 · exact .inl (by simp only [hs];omega)
theorem Q0c (h:MInv n m) (hw:(w:Int)<m.c.wo) (hs:(m.wk w).st=7):WB ((J7 m w).wk w)∧Q6 (J7 m w).M 0=Q6 m.M 0:=by
 have hwl:w<m.ws.length:=by have:=h.wl;omega
 have wo:=h.mem.cf.1
 have e0:Q6 (Qp m.M (3+m.c.wo+(w:Int)) 0) 0=Q6 m.M 0:=QW Lb Lb
 unfold J7
 simp only
 split
 · exact ⟨WB.set (m1:=m) hwl (.inr (.inl hs)),rfl⟩
 · split
   · exact ⟨WB.set (m1:={m with M:=_}) hwl .end_,e0⟩
   · exact ⟨WB.set (m1:={m with M:=_}) hwl (.inl Lc),e0⟩
theorem Q8E (h:MInv n m) (hw:(w:Int)<m.c.wo) (hs:(m.wk w).st=1):WB (XE (m.wk w) m.c w m.M).1∧Q6 (XE (m.wk w) m.c w m.M).2 0=Q6 m.M 0:=by
 unfold XE
 split
 · exact ⟨.inl (by simp only [hs];omega),rfl⟩
 · exact ⟨.inl Lc,QW Lb Lb⟩
theorem DC (h:MInv n m) (hw:(w:Int)<m.c.wo) (hs:(m.wk w).st=8):(WB ((Jo m w).wk w)∨((Jo m w).wk w).st=6∨((Jo m w).wk w).st=8)∧Q6 (Jo m w).M 0=Q6 m.M 0∧∀i,Need m.c (Jo m w).M i→Need m.c m.M i:=by
 have hwl:w<m.ws.length:=by have:=h.wl;omega
 obtain ⟨q,hq,hlq,hnx, -⟩:=(h.wk w hw).le hs
 have e0:=q_0 h.mem hlq
 obtain ⟨e1,e2⟩:=q_1 h.mem hlq hnx
 unfold Jo
 simp only [hq,Option.getD_some]
 refine ⟨?_,e0,fun i=> ?_⟩
 · have e:∀k',(Qa.setW {m with M:=(Qo m.c q m.M).2} w k').wk w=k':=fun k'=>Jg hwl k'
   simp only [e]
   split
   · split
     · exact .inr (.inl rfl)
     · exact .inl .end_
   · exact .inr (.inr (by simp only [hs]))
 · show Need m.c (Qo m.c q m.M).2 i→_
   unfold Need
   rw [e0,e1 i]
   rintro (a|⟨a1,a2,a3⟩)
   · exact .inl a
   · exact .inr ⟨a1,e2 a2,a3⟩
theorem NI.rests (N:NI b m) (hk:(m.wk w).st=6∨(m.wk w).st=8) {m1:Qa} (hb:WB (m'.wk w)∨(m'.wk w).st=6∨(m'.wk w).st=8) (e:Q6 m'.M 0=Q6 m.M 0) (hn:∀i,Need m.c m'.M i→Need m.c m.M i):NSt m m' w:=by
 rcases hb with hb|hb
 · exact N.busy hb e
 · refine ⟨by rw [e];exact N.cl,by rw [e];exact id,fun h5 _=>Lb,fun i _ _ a=>.inr ⟨e,hn i a, ?_⟩⟩
   rintro (x|x|x)<;>omega
theorem Q8e (h:MInv n m) (hn:n≤1000000000) (hw:(w:Int)<m.c.wo) (N:NI b m) (h0:(m.wk w).st≠0):NSt m (Qs m w) w:=by
 have L:=h.wk w hw
 have hwl:w<m.ws.length:=by have:=h.wl;omega
 have s:(m.wk w).st=1∨(m.wk w).st=2∨(m.wk w).st=3∨(m.wk w).st=4∨(m.wk w).st=5∨(m.wk w).st=6∨(m.wk w).st=7∨(m.wk w).st=8:=by have:=L.s0;have:=L.s1;omega
 unfold Qs
 simp only
 rcases s with s|s|s|s|s|s|s|s
 · rw [if_pos s];obtain ⟨a,e⟩:=Q8E h hw s;exact N.busy (WB.set (m1:={m with M:=_}) hwl a) e
 · rw [if_neg Lb,if_pos s];exact Q5L h hw s N.cl
 · rw [if_neg Lb,if_neg Lb,if_pos s];obtain ⟨a,e⟩:=Q5s h hw s;exact N.busy a e
 · rw [if_neg Lb,if_neg Lb,if_neg Lb,if_pos s];obtain ⟨a,e⟩:=Q5f h hw s;exact N.busy a e
 · rw [if_neg Lb,if_neg Lb,if_neg Lb,if_neg Lb,if_pos s];exact Q41 h hn hw s N
 · rw [if_neg Lb,if_neg Lb,if_neg Lb,if_neg Lb,if_neg Lb,if_pos s]
   have hh:=L.half Lb Lb
   have hop:=L.op Lb
   have ho:=L.op0 Lb
   unfold XB
   simp only
   split
   · have l0:({(m.wk w) with st:=7}:Q8).live m.c w n (Jz m.M):=⟨Lc,Lc,fun _=>hop,fun _=>ho,Lc,by simp [hh],L.gr,Lc,Lc,Lc,Lc,Lc,Lc,Lc⟩
     obtain ⟨a,e⟩:=Q0c (h.setW hw l0 (.inl (by unfold runs;simp;omega))) hw (by rw [Jg hwl])
     exact N.busy a e
   · have l0:({(m.wk w) with qu:=some (QX w),st:=8}:Q8).live m.c w n (Jz m.M):=
      ⟨Lc,Lc,fun _=>hop,fun _=>ho,Lc,Lc,L.gr,fun _ _=>hh,Lc,Lc,Lc,fun _=>⟨_,rfl,⟨⟨⟨by simp [QX],by simp [QX]⟩,by simp [QX],by simp [QX],by simp [QX]⟩,by simp [QX],by simp [QX],hw,by simp [QX]⟩,.inl rfl,rfl⟩,Lc,Lc⟩
     obtain ⟨a,e,f⟩:=DC (h.setW hw l0 (.inl (by unfold runs;simp;omega))) hw (by rw [Jg hwl])
     exact N.rests (m1:=m) (.inl s) a e f
 · rw [if_neg Lb,if_neg Lb,if_neg Lb,if_neg Lb,if_neg Lb,if_neg Lb,if_pos s];obtain ⟨a,e⟩:=Q0c h hw s;exact N.busy a e
 · rw [if_neg Lb,if_neg Lb,if_neg Lb,if_neg Lb,if_neg Lb,if_neg Lb,if_neg Lb,if_pos s]
   obtain ⟨a,e,f⟩:=DC h hw s
   exact N.rests (m1:=m) (.inr s) a e f
theorem NI.step (N:NI b m) (h:MInv n m) (hn:n≤1000000000) (hw:(w:Int)<m.c.wo) (h0:(m.wk w).st≠0):NI b (Qs m w):=by
 obtain ⟨k',S, -⟩:=ZA h hn hw h0
 obtain ⟨I,W1,W2⟩:=S.inv h hw
 obtain ⟨a1,a2,a3,a4⟩:=Q8e h hn hw N h0
 have hwl:=h.wl
 have r0:runs (m.wk w)=1:=by unfold runs;rw [if_neg h0]
 refine ⟨?_,a1,fun k hk h5 hc=> ?_,fun i i0 i1 hd=> ?_⟩
 · have:=S.rn;have:=N.ev
   rw [S.ws,YP _ _ _ Lb]
   unfold Qa.wk at r0;omega
 · by_cases hkw:k=w
   · subst hkw;exact a3 h5 hc
   · rw [W2 k hkw] at h5 hc
     rw [S.c] at hk
     exact a2 (N.ax k hk h5 hc)
 · rw [S.c] at i1 hd ⊢
   rcases a4 i i0 i1 hd with e|⟨e1,e2,e3⟩
   · exact ⟨w,hw,e⟩
   · obtain ⟨j,hj,hwj⟩:=N.nd i i0 i1 e2
     have hjw:j≠w:=fun x=>by rw [x] at hwj;exact e3 hwj
     refine ⟨j,hj, ?_⟩
     rw [W2 j hjw]
     unfold wl tyL at hwj ⊢
     rw [e1];exact hwj
theorem NI.alike {m':Qa} (N:NI b m) (e1:m'.c=m.c) (e2:m'.M=m.M) (e3:m'.ws=m.ws) (e4:m'.evs=m.evs):NI b m':=by
 have e:∀k,m'.wk k=m.wk k:=fun k=>by unfold Qa.wk;rw [e3]
 exact ⟨by rw [e4,e3];exact N.ev,by rw [e2];exact N.cl,fun k hk=>by rw [e,e2];rw [e1] at hk;exact N.ax k hk,fun i i0 i1 hd=>by
  rw [e1] at i1 hd ⊢;rw [e2] at hd ⊢;simp only [e];exact N.nd i i0 i1 hd⟩
theorem NI.mono {b':Int} (N:NI b m) (hb:b≤b'):NI b' m:={N with ev:=Int.le_trans N.ev hb}
theorem NI.do_ (N:NI b m) (g:GI c m) (hn:m.entries≤900000000) (x:QD):NI (if x.kind=0 then b+2 else b) (doV m x).1:=by
 obtain ⟨-,Y⟩:=g.do_ hn x
 have hwl:=g.i.wl
 have sl:=g.i.mem.cf.2.1
 generalize (doV m x).1=m' at*
 generalize (doV m x).2=did at*
 have hb:b≤(if x.kind=0 then b+2 else b):=by split<;>omega
 cases Y with
 |quiet e1 e2 e3 e4=>exact (N.alike e1 e2 e3 e4).mono hb
 |asks j h0 hx hj hs ho e1 e2 e3 e4 e5=>
  rw [if_pos h0]
  have W:∀k,m'.wk k=if k=j then {Ju with st:=1,ask:=x.ask} else m.wk k:=fun k=>by
   unfold Qa.wk
   rw [e3,Zp]
   by_cases hk:k=j
   · rw [if_pos ⟨hk,Lb⟩,if_pos hk]
   · rw [if_neg (fun e=>hk e.1),if_neg hk]
  refine ⟨?_,by rw [e2];exact N.cl,fun k hk h5 hc=> ?_,fun i i0 i1 hd=> ?_⟩
  · have:=N.ev
    rw [e4,e3,YP _ _ _ Lb,List.length_append,List.length_singleton]
    have r1:=VZ (m.ws.getD j Ju);have r2:=VZ ({Ju with st:=1,ask:=x.ask}:Q8)
    omega
  · rw [W] at h5 hc
    rw [e1] at hk
    by_cases hkj:k=j
    · rw [if_pos hkj] at h5;simp at h5
    · rw [if_neg hkj] at h5 hc;rw [e2];exact N.ax k hk h5 hc
  · rw [e1] at i1 hd ⊢
    rw [e2] at hd ⊢
    obtain ⟨k,hk,hw⟩:=N.nd i i0 i1 hd
    refine ⟨k,hk, ?_⟩
    rw [W]
    split
    · exact .inl Lc
    · exact hw
 |step j h1 hx hj hs=>
  have B:MInv m.entries {m with at_:=m.entries,entries:=m.entries+1}:=⟨g.i.mem,g.i.gd,g.i.bd,g.i.ah,g.i.nw,g.i.ev,g.i.wl,g.i.wk⟩
  exact (NI.step (m:={m with at_:=m.entries,entries:=m.entries+1}) (N.alike rfl rfl rfl rfl) B Lb hj (fun e=>hs (.inl e))).mono hb
 |breaks i u h4 hi hu e1 e2 e3 e4 e5=>
  have hr:=(g.i.mem.at i).1
  have hur:=JF hr hu
  obtain ⟨u1,u2,u3⟩:=nst hu
  have z0:Q6 m'.M 0=Q6 m.M 0:=by rw [e2];exact g.i.mem.YV hi u Lb
  have zq:mQ m'.M=mQ m.M:=by rw [e2];exact g.i.mem.KX hi u
  have e:∀k,m'.wk k=m.wk k:=fun k=>by unfold Qa.wk;rw [e3]
  refine (⟨by rw [e4,e3];exact N.ev,by rw [z0];exact N.cl,fun k hk=>by rw [e,z0];rw [e1] at hk;exact N.ax k hk,fun j j0 j1 hd=> ?_⟩:NI b m').mono hb
  rw [e1] at j1 hd ⊢
  have hd2:Need m.c m.M j:=by
   unfold Need at hd ⊢
   rw [z0,zq,e2,g.i.mem.Kc hi hur] at hd
   by_cases hji:j=i
   · rw [if_pos hji] at hd;rw [hji]
     rcases hd with ⟨a,b⟩|⟨-, -,b|b⟩
     · refine .inl ⟨a, ?_⟩
       have:=N.cl
       simp only [Jq,isV,u2,u3] at b ⊢
       rcases u1 with d|d|d<;>simp [d] at b ⊢ <;>omega
     · simp [Jp,u3] at b
     · omega
   · rw [if_neg hji] at hd;exact hd
  obtain ⟨k,hk,hw⟩:=N.nd j j0 j1 hd2
  refine ⟨k,hk, ?_⟩
  rw [e]
  unfold wl tyL at hw ⊢
  rw [z0];exact hw
theorem NI.new (hc:c.fits):NI 0 (J5 c):=by
 have z:Q6 (J5 c).M 0=0:=VL _ _
 have zq:mQ (J5 c).M=[]:=by
  unfold mQ
  rw [show Q6 (J5 c).M 1=0 from VL _ _];exact Q3g
 refine ⟨?_,by rw [z];omega,fun k _ h5=>by rw [WE] at h5;simp [Ju] at h5,fun i _ _ hd=> ?_⟩
 · have:∀n:Nat,Zw (List.replicate n Ju)=0:=fun n=>by
    induction n with
    |zero=>rfl
    |succ k ih=>unfold Zw at ih ⊢;rw [List.replicate_succ,List.map_cons,List.sum_cons,ih];rfl
   show ((([]:List EvV).length:Nat):Int)+Zw (List.replicate c.wo.toNat Ju)≤0
   rw [this];simp
 · rcases hd with ⟨a, -⟩|⟨-,a, -⟩
   · exact absurd z a
   · exact absurd zq a
theorem Q01 {i:Int} (hi:¬(0≤i∧i<c.sl)):SL c M i=Vy:=by unfold SL;rw [JU i hi,YW,Q1q];rfl
structure Still (c:Q0) (M:List Int):Prop where
 i:Q6 M 0≠0→∀i,(SL c M i).st≠2
 l:Q6 M 0=2→∀i,(SL c M i).st≠3
 q:Q6 M 0=0→mQ M≠[]→∀i,(SL c M i).st=2→(SL c M i).br=true
theorem NI.still (N:NI b m) (hr:YM m):Still m.c m.M:=by
 have hN:∀i,0≤i→i<m.c.sl→¬Need m.c m.M i:=by
  intro i i0 i1 hd
  obtain ⟨k,hk,hw⟩:=N.nd i i0 i1 hd
  rcases hr k hk with h|⟨h, -⟩
  · rcases hw with x|x|x<;>omega
  · rcases hw with x|x|x<;>omega
 have O:∀(P:Int→Prop),(∀i,0≤i→i<m.c.sl→P i)→(∀i,SL m.c m.M i=Vy→P i)→∀i,P i:=fun P a b' i=>by
  by_cases hi:0≤i∧i<m.c.sl
  · exact a i hi.1 hi.2
  · exact b' i (Q01 hi)
 have hcl:=N.cl
 refine ⟨fun h0=>O _ (fun i i0 i1 h2=>hN i i0 i1 (.inl ⟨h0, ?_⟩)) (fun i e=>by rw [e];simp [Vy]),fun h0=>O _ (fun i i0 i1 h3=>hN i i0 i1 (.inl ⟨Lb, ?_⟩)) (fun i e=>by rw [e];simp [Vy]),
  fun h0 hq=>O (fun i=>(SL m.c m.M i).st=2→(SL m.c m.M i).br=true) (fun i i0 i1 h2=> ?_) (fun i e=>by rw [e];simp [Vy])⟩
 · have:Q6 m.M 0=1∨Q6 m.M 0=2:=Lb
   rcases this with a|a<;>simp [Jq,isV,h2,a]
 · simp [Jq,isV,h3,h0]
 · cases hbr:(SL m.c m.M i).br with
   |true=>rfl
   |false=>exact absurd (.inr ⟨h0,hq,.inl (by simp [Jp,h2,hbr])⟩) (hN i i0 i1)
end
section
variable {n b many:Int} {m m':Qa} {w j:Nat} {c:Q0} {M M' M1:List Int} {k:Q8} {E0:List EvV}
def Wt (c:Q0) (M1 M:List Int) (now:Int) (k:Q8):Prop:=
 k.st=0∨(k.st=6∧¬(k.timed=true∧k.ask.dl≤now))∨k.st=7∨(k.st=1∧k.ask.op=0∧0<k.grant)∨
 (k.st=2∧∃t,k.work=.get t∧9≤t.st∧(10≤t.st→t.st≤12→(SL c M1 t.i).st≠3))∨
 (k.st=5∧k.parks=false∧(11≤(tOf k).st→(tOf k).st≤14→(SL c M (tOf k).i).st≠4)∧((tOf k).st=4→(tOf k).rt.st=.swap→∀s:Q7,s.right→(tOf k).rt.word=s.enc→s.st=2→s.br=true∨Q6 M 0≠0))
def Alone (c:Q0) (M1:List Int) (m:Qa):Prop:=(∀i,(SL c M1 i).st=2→(SL c M1 i).br=false)∧Q6 m.M 0=0∧mQ m.M=[]∧∀k:Nat,(k:Int)<c.wo→(m.wk k).st=5→(tOf (m.wk k)).st≤8∨15≤(tOf (m.wk k)).st
structure TI (c:Q0) (M1:List Int) (w:Nat) (many:Int) (E0:List EvV) (m:Qa):Prop where
 cl:Q6 m.M 0=Q6 M1 0
 le:∀i,(SL c M1 i).st=3→SL c m.M i=SL c M1 i
 i1:∀i,(SL c M1 i).st=2→SL c m.M i=SL c M1 i
 i2:∀i,(SL c m.M i).st=2→(SL c M1 i).st=2
 al:(∀i,(SL c M1 i).st≠2)∨Alone c M1 m
 sh:Q6 M1 0=2→∀i,(SL c M1 i).st≠3
 wk:∀k:Nat,(k:Int)<c.wo→Wt c M1 m.M m.now (m.wk k)
 me:∃X,m.evs=E0++X∧(((m.wk w).st=5∧(m.wk w).ans.e=0∧(m.wk w).ans.slot=many∧∀x∈X,x.ended=true→x.who≠w)∨
  ((m.wk w).st=0∧(∃x∈X,x.ended=true∧x.who=w)∧∀x∈X,x.ended=true→x.who=w→x.e=0∧x.slot=many))
structure Eff (c:Q0) (M1 M M':List Int):Prop where
 z:Q6 M' 0=Q6 M 0
 s:∀i,SL c M' i=SL c M i∨((SL c M i).st≠2∧((SL c M i).st=3→(SL c M1 i).st≠3)∧(SL c M' i).st≠2∧(SL c M' i).st≠4)
theorem Eff.four (f:Eff c M1 M M') {i:Int} (h:(SL c M i).st≠4):(SL c M' i).st≠4:=by
 rcases f.s i with e|⟨-, -, -,e⟩
 · rw [e];exact h
 · exact e
theorem Eff.tame (f:Eff c M1 M M') {now:Int} (h:Wt c M1 M now k):Wt c M1 M' now k:=by
 rcases h with h|h|h|h|h|⟨a,a2,a3,a4⟩
 · exact .inl h
 · exact .inr (.inl h)
 · exact .inr (.inr (.inl h))
 · exact .inr (.inr (.inr (.inl h)))
 · exact .inr (.inr (.inr (.inr (.inl h))))
 · exact .inr (.inr (.inr (.inr (.inr ⟨a,a2,fun x y=>f.four (a3 x y),by rw [f.z];exact a4⟩))))
theorem U0 {now:Int} {M:List Int} {x:EvV}:Wt c M1 M now (k.end_ w x):=.inr (.inr (.inr (.inr (.inr ⟨rfl,rfl,by simp [tOf,Q8.end_,Q8.QT,Qz],by simp [tOf,Q8.end_,Q8.QT,Qz]⟩))))
theorem TI.next (T:TI c M1 w many E0 m) (hc:m.c=c) (hj:(j:Int)<c.wo) (hwl:j<m.ws.length) {k':Q8} (ews:m'.wk j=k') (eo:∀i,i≠j→m'.wk i=m.wk i) (en:m'.now=m.now) (f:Eff c M1 m.M m'.M)
 (ht:Wt c M1 m'.M m.now k') (ha:Alone c M1 m→mQ m'.M=[]∧(k'.st=5→(tOf k').st≤8∨15≤(tOf k').st))
 (hme:∃X,m'.evs=E0++X∧(((m'.wk w).st=5∧(m'.wk w).ans.e=0∧(m'.wk w).ans.slot=many∧∀x∈X,x.ended=true→x.who≠w)∨
 ((m'.wk w).st=0∧(∃x∈X,x.ended=true∧x.who=w)∧∀x∈X,x.ended=true→x.who=w→x.e=0∧x.slot=many))):TI c M1 w many E0 m':=by
 have W:∀i,m'.wk i=if i=j then k' else m.wk i:=fun i=>by
  by_cases h:i=j
  · rw [if_pos h,h,ews]
  · rw [if_neg h,eo i h]
 refine ⟨by rw [f.z];exact T.cl,fun i h=> ?_,fun i h=> ?_,fun i h=> ?_, ?_,T.sh,fun i hi=> ?_,hme⟩
 · have e:=T.le i h
   rcases f.s i with g|⟨-,g, -⟩
   · rw [g];exact e
   · exact absurd h (g (by rw [e];exact h))
 · have e:=T.i1 i h
   rcases f.s i with g|⟨g, -⟩
   · rw [g];exact e
   · rw [e] at g;exact absurd h g
 · rcases f.s i with g|⟨-, -,g, -⟩
   · rw [g] at h;exact T.i2 i h
   · exact absurd h g
 · rcases T.al with a|a
   · exact .inl a
   · obtain ⟨g1,g2⟩:=ha a
     obtain ⟨a1,a2,a3,a4⟩:=a
     refine .inr ⟨a1,by rw [f.z];exact a2,g1,fun i hi h5=> ?_⟩
     rw [W] at h5 ⊢
     split at h5
     · rename_i e;rw [if_pos e];exact g2 h5
     · rename_i e;rw [if_neg e];exact a4 i hi h5
 · rw [W,en]
   split
   · exact ht
   · exact f.tame (T.wk i hi)
theorem td_14 (h:Qj c n M) {t t':Qf} (hS:TdS c M t t' M') (h1:11≤t'.st) (h2:t'.st≤14):t'.i=t.i∧((11≤t.st∧t.st≤14)∨(SL c M t.i).st≠4):=by
 cases hS
 case keep s u a1 a2 a3 a4=>
  refine ⟨rfl,.inr ?_⟩
  rw [(h.swp a2 a3 a4).1]
  by_cases h2:s.st=2
  · omega
  · rw [if_neg h2] at a3;have:=(nst a3).1;omega
 case last5 f f' a1 a2 a3=>simp only at h1 h2;split at h1<;>split at h2<;>omega
 all_goals first
  |(exfalso;simp only [Qf.search] at h1 h2;omega)
  |exact ⟨rfl,.inl Lb⟩
theorem RtS.st {r r':J2} (hS:RtS M r r' M'):r'.st≠.swap:=by cases hS<;>simp [J2.fin]
theorem td_4 (h:Qj c n M) {shut:Prop} {t t':Qf} (hl:t.live c w n shut) (hS:TdS c M t t' M') (h4:t'.st=4) (hs:t'.rt.st=.swap):∃s:Q7,s.right∧t'.rt.word=s.enc∧(s.st=2→s.br=true∨t.closed≠0):=by
 cases hS
 case hit3 f a1 a2 a3 a4=>
  obtain ⟨f',e1,e2,e3,e4,e5,e6,e7⟩:=hl.lk (.inl a1)
  rw [a2] at e1;cases e1
  obtain ⟨b1,b2,b3⟩:=h.ZL e3 a3 a4
  refine ⟨_,b1,b2,fun h2=> ?_⟩
  rw [e6,a1,e7 a1] at b3
  simp [Xr,Jq,isV,h2] at b3
  rcases b3 with (b3|b3)|b3
  · exact .inl b3
  · right;omega
  · right;omega
 case goes a1 a2 a3 a4=>exact absurd hs (RtS.st (by assumption))
 case last5 f f' a1 a2 a3=>simp only at h4;split at h4<;>omega
 all_goals (exfalso;simp only [Qf.search] at h4;omega)
theorem td_8 {t t':Qf} (hS:TdS c M t t' M') (hq:mQ M=[]) (h:t.st≤8∨15≤t.st):t'.st≤8∨15≤t'.st:=by
 cases hS
 case last5 f f' a1 a2 a3=>simp only;split<;>omega
 case head8 a1 a2=>exact absurd hq a2
 all_goals first
  |(exfalso;omega)
  |(simp only [Qf.search];omega)
  |exact .inl (by simp [Qf.search])
theorem Q1U (h:MInv n m) (hj:(j:Int)<m.c.wo) (hs:(m.wk j).st=5) (hp:(m.wk j).parks=false):∃t t' M',(m.wk j).ti=some t∧t.live m.c j n (Jz m.M)∧TdS m.c m.M t t' M'∧(QK m j).M=M'∧
 (((QK m j).wk j={(m.wk j) with ti:=some t'}∧(QK m j).evs=m.evs)∨((QK m j).wk j={(m.wk j) with ti:=some t',st:=0}∧(QK m j).evs=m.evs++[{(m.wk j).ans with ended:=true,who:=j,at_:=m.at_,ask:=(m.wk j).ask}])):=by
 have hwl:j<m.ws.length:=by have:=h.wl;omega
 obtain ⟨t,ht,hlt⟩:=(h.wk j hj).ti hs
 refine ⟨t,_,_,ht,hlt,V7 m.c j n (Jz m.M) t m.M hlt, ?_⟩
 unfold QK
 simp only [ht,Option.getD_some,hp,Bool.false_eq_true,if_false]
 split
 · exact ⟨rfl,.inr ⟨Jg (m:={m with M:=_,evs:=_}) hwl _,rfl⟩⟩
 · exact ⟨rfl,.inl ⟨Jg (m:={m with M:=_}) hwl _,rfl⟩⟩
theorem TI.Q1W (T:TI c M1 w many E0 m) (N:NI b m) (h:MInv n m) (hn:n≤1000000000) (hc:m.c=c) (hj:(j:Int)<c.wo) (hs:(m.wk j).st=5):
 Eff c M1 m.M (QK m j).M∧Wt c M1 (QK m j).M m.now ((QK m j).wk j)∧(Alone c M1 m→mQ (QK m j).M=[]∧(((QK m j).wk j).st=5→(tOf ((QK m j).wk j)).st≤8∨15≤(tOf ((QK m j).wk j)).st))∧
 ((((QK m j).wk j).st=5∧((QK m j).wk j).ans=(m.wk j).ans∧(QK m j).evs=m.evs)∨(((QK m j).wk j).st=0∧∃x:EvV,x.ended=true∧x.who=j∧x.e=(m.wk j).ans.e∧x.slot=(m.wk j).ans.slot∧(QK m j).evs=m.evs++[x])):=by
 subst hc
 have hT:(m.wk j).parks=false∧(11≤(tOf (m.wk j)).st→(tOf (m.wk j)).st≤14→(SL m.c m.M (tOf (m.wk j)).i).st≠4)∧((tOf (m.wk j)).st=4→(tOf (m.wk j)).rt.st=.swap→∀s:Q7,s.right→(tOf (m.wk j)).rt.word=s.enc→s.st=2→s.br=true∨Q6 m.M 0≠0):=by
  rcases T.wk j hj with x|x|x|x|x|x
  · omega
  · omega
  · omega
  · omega
  · omega
  · exact x.2
 obtain ⟨hp,h14,h4⟩:=hT
 obtain ⟨t,t',M',ht,hlt,hS,eM,E⟩:=Q1U h hj hs hp
 have et:tOf (m.wk j)=t:=by unfold tOf;rw [ht];rfl
 have hax:=N.ax j hj hs
 have hal:Alone m.c M1 m→t.st≤8∨15≤t.st:=fun a=>by have:=a.2.2.2 j hj hs;rwa [et] at this
 rw [et] at h14 h4 hax
 obtain ⟨z0,z1⟩:=Q88 h.mem hlt hS
 -- an Idle slot is none that is turned
 have hI:∀i,(SL m.c m.M i).st=2→(t.st=4∧t.rt.st=.swap∧t.rt.word=(SL m.c m.M i).enc)∨t.st=10→False:=by
  intro i hi hx
  have hi1:=T.i2 i hi
  rcases T.al with a|a
  · exact a i hi1
  · rcases hx with ⟨x1,x2,x3⟩|x
    · rcases h4 x1 x2 _ (h.mem.at i).1 x3 hi with y|y
      · rw [T.i1 i hi1,a.1 i hi1] at y;cases y
      · exact y a.2.1
    · have:=hal a;omega
 have f:Eff m.c M1 m.M M':=⟨z0,fun i=>by
  rcases td_SL h.mem hn hlt hS i with e|⟨a1,a2,a3,⟨a4,a5⟩,a6⟩|⟨e,e1⟩|⟨a1,a2,a3⟩|⟨a1,a2,a3,a4⟩
  · exact .inl e
  · rcases a5 with a5|a5
    · exact (hI i a5 (.inl ⟨a1,a2,a3⟩)).elim
    · refine .inr ⟨Lb,fun _=>T.sh ?_ i,Lb,Lb⟩
      rw [←T.cl];exact a4 a5
  · exact .inr ⟨Lb,fun x=>Lb,Lb,Lb⟩
  · rcases a3 with ⟨a3, -⟩|⟨a3,a4⟩
    · exact (hI i a3 (.inr a1)).elim
    · exact .inr ⟨Lb,fun x=>Lb,Lb,Lb⟩
  · rcases a4 with ⟨a4, -⟩|⟨a4,a5⟩
    · rw [a3] at a4;exact absurd a4 (h14 Lb Lb)
    · exact .inr ⟨Lb,fun x=>Lb,Lb,Lb⟩⟩
 rw [eM]
 have hq:Alone m.c M1 m→mQ M'=[]:=fun a=>by rw [z1 (by have:=hal a;omega)];exact a.2.2.1
 rcases E with ⟨e1,e2⟩|⟨e1,e2⟩
 · rw [e1,e2]
   refine ⟨f,.inr (.inr (.inr (.inr (.inr ⟨hs,hp, ?_, ?_⟩)))),fun a=>⟨hq a,fun _=>td_8 hS a.2.2.1 (hal a)⟩,.inl ⟨hs,rfl,rfl⟩⟩
   · show 11≤t'.st→t'.st≤14→(SL m.c M' t'.i).st≠4
     intro x y
     obtain ⟨g1,g2⟩:=td_14 h.mem hS x y
     rw [g1]
     rcases g2 with g2|g2
     · exact f.four (h14 g2.1 g2.2)
     · exact f.four g2
   · show t'.st=4→t'.rt.st=.swap→∀s:Q7,s.right→t'.rt.word=s.enc→s.st=2→s.br=true∨Q6 M' 0≠0
     intro x y s hs' hw h2
     obtain ⟨s',g1,g2,g3⟩:=td_4 h.mem hlt hS x y
     have:s=s':=by
      have a:=QF hs';have b:=QF g1
      rw [←hw,g2,b] at a;exact (Option.some.inj a).symm
     subst this
     rcases g3 h2 with y|y
     · exact .inl y
     · right;rw [z0];exact hax y
 · rw [e1,e2]
   exact ⟨f,.inl rfl,fun a=>⟨hq a,Lc⟩,.inr ⟨rfl,{(m.wk j).ans with ended:=true,who:=j,at_:=m.at_,ask:=(m.wk j).ask},rfl,rfl,rfl,rfl,rfl⟩⟩
end
end Go.Proofs.YtgjklfmnmljilaaGreatDoor
