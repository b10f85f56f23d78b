/- A part of the proof. -/
import Derived.Test.YtgjklfmnmljilaaGreatDoorZR09
namespace Go.Proofs.YtgjklfmnmljilaaGreatDoor
set_option linter.unusedVariables false
set_option linter.unusedSimpArgs false
set_option linter.unusedSectionVars false
set_option linter.unnecessarySimpa false
set_option maxRecDepth 100000
set_option maxHeartbeats 8000000
section
variable {n:Int} {m:Qa} {w:Nat}
theorem QV {M':List Int} {k':Q8} {m1:Qa} (hc:m1.c=m.c) (hws:m1.ws=m.ws) (hev:m1.evs=m.evs) (ha:m1.at_=m.at_) (he:m1.entries=m.entries) (hnow:m1.now=m.now) (hM:m1.M=M')
 (st:StM m.c (n+1) m.M M') (lv:k'.live m.c w (n+1) (Jz M')) (ask:k'.ask=(m.wk w).ask) (tr:Tr m.c w m.M M' (XC (m.wk w)) (XC k')) (s0:(m.wk w).st≠0:=by omega)
 (wn:V3 m m1:=by first|exact V3.refl m|exact V3.next m):
 ∃k'',VW n m w (m1.setW w k') k''∧Told n m w (m1.setW w k') k'':=by
 subst hM
 exact ⟨k',⟨s0,wn,by have:=VZ k';rw [show (m1.setW w k').evs=m1.evs from rfl,hev];omega,hc,by simp only [Qa.setW,hws],ha,he,hnow,st,lv,ask⟩,fun _=>.inl ⟨hev,tr⟩⟩
theorem Xj {c:Q0} {n':Int} {sh sh':Prop} {k:Q8} {j:Yh} (L:k.live c w n sh) (hs:k.st=2) (hj:j.live c w n' k.ask):({k with work:=j}:Q8).live c w n' sh':=
 ⟨by simp only [hs];omega,by simp only [hs];omega,fun _=>L.op Lb,by simp only [hs];omega,by simp only [hs];omega,by simp only [hs];omega,L.gr,fun _ _=>L.half Lb Lb,fun _=>hj,by simp only [hs];omega,by simp only [hs];omega,by simp only [hs];omega,by simp only [hs];omega,by simp only [hs];omega⟩
theorem Q5Q {k:Q8} (h:k.st=5) (h1:k.parks=false) (h2:k.ans.e=0) (h3:k.ask.op=1∨k.ask.op=2):XC k=.si k.ask.slot k.ask.gen:=by
 rw [Ef h h1 h2,if_neg Lb,if_pos h3]
theorem Q5R {k:Q8} (h:k.st=5) (h1:k.parks=false) (h2:k.ans.e=0) (h3:k.ask.op=3∨k.ask.op=4):XC k=.de k.ask.slot k.ask.gen k.ans.stream.toNat (decide (k.ask.op=3)):=by
 rw [Ef h h1 h2,if_neg Lb,if_neg Lb,if_pos h3]
theorem Z0b {P:Prop} (h:P:=by
 refine QV rfl rfl rfl rfl rfl rfl rfl h.mem.stays (by refine XI ?_ hw ?_ ?_ ?_ ?_;exact Lb;exact hop;exact L.gr;exact hh;exact (fun _=>⟨by first|omega|(simp only;omega),by first|omega|(simp only;omega)⟩)) rfl ?_
 rw [R0,X0 rfl (.inr (.inr (.inl (by simp only [Q8.end_,Q8.QT];omega))))];exact Q _):P:=h
theorem Q1P (h:MInv n m) (hn:n≤1000000000) (hw:(w:Int)<m.c.wo) (hs:(m.wk w).st=2):∃k',VW n m w (QM m w) k'∧Told n m w (QM m w) k':=by
 have L:=h.wk w hw
 have hl:=L.wk hs
 have hh:=L.half Lb Lb
 have hn0:=h.mem.n0
 have hop:=L.op Lb
 have Q:∀r,Tr m.c w m.M m.M r r:=fun r=>.quiet rfl rfl
 have R0:=ZJ hs
 unfold QM
 simp only
 cases hk:(m.wk w).work with
 |none=>rw [hk] at hl;exact hl.elim
 |get t=>exact Q72 h hn hw hs hk
 |give g=>
  rw [hk] at hl R0
  obtain ⟨ho,hl,hi,hg⟩:=hl
  simp only
  have hS:=Kw m.c w g m.M hl
  generalize Qv m.c g m.M=x at*
  obtain ⟨g',M'⟩:=x
  simp only at hS ⊢
  obtain ⟨st,tr,e1,e2,hlv⟩:=Q92 h.mem hn hl hS
  by_cases h4:g'.st=4
  · rw [if_pos h4]
    refine QV rfl rfl rfl rfl rfl rfl rfl st (by refine XI ?_ hw ?_ ?_ ?_ ?_;exact Lb;exact hop;exact L.gr;exact hh;exact (fun _=>⟨by first|omega|(simp only;omega),by first|omega|(simp only;omega)⟩)) rfl ?_
    rw [R0]
    by_cases h0:g'.e=0
    · rw [Q5Q rfl rfl (by exact h0) (by exact ho)]
      show Tr m.c w m.M M' (Y3 g) (.si (m.wk w).ask.slot (m.wk w).ask.gen)
      rw [←hi,←hg,←e1,←e2,←Q1h ⟨h4,h0⟩]
      exact tr
    · rw [X0 rfl (.inr (.inl h0)),←Jt (.inr (.inr ⟨h4,h0⟩))]
      exact tr
  · rw [if_neg h4]
    refine QV rfl rfl rfl rfl rfl rfl rfl st (Xj L hs ⟨ho,hlv h4,by rw [e1,hi],by rw [e2,hg]⟩) rfl ?_
    rw [R0,ZJ (by exact hs)]
    exact tr
 |strm s=>
  rw [hk] at hl R0
  obtain ⟨ho,hl,hi,hg,hop'⟩:=hl
  simp only
  have hS:=V9 m.c w s m.M hl
  generalize QA m.c s m.M=x at*
  obtain ⟨s',M'⟩:=x
  simp only at hS ⊢
  obtain ⟨st,tr,⟨e1,e2,e3⟩,hlv,hend⟩:=Q8c h.mem hn hl hS
  by_cases h4:s'.st=3
  · rw [if_pos h4]
    refine QV rfl rfl rfl rfl rfl rfl rfl st (by refine XI ?_ hw ?_ ?_ ?_ ?_;exact Lb;exact hop;exact L.gr;exact hh;exact (fun a=>⟨by first|omega|(simp only;omega),fun _=>by simp only at a;simp only [if_pos a];exact hend h4 a⟩)) rfl ?_
    rw [R0]
    by_cases h0:s'.e=0
    · rw [Q5R rfl rfl (by exact h0) (by exact ho)]
      show Tr m.c w m.M M' (U6 s) (.de (m.wk w).ask.slot (m.wk w).ask.gen (if s'.e=0 then s'.stream else 0).toNat (decide ((m.wk w).ask.op=3)))
      rw [if_pos h0,←hi,←hg,←hop',←e1,←e2,←e3,←Q0z ⟨h4,h0⟩]
      exact tr
    · rw [X0 rfl (.inr (.inl h0)),←X9 (.inr h0)]
      exact tr
  · rw [if_neg h4]
    refine QV rfl rfl rfl rfl rfl rfl rfl st (Xj L hs ⟨ho,hlv h4,by rw [e1,hi],by rw [e2,hg],by rw [e3,hop']⟩) rfl ?_
    rw [R0,ZJ (by exact hs)]
    exact tr
 |Xl r=>
  rw [hk] at hl R0
  obtain ⟨ho,hl⟩:=hl
  simp only at R0 ⊢
  unfold J4
  have hs4:r.st=0∨r.st=1∨r.st=2∨r.st=3:=by have:=hl.s0;have:=hl.s1;omega
  have hR:∀r':Qy,XC ({(m.wk w) with work:=.Xl r'}:Q8)=.no:=fun r'=>ZJ (by exact hs)
  have gl:r.look.found=true→r.look.at_<m.c.sl→r.QO.live m.c (n+1):=fun a b=>⟨by have:=hl.mn;simp only [Qy.QO];omega,by simp [Qy.QO],by simp [Qy.QO],fun _=>by simp [Qy.QO,Qi.go,a],by have:=hl.a;simp [Qy.QO,Qi.go,a];omega,by simp [Qy.QO,Qi.go,a,hl.kd],by simp [Qy.QO],by simp [Qy.QO]⟩
  rcases hs4 with h0|h0|h0|h0
  · rw [if_pos h0]
    rcases JY m.c r.look m.M (hl.lk h0) with ⟨a1,a2,e⟩|⟨a1,a2,e⟩|⟨a1,e⟩
    · rw [e];simp only [if_true]
      obtain ⟨f1,f2,f3⟩:=h.mem.ZL hl.a.1 a1 a2
      refine QV rfl rfl rfl rfl rfl rfl rfl h.mem.stays (Xj L hs ⟨ho,by have:=hl.mn;simp only;omega,Lc,Lc,Lc,hl.a,hl.kd,fun _=>⟨rfl,a1,SL m.c m.M r.look.at_,f1,f2, ?_⟩,Lc⟩) rfl ?_
      · rw [hl.kd] at f3;simpa [Jq,isV] using f3
      · rw [R0,hR];exact Q _
    · rw [e];simp only [hl.lk h0,Bool.false_eq_true,if_false]
      have ll:∀f:Qi,f.found=false→f.at_=r.look.at_+1→f.kind=6→({r with look:=f}:Qy).live m.c (n+1):=fun f b1 b2 b3=>⟨by have:=hl.mn;simp only;omega,by simp only [h0];omega,by simp only [h0];omega,fun _=>b1,by simp only;have:=hl.a;omega,b3,fun x=>absurd h0 x,by simp only [h0];omega⟩
      by_cases h1:m.c.sl≤r.look.at_+1
      · simp only [decide_eq_true h1,if_true]
        exact Z0b
      · simp only [decide_eq_false h1,Bool.false_eq_true,if_false]
        refine QV rfl rfl rfl rfl rfl rfl rfl h.mem.stays (Xj L hs ⟨ho,ll _ rfl rfl hl.kd⟩) rfl ?_
        rw [R0,hR];exact Q _
    · rw [e];simp only [hl.lk h0,Bool.false_eq_true,if_false,if_true]
      exact Z0b
  · rw [if_neg Lb,if_pos h0]
    obtain ⟨f1,f2,s,f3,f4,f5⟩:=hl.fd Lb
    simp only
    split
    · refine QV (m1:=m.Qr.1) rfl rfl rfl rfl rfl rfl rfl h.mem.stays (Xj L hs ⟨ho,by have:=hl.mn;simp only;omega,Lc,Lc,Lc,hl.a,hl.kd,fun _=>⟨f1,f2,s,f3,f4,f5⟩,Lc⟩) rfl ?_
      rw [R0,hR];exact Q _
    · refine QV (m1:=m.Qr.1) rfl rfl rfl rfl rfl rfl rfl h.mem.stays (Xj L hs ⟨ho,by have:=hl.mn;simp only;omega,Lc,Lc,Lc,hl.a,hl.kd,fun _=>⟨f1,f2,s,f3,f4,f5⟩,fun _=>⟨_,rfl,YC h.mem ⟨hl.a.1,f2⟩ f3 f4 f5⟩⟩) rfl ?_
      rw [R0,hR];exact Q _
  · rw [if_neg Lb,if_neg Lb,if_pos h0]
    obtain ⟨f1,f2,s,f3,f4,f5⟩:=hl.fd Lb
    have G:∀M',StM m.c (n+1) m.M M'→(∀r,Tr m.c w m.M M' r r)→∃k',VW n m w ({m with M:=M'}.setW w {(m.wk w) with work:=.Xl r.QO}) k'∧Told n m w ({m with M:=M'}.setW w {(m.wk w) with work:=.Xl r.QO}) k':=fun M' a b=>
     QV rfl rfl rfl rfl rfl rfl rfl a (Xj L hs ⟨ho,gl f1 f2⟩) rfl (by rw [R0,hR];exact b _)
    cases ha:J6 r.look.word 10 w 0 with
    |none=>simp only;exact G _ h.mem.stays Q
    |some x=>
     obtain ⟨s',hds,hu,he⟩:=JZ ha
     obtain ⟨u,nx⟩:=x
     simp only at hu he ⊢
     subst he
     cases hc:Qx m.M (Q5 m.c r.look.at_) r.look.word with
     |true=>
      obtain ⟨hin,e,hu',e2,st,el,eg⟩:=h.mem.swap hds hu hc
      rw [e2]
      exact G _ st (ZN h.mem e el eg (XF hu Lc))
     |false=>rw [ZH hc];exact G _ h.mem.stays Q
  · rw [if_neg Lb,if_neg Lb,if_neg Lb]
    obtain ⟨f1,f2, -⟩:=hl.fd Lb
    obtain ⟨t,ht,hlt⟩:=hl.rt h0
    have er:r.rt=t:=by unfold Qy.rt;rw [ht];rfl
    have hS:=ZC t m.M hlt.nd
    rw [er]
    generalize Qn t m.M=x at*
    obtain ⟨t',M'⟩:=x
    simp only at hS ⊢
    obtain ⟨st,b1,b2⟩:=KO h.mem Lb hlt ⟨hl.a.1,f2⟩ hS
    have tq:∀r,Tr m.c w m.M M' r r:=by
     intro rr
     rcases b2 with ⟨-,e2,e3⟩|⟨-, -, -,e2,e3,e4⟩
     · exact .quiet e2 e3
     · exact Q6a h.mem e2 e3 e4 rr
    refine QV rfl rfl rfl rfl rfl rfl rfl st (Xj L hs ⟨ho, ?_⟩) rfl (by rw [R0,hR];exact tq _)
    cases hd:t'.done with
    |true=>
     simp only [if_true]
     have:=gl f1 f2
     exact ⟨by have:=hl.mn;simp only [Qy.QO];split<;>omega,this.s0,this.s1,this.lk,this.a,this.kd,by simp [Qy.QO],by simp [Qy.QO]⟩
    |false=>simp only [Bool.false_eq_true,if_false];exact ⟨by have:=hl.mn;simp only;omega,hl.s0,hl.s1,hl.lk,hl.a,hl.kd,hl.fd,fun _=>⟨_,rfl,b1 hd⟩⟩
 |close force drain=>
  rw [hk] at hl R0
  obtain ⟨ho,hl⟩:=hl
  have hR:∀d',XC ({(m.wk w) with work:=.close force d'}:Q8)=.no:=fun r'=>ZJ (by exact hs)
  have wo:=h.mem.cf.1
  cases drain with
  |some q=>
   obtain ⟨hq,hqn⟩:=hl q rfl
   simp only at R0 ⊢
   obtain ⟨st,tr,hlv⟩:=q_tr (w:=w) h.mem hq
   by_cases hd:(Qo m.c q m.M).1.nx.isDone=true
   · rw [if_pos hd]
     refine QV rfl rfl rfl rfl rfl rfl rfl st (by refine XI ?_ hw ?_ ?_ ?_ ?_;exact Lb;exact hop;exact L.gr;exact hh;exact (fun _=>⟨by first|omega|(simp only;omega),by first|omega|(simp only;omega)⟩)) rfl ?_
     rw [R0,X0 rfl (.inr (.inr (.inl (by simp only [Q8.end_,Q8.QT];omega))))];exact tr _
   · rw [if_neg hd]
     refine QV rfl rfl rfl rfl rfl rfl rfl st (Xj L hs ⟨ho,fun q' e=>by cases e;exact ⟨hlv,Gz hqn hd⟩⟩) rfl (by rw [R0,hR];exact tr _)
  |none=>
   simp only at R0 ⊢
   have len:=h.mem.len
   have sl:=h.mem.cf.2.1
   have h00:(0:Int)<m.M.length:=by unfold Q0.cells at len;omega
   have hld:∀j:Q8,({(m.wk w) with work:=.close force (some XT)}:Q8).live m.c w (n+1) (Jz (if force=true then Qp m.M 0 2 else QI m.M 0 0 1)):=fun _=>Xj L hs ⟨ho,fun q e=>by cases e;exact ⟨⟨⟨⟨by simp [XT],by simp [XT]⟩,by simp [XT],by simp [XT],by simp [XT]⟩,by simp [XT],by simp [XT],by simp [XT];omega,by simp [XT]⟩,.inl rfl⟩⟩
   have G:StM m.c (n+1) m.M (if force=true then Qp m.M 0 2 else QI m.M 0 0 1)∧∀r,Tr m.c w m.M (if force=true then Qp m.M 0 2 else QI m.M 0 0 1) r r:=by
    cases force with
    |true=>
     simp only [if_true]
     rw [Jr Lb h00]
     exact ⟨h.mem.Vr Lb Lb Lb Lb Lb Lb (fun _ _=>rfl),fun r=>trL h.mem Lb Lb r⟩
    |false=>
     simp only [Bool.false_eq_true,if_false]
     cases hc:Qx m.M 0 0 with
     |false=>rw [ZH hc];exact ⟨h.mem.stays,Q⟩
     |true=>
      have e:QI m.M 0 0 1=m.M.set (0:Int).toNat 1:=by unfold QI;rw [if_pos hc]
      have z:Q6 m.M 0=0:=by
       exact Z13
      rw [e]
      exact ⟨h.mem.Vr Lb Lb Lb Lb Lb Lb (fun _ a=>by unfold Jz at a;omega),fun r=>trL h.mem Lb Lb r⟩
   exact QV rfl rfl rfl rfl rfl rfl rfl G.1 (hld (m.wk w)) rfl (by rw [R0,hR];exact G.2 _)
 |stats t=>
  rw [hk] at hl R0
  obtain ⟨hl7,hlt⟩:=hl
  simp only at R0 ⊢
  by_cases hd:(QH m.c t m.M).d=true
  · rw [if_pos hd]
    exact Z0b
  · rw [if_neg hd]
    refine QV rfl rfl rfl rfl rfl rfl rfl h.mem.stays (Xj L hs ⟨hl7,hlt.next h.mem⟩) rfl ?_
    rw [R0,ZJ (by exact hs)];exact Q _
theorem Q1r (h:MInv n m) (hn:n≤1000000000) (hw:(w:Int)<m.c.wo) (hs:(m.wk w).st=3):∃k',VW n m w (Xd m w) k'∧Told n m w (Xd m w) k':=by
 have L:=h.wk w hw
 have hh:=L.half Lb Lb
 have hn0:=h.mem.n0
 have hop:=L.op Lb
 have ho:=L.op0 Lb
 have Q:∀r,Tr m.c w m.M m.M r r:=fun r=>.quiet rfl rfl
 have R0:=Jk (k:=m.wk w) Lb Lb
 obtain ⟨t0,ht0,hlt⟩:=L.tw hs
 unfold Xd
 simp only [ht0,Option.getD_some]
 by_cases hd:(QH m.c t0 m.M).d=true
 · rw [if_pos hd]
   split
   · refine QV rfl rfl rfl rfl rfl rfl rfl h.mem.stays ⟨Lc,Lc,fun _=>hop,Lc,Lc,Lc,L.gr,fun _ _=>hh,fun _=>⟨ho,Kj⟩,Lc,Lc,Lc,Lc,Lc⟩ rfl ?_
     rw [R0,ZJ rfl];show Tr m.c w m.M m.M .no (Zj (Jc w));rw [Qt (by simp [Jc])];exact Q _
   · refine QV rfl rfl rfl rfl rfl rfl rfl h.mem.stays (by refine XI ?_ hw ?_ ?_ ?_ ?_;exact Lb;exact hop;exact L.gr;exact hh;exact (fun a=>by simp at a)) rfl ?_
     rw [R0,X0 rfl (.inr (.inl (by simp [Q8.end_,Q8.QT])))];exact Q _
 · rw [if_neg hd]
   refine QV rfl rfl rfl rfl rfl rfl rfl h.mem.stays ⟨Ld,Ld,fun _=>hop,fun _=>ho,Ld,Ld,L.gr,fun _ _=>hh,Ld,fun _=>⟨_,rfl,hlt.next h.mem⟩,Ld,Ld,Ld,Ld⟩ rfl ?_
   rw [R0,Jk Ld Ld];exact Q _
theorem Q1n (h:MInv n m) (hn:n≤1000000000) (hw:(w:Int)<m.c.wo) (hs:(m.wk w).st=4):∃k',VW n m w (Xc m w) k'∧Told n m w (Xc m w) k':=by
 have L:=h.wk w hw
 have hh:=L.half Lb Lb
 have hn0:=h.mem.n0
 have hop:=L.op Lb
 have ho:=L.op0 Lb
 have R0:=Jk (k:=m.wk w) Lb Lb
 obtain ⟨q,hq,hlq⟩:=L.en hs
 unfold Xc
 simp only [hq,Option.getD_some]
 obtain ⟨st,tr,hlv⟩:=q_tr (w:=w) h.mem hlq
 by_cases hd:(Qo m.c q m.M).1.nx.isDone=true
 · rw [if_pos hd]
   split
   · rename_i he
     refine QV rfl rfl rfl rfl rfl rfl rfl st (by refine XI ?_ hw ?_ ?_ ?_ ?_;exact Lb;exact hop;exact L.gr;exact hh;exact (fun a=>absurd a he.1)) rfl ?_
     rw [R0,X0 rfl (.inr (.inl he.1))];exact tr _
   · refine QV rfl rfl rfl rfl rfl rfl rfl st ⟨by simp [Q8.QT],by simp [Q8.QT],fun _=>hop,fun _=>ho,by simp [Q8.QT],by simp [Q8.QT],L.gr,fun _ _=>hh,by simp [Q8.QT],by simp [Q8.QT],by simp [Q8.QT],by simp [Q8.QT],fun _=>⟨_,rfl,KM hw Lb⟩,by simp [Q8.QT]⟩ rfl ?_
     rw [R0,X0 rfl (.inl rfl)];exact tr _
 · rw [if_neg hd]
   refine QV rfl rfl rfl rfl rfl rfl rfl st ⟨Ld,Ld,fun _=>hop,fun _=>ho,Ld,Ld,L.gr,fun _ _=>hh,Ld,Ld,fun _=>⟨_,rfl,hlv⟩,Ld,Ld,Ld⟩ rfl ?_
   rw [R0,Jk Ld Ld];exact tr _
theorem GN (h:MInv n m) (hn:n≤1000000000) (hw:(w:Int)<m.c.wo) (hs:(m.wk w).st=8):∃k',VW n m w (Jo m w) k'∧Told n m w (Jo m w) k':=by
 have L:=h.wk w hw
 have hh:=L.half Lb Lb
 have hn0:=h.mem.n0
 have hop:=L.op Lb
 have ho:=L.op0 Lb
 have R0:=Jk (k:=m.wk w) Lb Lb
 obtain ⟨q,hq,hlq,hnx,hwhy⟩:=L.le hs
 unfold Jo
 simp only [hq,Option.getD_some]
 obtain ⟨st,tr,hlv⟩:=q_tr (w:=w) h.mem hlq
 have hfin:((Qo m.c q m.M).1.nx.isDone=true∧((Qo m.c q m.M).1.e=8∨(Qo m.c q m.M).1.e=4))∨((Qo m.c q m.M).1.nx.isDone=false∧((Qo m.c q m.M).1.nx=.look∨(Qo m.c q m.M).1.nx=.drop)∧(Qo m.c q m.M).1.why=4):=by
  unfold Qo
  rcases hnx with hx|hx<;>rw [hx]<;>simp only
  · by_cases hc:q.w∈mQ m.M
    · rw [if_pos hc];right;exact ⟨rfl,.inr rfl,hwhy⟩
    · rw [if_neg hc];left;exact ⟨rfl,.inl rfl⟩
  · by_cases hc:mQ m.M=q.line
    · rw [if_pos hc];left;exact ⟨rfl,.inr hwhy⟩
    · rw [if_neg hc];right;exact ⟨rfl,.inl rfl,hwhy⟩
 rcases hfin with ⟨hd,he⟩|⟨hd,hx,hy⟩
 · rw [if_pos hd]
   split
   · refine QV rfl rfl rfl rfl rfl rfl rfl st ⟨Lc,Lc,fun _=>hop,fun _=>ho,Lc,Lc,L.gr,fun _ _=>hh,Lc,Lc,Lc,Lc,Lc,Lc⟩ rfl ?_
     rw [R0,Jk Lc Lc];exact tr _
   · refine QV rfl rfl rfl rfl rfl rfl rfl st (by refine XI ?_ hw ?_ ?_ ?_ ?_;exact Lb;exact hop;exact L.gr;exact hh;exact (fun a=>by simp only at a;omega)) rfl ?_
     rw [R0,X0 rfl (.inr (.inl (by simp only [Q8.end_,Q8.QT];omega)))];exact tr _
 · rw [if_neg (by rw [hd];simp)]
   refine QV rfl rfl rfl rfl rfl rfl rfl st ⟨Ld,Ld,fun _=>hop,fun _=>ho,Ld,Ld,L.gr,fun _ _=>hh,Ld,Ld,Ld,fun _=>⟨_,rfl,hlv,hx,hy⟩,Ld,Ld⟩ rfl ?_
   rw [R0,Jk Ld Ld];exact tr _
theorem WQ (h:MInv n m) (hn:n≤1000000000) (hw:(w:Int)<m.c.wo) (hs:(m.wk w).st=7):∃k',VW n m w (J7 m w) k'∧Told n m w (J7 m w) k':=by
 have L:=h.wk w hw
 have hn0:=h.mem.n0
 have hop:=L.op Lb
 have ho:=L.op0 Lb
 have R0:=Jk (k:=m.wk w) Lb Lb
 have Q:∀r,Tr m.c w m.M m.M r r:=fun r=>.quiet rfl rfl
 have wo:=h.mem.cf.1;have sl:=h.mem.cf.2.1;have len:=h.mem.len
 have hg:=h.mem.gr w Lb hw
 unfold J7
 simp only
 cases hf:(m.wk w).half with
 |false=>
  simp only [if_true]
  refine QV rfl rfl rfl rfl rfl rfl rfl h.mem.stays ⟨Ld,Ld,fun _=>hop,fun _=>ho,Ld,fun _ _=>hg,L.gr,Ld,Ld,Ld,Ld,Ld,Ld,Ld⟩ rfl ?_
  rw [R0,Jk Ld Ld];exact Q _
 |true=>
  have hwd:=L.wake hs hf
  simp only [Bool.true_eq_false,if_false]
  have e:Qp m.M (3+m.c.wo+(w:Int)) 0=m.M.set (3+m.c.wo+(w:Int)).toNat 0:=Jr Lb (by unfold Q0.cells at*;omega)
  rw [e]
  have st:=h.mem.Vr (j:=3+m.c.wo+(w:Int)) (v:=0) Lb Lb Lb Lb Lb Lb Lb
  have tr:=trL (w:=w) h.mem (j:=3+m.c.wo+(w:Int)) (v:=0) Lb Lb
  split
  · refine QV rfl rfl rfl rfl rfl rfl rfl st (by refine XI ?_ hw ?_ ?_ ?_ ?_;exact Lb;exact hop;exact L.gr;exact rfl;exact (fun a=>by simp at a)) rfl ?_
    rw [R0,X0 rfl (.inr (.inl (by simp [Q8.end_,Q8.QT])))];exact tr _
  · refine QV rfl rfl rfl rfl rfl rfl rfl st ⟨Lc,Lc,fun _=>hop,Lc,Lc,Lc,Ld,Lc,Lc,Lc,Lc,Lc,Lc,Lc⟩ rfl ?_
    rw [R0,Jk Lc Lc];exact tr _
theorem Q4v (h:MInv n m) (hn:n≤1000000000) (hw:(w:Int)<m.c.wo) (hs:(m.wk w).st=1):∃k',VW n m w ({m with M:=(XE (m.wk w) m.c w m.M).2}.setW w (XE (m.wk w) m.c w m.M).1) k'∧Told n m w ({m with M:=(XE (m.wk w) m.c w m.M).2}.setW w (XE (m.wk w) m.c w m.M).1) k':=by
 have L:=h.wk w hw
 have hn0:=h.mem.n0
 have hop:=L.op Lb
 have R0:=Jk (k:=m.wk w) Lb Lb
 have Q:∀r,Tr m.c w m.M m.M r r:=fun r=>.quiet rfl rfl
 have wo:=h.mem.cf.1;have sl:=h.mem.cf.2.1;have len:=h.mem.len
 have he:=h.mem.ep
 unfold XE
 cases hf:(m.wk w).half with
 |false=>
  simp only [if_true]
  refine QV rfl rfl rfl rfl rfl rfl rfl h.mem.stays ⟨Ld,Ld,fun _=>hop,Ld,fun _ _=>Ld,Ld,L.gr,Ld,Ld,Ld,Ld,Ld,Ld,Ld⟩ rfl ?_
  rw [R0,Jk Ld Ld];exact Q _
 |true=>
  have hwd:=L.pin hs hf
  simp only [Bool.true_eq_false,if_false]
  have e:Qp m.M (3+(w:Int)) ((m.wk w).word+1)=m.M.set (3+(w:Int)).toNat ((m.wk w).word+1):=Jr Lb (by unfold Q0.cells at*;omega)
  rw [e]
  have st:=h.mem.Vr (j:=3+(w:Int)) (v:=(m.wk w).word+1) Lb Lb Lb Lb Lb Lb Lb
  have tr:=trL (w:=w) h.mem (j:=3+(w:Int)) (v:=(m.wk w).word+1) Lb Lb
  have J:(Vg m.c w (m.wk w)).live m.c w (n+1) (m.wk w).ask∧(Vg m.c w (m.wk w)).role=.no:=by
   have ops:(m.wk w).ask.op=0∨(m.wk w).ask.op=1∨(m.wk w).ask.op=2∨(m.wk w).ask.op=3∨(m.wk w).ask.op=4∨(m.wk w).ask.op=5∨(m.wk w).ask.op=6∨(m.wk w).ask.op=7:=Lb
   unfold Vg
   rcases ops with o|o|o|o|o|o|o|o
   · rw [if_pos o]
     by_cases hg:0<(m.wk w).grant
     · rw [if_pos hg]
       exact ⟨⟨o,⟨by simp [QU],by simp [QU],rfl,by simp [QU],by simp [QU],by simp [QU],by simp [QU],by simp [QU]⟩⟩,Qt (by simp [QU])⟩
     · rw [if_neg hg]
       exact ⟨⟨o,Kj⟩,Qt (by simp [Jc])⟩
   · rw [if_neg Lb,if_pos o]
     exact ⟨⟨.inl o,⟨by simp [JD],by simp [JD],rfl,by simp [JD],by simp [JD]⟩,rfl,rfl⟩,Jt (by simp [JD])⟩
   · rw [if_neg Lb,if_neg Lb,if_pos o]
     exact ⟨⟨.inr o,⟨by simp [JD],by simp [JD],rfl,by simp [JD],by simp [JD]⟩,rfl,rfl⟩,Jt (by simp [JD])⟩
   · rw [if_neg Lb,if_neg Lb,if_neg Lb,if_pos o]
     exact ⟨⟨.inl o,⟨by simp [JI],by simp [JI],rfl,by simp [JI]⟩,rfl,rfl,by rw [o];rfl⟩,X9 (by simp [JI])⟩
   · rw [if_neg Lb,if_neg Lb,if_neg Lb,if_neg Lb,if_pos o]
     exact ⟨⟨.inr o,⟨by simp [JI],by simp [JI],rfl,by simp [JI]⟩,rfl,rfl,by rw [o];rfl⟩,X9 (by simp [JI])⟩
   · rw [if_neg Lb,if_neg Lb,if_neg Lb,if_neg Lb,if_neg Lb,if_pos o]
     exact ⟨⟨o,⟨by simp [JV];omega,by simp [JV],by simp [JV],by simp [JV,QE],by simp [JV,QE];omega,rfl,by simp [JV],by simp [JV]⟩⟩,rfl⟩
   · rw [if_neg Lb,if_neg Lb,if_neg Lb,if_neg Lb,if_neg Lb,if_neg Lb,if_pos o]
     exact ⟨⟨o,Lc⟩,rfl⟩
   · rw [if_neg Lb,if_neg Lb,if_neg Lb,if_neg Lb,if_neg Lb,if_neg Lb,if_neg Lb]
     exact ⟨⟨o,Di h.mem.cf Lb⟩,rfl⟩
  refine QV rfl rfl rfl rfl rfl rfl rfl st ⟨Lc,Lc,fun _=>hop,Lc,Lc,Lc,L.gr,Lc,fun _=>J.1,Lc,Lc,Lc,Lc,Lc⟩ rfl ?_
  rw [R0,ZJ rfl]
  simp only
  rw [J.2];exact tr _
theorem Q0k (h:MInv n m) (hn:n≤1000000000) (hw:(w:Int)<m.c.wo) (hs:(m.wk w).st=5):∃k',VW n m w (QK m w) k'∧Told n m w (QK m w) k':=by
 have L:=h.wk w hw
 have hh:=L.half Lb Lb
 have hn0:=h.mem.n0
 have hop:=L.op Lb
 obtain ⟨t,ht,hlt⟩:=L.ti hs
 unfold QK
 simp only [ht,Option.getD_some]
 have hS:=V7 m.c w n (Jz m.M) t m.M hlt
 generalize Ql m.c t m.M=x at*
 obtain ⟨t',M'⟩:=x
 simp only at hS ⊢
 obtain ⟨st,tr,hlv⟩:=Q84 h.mem Lb hlt hS
 by_cases h17:t'.st=17
 · rw [if_pos h17]
   cases hp:(m.wk w).parks with
   |true=>
    simp only [if_true]
    have ho:=L.op0 (.inr (.inr (.inr ⟨hs,hp⟩)))
    refine QV rfl rfl rfl rfl rfl rfl rfl st ⟨Lc,Lc,fun _=>hop,fun _=>ho,Lc,Lc,L.gr,fun _ _=>hh,Lc,Lc,Lc,Lc,Lc,Lc⟩ rfl ?_
    rw [X0 hs (.inl hp),Jk Lc Lc];exact tr _
   |false=>
    simp only [Bool.false_eq_true,if_false]
    refine ⟨_,⟨Lb,V3.refl m,by simp [Qa.setW,runs],rfl,rfl,rfl,rfl,rfl,st, ?_,rfl⟩,fun _=>.inr ⟨hs,hp,rfl,Jk Lc Lc,tr,rfl⟩⟩
    exact ⟨Lc,Lc,Lc,Lc,Lc,Lc,L.gr,fun _ _=>hh,Lc,Lc,Lc,Lc,Lc,Lc⟩
 · rw [if_neg h17]
   refine QV rfl rfl rfl rfl rfl rfl rfl st ⟨Ld,Ld,fun _=>hop,fun a=>L.op0 a,Ld,Ld,L.gr,fun _ _=>hh,Ld,Ld,Ld,Ld,fun _=>⟨_,rfl,hlv h17⟩,fun a=>L.ans a⟩ rfl ?_
   have:XC ({(m.wk w) with ti:=some t'}:Q8)=XC (m.wk w):=by unfold XC;rfl
   rw [this];exact tr _
theorem Jg (hw:w<m.ws.length) (k:Q8):(m.setW w k).wk w=k:=by
 unfold Qa.wk Qa.setW;simp only;rw [Zp,if_pos ⟨rfl,hw⟩]
theorem ZB (k k':Q8):(m.setW w k).setW w k'=m.setW w k':=by unfold Qa.setW;simp only [List.set_set]
theorem DR (h:MInv n m) (hw:(w:Int)<m.c.wo) {k0:Q8} (l0:k0.live m.c w n (Jz m.M)) (hask:k0.ask=(m.wk w).ask) (hr:XC k0=XC (m.wk w)) (h5:k0.st≠5) (s0:(m.wk w).st≠0) (s1:k0.st≠0) {m':Qa} {k':Q8}
 (H:VW n (m.setW w k0) w m' k'∧Told n (m.setW w k0) w m' k'):VW n m w m' k'∧Told n m w m' k':=by
 have hwl:w<m.ws.length:=by have:=h.wl;omega
 obtain ⟨⟨z1,z2,z3,a1,a2,a3,a4,a5,a6,a7,a8⟩,b⟩:=H
 have e:=Jg hwl k0
 refine ⟨⟨s0,z2,z3,a1,by rw [a2];unfold Qa.setW;simp only [List.set_set],a3,a4,a5,a6,a7,by rw [a8,e,hask]⟩, ?_⟩
 intro L
 rcases b L with ⟨b1,b2⟩|⟨b1, -⟩
 · rw [e,hr] at b2;exact .inl ⟨b1,b2⟩
 · rw [e] at b1;exact absurd b1 h5
theorem MInv.setW (h:MInv n m) (hw:(w:Int)<m.c.wo) {k0:Q8} (l0:k0.live m.c w n (Jz m.M)) (hr:runs k0≤runs (m.wk w)∨m.evs.length+8≤2007):MInv n (m.setW w k0):=by
 refine ⟨h.mem,h.gd,h.bd,h.ah,h.nw, ?_,by unfold Qa.setW;simp only [List.length_set];exact h.wl,fun k hk=> ?_⟩
 · have e5:=h.ev;have hwl:=h.wl;have wo:=h.mem.cf.1
   show (m.evs.length:Int)+Zw (m.ws.set w k0)≤2007
   rcases hr with hr|hr
   · rw [YP _ _ _ Lb];unfold Qa.wk at hr;omega
   · have:=VB (m.ws.set w k0);rw [List.length_set] at this;omega
 have hwl:=h.wl
 have:(m.setW w k0).wk k=if k=w then k0 else m.wk k:=by
  unfold Qa.wk Qa.setW;simp only;rw [Zp]
  by_cases hk:k=w
  · rw [if_pos ⟨hk,Lb⟩,if_pos hk]
  · rw [if_neg (fun e=>hk e.1),if_neg hk]
 rw [this]
 split
 · rename_i e;rw [e];exact l0
 · exact h.wk k hk
theorem Q0J (h:MInv n m) (hn:n≤1000000000) (hw:(w:Int)<m.c.wo) (hs:(m.wk w).st=6):∃k',VW n m w (XB m w) k'∧Told n m w (XB m w) k':=by
 have L:=h.wk w hw
 have hh:=L.half Lb Lb
 have hop:=L.op Lb
 have ho:=L.op0 Lb
 have hwl:w<m.ws.length:=by have:=h.wl;omega
 unfold XB
 simp only
 split
 · have l0:({(m.wk w) with st:=7}:Q8).live m.c w n (Jz m.M):=⟨Lc,Lc,fun _=>hop,fun _=>ho,Lc,by simp [hh],L.gr,Lc,Lc,Lc,Lc,Lc,Lc,Lc⟩
   obtain ⟨k',H⟩:=WQ (h.setW hw l0 (.inl (by unfold runs;simp;omega))) hn hw (by rw [Jg hwl])
   exact ⟨k',DR h hw l0 rfl (by rw [Jk Lc Lc,Jk Lb Lb]) Lc Lb Lc H⟩
 · have l0:({(m.wk w) with qu:=some (QX w),st:=8}:Q8).live m.c w n (Jz m.M):=
    ⟨Lc,Lc,fun _=>hop,fun _=>ho,Lc,Lc,L.gr,fun _ _=>hh,Lc,Lc,Lc,fun _=>⟨_,rfl,⟨⟨⟨by simp [QX],by simp [QX]⟩,by simp [QX],by simp [QX],by simp [QX]⟩,by simp [QX],by simp [QX],hw,by simp [QX]⟩,.inl rfl,rfl⟩,Lc,Lc⟩
   obtain ⟨k',H⟩:=GN (h.setW hw l0 (.inl (by unfold runs;simp;omega))) hn hw (by rw [Jg hwl])
   exact ⟨k',DR h hw l0 rfl (by rw [Jk Lc Lc,Jk Lb Lb]) Lc Lb Lc H⟩
theorem ZA (h:MInv n m) (hn:n≤1000000000) (hw:(w:Int)<m.c.wo) (hs:(m.wk w).st≠0):∃k',VW n m w (Qs m w) k'∧Told n m w (Qs m w) k':=by
 have L:=h.wk w hw
 have s:(m.wk w).st=1∨(m.wk w).st=2∨(m.wk w).st=3∨(m.wk w).st=4∨(m.wk w).st=5∨(m.wk w).st=6∨(m.wk w).st=7∨(m.wk w).st=8:=by have:=L.s0;have:=L.s1;omega
 unfold Qs
 simp only
 rcases s with s|s|s|s|s|s|s|s
 · rw [if_pos s];exact Q4v h hn hw s
 · rw [if_neg Lb,if_pos s];exact Q1P h hn hw s
 · rw [if_neg Lb,if_neg Lb,if_pos s];exact Q1r h hn hw s
 · rw [if_neg Lb,if_neg Lb,if_neg Lb,if_pos s];exact Q1n h hn hw s
 · rw [if_neg Lb,if_neg Lb,if_neg Lb,if_neg Lb,if_pos s];exact Q0k h hn hw s
 · rw [if_neg Lb,if_neg Lb,if_neg Lb,if_neg Lb,if_neg Lb,if_pos s];exact Q0J h hn hw s
 · rw [if_neg Lb,if_neg Lb,if_neg Lb,if_neg Lb,if_neg Lb,if_neg Lb,if_pos s];exact WQ h hn hw s
 · rw [if_neg Lb,if_neg Lb,if_neg Lb,if_neg Lb,if_neg Lb,if_neg Lb,if_neg Lb,if_pos s];exact GN h hn hw s
end
section
structure HeldV where
 who:List Int
 gen:List Int
 str:List (List Bool)
def HeldV.has (h:HeldV) (who:Int) (a:Kh):Bool:=if a.slot<0∨(h.who.length:Int)≤a.slot then false else decide (h.who.getD a.slot.toNat 0=who+1)&&decide (h.gen.getD a.slot.toNat 0=a.gen)
variable {c:Q0} {n:Int} {m:Qa}
theorem MInv.mono (h:MInv n m):MInv (n+1) m:=
 ⟨h.mem.mono Lb,by have:=h.gd;omega,by have:=h.bd;omega,h.ah,h.nw,h.ev,h.wl,fun k hk=>(h.wk k hk).mono Lb id⟩
end
section
variable {c:Q0} {n:Int} {m:Qa}
theorem WE (c:Q0) (k:Nat):(J5 c).wk k=Ju:=by
 unfold Qa.wk J5;simp only
 rw [List.getD_eq_getElem?_getD]
 cases h:(List.replicate c.wo.toNat Ju)[k]? with
 |none=>rfl
 |some x=>have:=List.mem_of_getElem? h;rw [(List.mem_replicate.1 this).2];rfl
theorem Q3g:Q3h 0=[]:=by decide+kernel
theorem Q6L (hc:c.fits):Qj c 0 (J5 c).M:=by
 have Z:∀i,Q6 (J5 c).M i=0:=fun i=>VL _ i
 have q:mQ (J5 c).M=[]:=by unfold mQ;rw [Z,Q3g]
 refine ⟨hc,Lb, ?_,fun i _ _=>⟨Vy,U3,by rw [Z,Q0s]⟩,by rw [q];exact Ln.nil,by rw [q,Z];rfl,by rw [q];simp,by rw [Z];omega,fun k _ _=>by rw [Z];omega,fun k _ _=>by rw [Z];omega⟩
 have:=hc.1;have:=hc.2.1
 unfold J5;simp only;rw [List.length_replicate];unfold Q0.cells;omega
theorem MInv.new (hc:c.fits):MInv 0 (J5 c):=by
 have:=hc.1;have:=hc.2.1
 refine ⟨Q6L hc,⟨by show (0:Int)≤0;omega,by show (0:Int)≤0;omega⟩,⟨by show (0:Int)≤0;omega,by show (0:Int)≤0;omega⟩,by show (0:Nat)≤1000;omega,⟨by show (0:Int)≤0;omega,by show (0:Int)≤1099511627776;omega⟩, ?_, ?_,fun k _=> ?_⟩
 · have:=VB (J5 c).ws
   have h2:((J5 c).ws.length:Int)=c.wo:=by show ((List.replicate c.wo.toNat Ju).length:Int)=c.wo;rw [List.length_replicate];omega
   show (([]:List EvV).length:Int)+Zw (J5 c).ws≤2007
   simp only [List.length_nil];omega
 · show ((List.replicate c.wo.toNat Ju).length:Int)=c.wo
   rw [List.length_replicate];omega
 · rw [WE]
   exact ⟨by decide,by decide,fun h=>absurd rfl h,by decide,by decide,by decide,by decide,by decide,by intro h;simp [Ju] at h,by intro h;simp [Ju] at h,by intro h;simp [Ju] at h,by intro h;simp [Ju] at h,by intro h;simp [Ju] at h,by intro h;simp [Ju] at h⟩
end
section
theorem E8 (m:Qa) (who:Nat) (t:Qd):(Xi m who t).evs=m.evs:=by
 unfold Xi
 simp only
 repeat' split
 all_goals rfl
theorem UL (m:Qa) (who:Nat) (r:Qy):(J4 m who r).evs=m.evs:=by
 unfold J4
 simp only
 repeat' split
 all_goals rfl
theorem Q1Q (m:Qa) (who:Nat):(QM m who).evs=m.evs:=by
 unfold QM
 simp only
 split
 · rfl
 · exact E8 _ _ _
 · rfl
 · rfl
 · exact UL _ _ _
 · split<;>rfl
 · rfl
theorem Q1s (m:Qa) (who:Nat):(Xd m who).evs=m.evs:=by
 unfold Xd
 simp only
 repeat' split
 all_goals rfl
theorem WR (m:Qa) (who:Nat):(J7 m who).evs=m.evs:=by
 unfold J7
 simp only
 repeat' split
 all_goals rfl
theorem GQ (m:Qa) (who:Nat):(Jo m who).evs=m.evs:=by
 unfold Jo
 simp only
 rfl
theorem Q1o (m:Qa) (who:Nat):(Xc m who).evs=m.evs:=by
 unfold Xc
 simp only
 rfl
theorem Q0K (m:Qa) (who:Nat):(XB m who).evs=m.evs:=by
 unfold XB
 simp only
 split
 · exact WR _ _
 · exact GQ _ _
theorem Q0l (m:Qa) (who:Nat):(QK m who).evs=m.evs∨∃e:EvV,(QK m who).evs=m.evs++[e]∧e.who=who:=by
 unfold QK
 simp only
 split
 · split
   · exact .inl rfl
   · exact .inr ⟨_,rfl,rfl⟩
 · exact .inl rfl
theorem Q49 (m:Qa) (who:Nat):(Qs m who).evs=m.evs∨∃e:EvV,(Qs m who).evs=m.evs++[e]∧e.who=who:=by
 unfold Qs
 simp only
 split
 · exact .inl rfl
 split
 · exact .inl (Q1Q _ _)
 split
 · exact .inl (Q1s _ _)
 split
 · exact .inl (Q1o _ _)
 split
 · exact Q0l _ _
 split
 · exact .inl (Q0K _ _)
 split
 · exact .inl (WR _ _)
 split
 · exact .inl (GQ _ _)
 · exact .inl rfl
def JB (w:Int):QD:=⟨1,w,Yy,0,false⟩
def JE (W who:Nat):Nat→Qa→Nat→Int→Int→Qa×Bool×Int×Int
 |0,m,k,n,r=>(m,false,n,r)
 |f+1,m,k,n,r=>
  if k<W then
   let w:=(who+k) % W
   let d:=doV m (JB w)
   if d.2 then (if (d.1.wk w).st=0∨(d.1.wk w).st=6 then (d.1,true, -1,r+1) else (d.1,true,n,r)) else JE W who f d.1 (k+1) n r
  else (m,false,n,r)
def Zf (order:List Int) (i:Nat):Nat:=if order.length=0 then 0 else (order.getD (i % order.length) 0).toNat
def Zg (W:Nat) (limit:Int) (order:List Int):Nat→Qa→Nat→Int→Int→Qa×Bool
 |0,m,i,n,r=>(m,false)
 |f+1,m,i,n,r=>
  if n≤limit∧r≤3*(W:Int) then
   let d:=JE W (Zf order i) W m 0 n r
   if d.2.1 then Zg W limit order f d.1 (i+1) (d.2.2.1+1) d.2.2.2 else (d.1,true)
  else (m,false)
def JO:Q0:=⟨2,1,0,1,9⟩
def Ke:Int:=60000
def Q7u:Bool:=
 let a:=doV (J5 JO) ⟨0,0,Yy,0,false⟩
 let one:=Zg 2 Ke [] 1000 a.1 0 0 0
 let b:=doV one.1 ⟨0,1,{Yy with wait:=true,dl:=9},0,false⟩
 let two:=Zg 2 Ke [] 1000 b.1 0 0 0
 let d:=doV two.1 ⟨0,0,{Yy with op:=2,gen:=1},0,false⟩
 let three:=Zg 2 Ke [] 1000 d.1 0 0 0
 a.2&&b.2&&d.2&&one.2&&two.2&&three.2&&decide ((two.1.wk 1).st=6)&&decide ((three.1.wk 1).st=0)&&decide (three.1.evs.length=6)&&decide ((three.1.evs.getD 5 ev0).e=0)&&decide (three.1.entries≤1000)
theorem Q1A:Q7u=true:=by decide+kernel
theorem Q0b (m:Qa) (who:Nat) (t:Qd):(Xi m who t).entries=m.entries:=by
 unfold Xi
 simp only
 repeat' split
 all_goals rfl
theorem E5 (m:Qa) (who:Nat) (r:Qy):(J4 m who r).entries=m.entries:=by
 unfold J4
 simp only
 repeat' split
 all_goals rfl
theorem Q3T (m:Qa) (who:Nat):(QM m who).entries=m.entries:=by
 unfold QM
 simp only
 split
 · rfl
 · exact Q0b _ _ _
 · rfl
 · rfl
 · exact E5 _ _ _
 · split<;>rfl
 · rfl
theorem Q2Y (m:Qa) (who:Nat):(Xd m who).entries=m.entries:=by
 unfold Xd
 simp only
 repeat' split
 all_goals rfl
theorem Dh (m:Qa) (who:Nat):(J7 m who).entries=m.entries:=by
 unfold J7
 simp only
 repeat' split
 all_goals rfl
theorem Uk (m:Qa) (who:Nat):(Jo m who).entries=m.entries:=by
 unfold Jo
 simp only
 rfl
theorem Q2V (m:Qa) (who:Nat):(Xc m who).entries=m.entries:=by
 unfold Xc
 simp only
 rfl
theorem Q2l (m:Qa) (who:Nat):(XB m who).entries=m.entries:=by
 unfold XB
 simp only
 split
 · exact Dh _ _
 · exact Uk _ _
theorem Q1V (m:Qa) (who:Nat):(QK m who).entries=m.entries:=by
 unfold QK
 simp only
 repeat' split
 all_goals rfl
theorem Q65 (m:Qa) (who:Nat):(Qs m who).entries=m.entries:=by
 unfold Qs
 simp only
 split
 · rfl
 split
 · exact Q3T _ _
 split
 · exact Q2Y _ _
 split
 · exact Q2V _ _
 split
 · exact Q1V _ _
 split
 · exact Q2l _ _
 split
 · exact Dh _ _
 split
 · exact Uk _ _
 · rfl
theorem Z7 (m:Qa) (x:QD):(doV m x).1.entries=m.entries+1:=by
 unfold doV
 simp only
 split
 · unfold Vi;split<;>rfl
 split
 · unfold Ud
   split
   · simp only;split
     · rfl
     · exact Q65 _ _
   · rfl
 split
 · rfl
 split
 · split<;>rfl
 split
 · unfold K9
   split
   · rfl
   · split<;>rfl
 · rfl
theorem U4 (W who:Nat):∀(f:Nat) (m:Qa) (k:Nat) (n r:Int),m.entries≤(JE W who f m k n r).1.entries
 |0,m,k,n,r=>Int.le_refl _
 |f+1,m,k,n,r=>by
  unfold JE
  have h:=Z7 m (JB (((who+k) % W:Nat):Int))
  split
  · simp only
    split
    · split
      · show m.entries≤(doV m _).1.entries;omega
      · show m.entries≤(doV m _).1.entries;omega
    · have:=U4 W who f (doV m (JB (((who+k) % W:Nat):Int))).1 (k+1) n r
      omega
  · exact Int.le_refl _
theorem KN (W:Nat) (lim:Int) (order:List Int):∀(f:Nat) (m:Qa) (i:Nat) (n r:Int),m.entries≤(Zg W lim order f m i n r).1.entries
 |0,m,i,n,r=>Int.le_refl _
 |f+1,m,i,n,r=>by
  unfold Zg
  have h:=U4 W (Zf order i) W m 0 n r
  split
  · simp only
    split
    · have:=KN W lim order f (JE W (Zf order i) W m 0 n r).1 (i+1) ((JE W (Zf order i) W m 0 n r).2.2.1+1) (JE W (Zf order i) W m 0 n r).2.2.2
      omega
    · exact h
  · exact Int.le_refl _
end
end Go.Proofs.YtgjklfmnmljilaaGreatDoor
