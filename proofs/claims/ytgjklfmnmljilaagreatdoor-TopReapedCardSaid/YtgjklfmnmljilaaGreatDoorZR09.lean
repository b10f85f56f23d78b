/- A part of the proof. -/
import Derived.Test.YtgjklfmnmljilaaGreatDoorZR08
namespace Go.Proofs.YtgjklfmnmljilaaGreatDoor
set_option linter.unusedVariables false
set_option linter.unusedSimpArgs false
set_option linter.unusedSectionVars false
set_option linter.unnecessarySimpa false
set_option maxRecDepth 100000
set_option maxHeartbeats 8000000
section
variable {c:Q0} {w:Nat} {n:Int} {M M':List Int}
def Xr (st:Int):Int:=if st=3 then 4 else if st=5 then 5 else 3
inductive TdS (c:Q0) (M:List Int):Qf→Qf→List Int→Prop
 |epoch {t}:t.st=0→TdS c M t {t with epoch:=Q6 M 2,st:=1} M
 |pin {t}:t.st=1→TdS c M t {t with st:=2} (Qp M (3+t.w) (t.epoch+1))
 |closed {t}:t.st=2→TdS c M t ({t with closed:=Q6 M 0}.search 3 4 (Q6 M 0)) M
 |hit3 {t f}:t.st=3→t.look=some f→f.at_<c.sl→JC (Q6 M (c.slot f.at_)) f.kind f.own=true→
   TdS c M t {t with look:=some {f with word:=Q6 M (c.slot f.at_),found:=true},i:=f.at_,word:=Q6 M (c.slot f.at_),ret:=some (Jb c f.at_ (Q6 M (c.slot f.at_))),st:=4} M
 |miss {t f}:t.st=3∨t.st=5∨t.st=9→t.look=some f→f.at_+1<c.sl→JC (Q6 M (c.slot f.at_)) f.kind f.own=false→TdS c M t {t with look:=some {f with at_:=f.at_+1}} M
 |last3 {t f}:t.st=3→t.look=some f→f.at_+1=c.sl→JC (Q6 M (c.slot f.at_)) f.kind f.own=false→TdS c M t (t.search 5 5 t.w) M
 |goes {t r r' M'}:t.st=4→t.ret=some r→RtS M r r' M'→r'.done=false→TdS c M t {t with ret:=some r'} M'
 |went {t r r' f M'}:t.st=4→t.ret=some r→t.look=some f→RtS M r r' M'→r'.done=true→TdS c M t {t with ret:=some r',look:=some f.again,st:=3} M'
 |hit5 {t f} (o:Int):t.st=5→t.look=some f→f.at_<c.sl→JC (Q6 M (c.slot f.at_)) f.kind f.own=true→0≤o→o<c.wo→o≠t.w→
   TdS c M t {t with look:=some {f with word:=Q6 M (c.slot f.at_),found:=true},i:=f.at_,word:=Q6 M (c.slot f.at_),other:=o,st:=6} M
 |lone5 {t f} (o:Int):t.st=5→t.look=some f→f.at_<c.sl→JC (Q6 M (c.slot f.at_)) f.kind f.own=true→
   TdS c M t {t with look:=some {f with word:=Q6 M (c.slot f.at_),found:=true},i:=f.at_,word:=Q6 M (c.slot f.at_),other:=o,st:=7} M
 |last5 {t f f'}:t.st=5→t.look=some f→(f.at_<c.sl→f.at_+1=c.sl∧JC (Q6 M (c.slot f.at_)) f.kind f.own=false)→TdS c M t {t with look:=some f',st:=if t.closed=0 then 8 else 15} M
 |old6 {t f}:t.st=6→t.look=some f→TdS c M t {t with look:=some f.go,st:=5} M
 |next6 {t} (o:Int):t.st=6→t.other<o→o<c.wo→o≠t.w→TdS c M t {t with other:=o} M
 |all6 {t} (o:Int):t.st=6→TdS c M t {t with other:=o,st:=7} M
 |clear {t f} (s u:Q7):t.st=7→t.look=some f→dec t.word=some s→Qk s 12 t.w 0=some u→Qx M (Q5 c t.i) t.word=true→TdS c M t {t with look:=some f.go,st:=5} (QI M (Q5 c t.i) t.word u.enc)
 |unclear {t f}:t.st=7→t.look=some f→TdS c M t {t with look:=some f.go,st:=5} M
 |none8 {t}:t.st=8→mQ M=[]→TdS c M t {t with queue:=mQ M,st:=15} M
 |head8 {t}:t.st=8→mQ M≠[]→TdS c M t ({t with queue:=mQ M,head:=Zc (mQ M)}.search 9 3 t.w) M
 |hit9 {t f}:t.st=9→t.look=some f→f.at_<c.sl→JC (Q6 M (c.slot f.at_)) f.kind f.own=true→
   TdS c M t {t with look:=some {f with word:=Q6 M (c.slot f.at_),found:=true},i:=f.at_,word:=Q6 M (c.slot f.at_),st:=10} M
 |last9 {t f}:t.st=9→t.look=some f→f.at_+1=c.sl→JC (Q6 M (c.slot f.at_)) f.kind f.own=false→TdS c M t {t with look:=some {f with at_:=f.at_+1},st:=15} M
 |keep {t} (s u:Q7):t.st=10→dec t.word=some s→Qk s (if s.st=2 then 5 else 7) t.head 0=some u→Qx M (Q5 c t.i) t.word=true→TdS c M t {t with st:=11} (QI M (Q5 c t.i) t.word u.enc)
 |unkept {t f}:t.st=10→t.look=some f→(∀s u,dec t.word=some s→Qk s (if s.st=2 then 5 else 7) t.head 0=some u→Qx M (Q5 c t.i) t.word=false)→TdS c M t {t with look:=some f.again,st:=9} M
 |pop {t}:t.st=11→mQ M=t.queue→TdS c M t {t with st:=12} (M.set 1 (wd t.queue.tail:Int))
 |unpopped {t}:t.st=11→mQ M≠t.queue→TdS c M t {t with st:=13} M
 |grant {t}:t.st=12→TdS c M t {t with st:=8} (Qp M (3+c.wo+t.head) (t.i+1))
 |kept {t} (s:Q7):t.st=13→dec (Q6 M (Q5 c t.i))=some s→s.st=4∨s.st=5→TdS c M t {t with word:=Q6 M (Q5 c t.i),st:=14} M
 |lost {t}:t.st=13→(∀s,dec (Q6 M (Q5 c t.i))=some s→¬(s.st=4∨s.st=5))→TdS c M t {t with word:=Q6 M (Q5 c t.i),st:=8} M
 |unkeep {t} (s u:Q7):t.st=14→dec t.word=some s→Qk s (if s.st=4 then 6 else 8) t.w 0=some u→Qx M (Q5 c t.i) t.word=true→TdS c M t {t with st:=2} (QI M (Q5 c t.i) t.word u.enc)
 |again {t}:t.st=14→(∀s u,dec t.word=some s→Qk s (if s.st=4 then 6 else 8) t.w 0=some u→Qx M (Q5 c t.i) t.word=false)→TdS c M t {t with st:=13} M
 |unpin {t}:t.st=15→TdS c M t {t with st:=16} (Qp M (3+t.w) 0)
 |done {t}:t.st=16→Q6 M 2=t.epoch→TdS c M t {t with st:=17} M
 |redo {t}:t.st=16→Q6 M 2≠t.epoch→TdS c M t {t with st:=0} M
theorem K4 {x:Int} {s:Q7} (h:dec x=some s):isW x=s.st:=by unfold isW;rw [h]
theorem Ym (c:Q0) (t:Qf) (M:List Int) (d:Nat) (own:Int):
 (∃s u,dec t.word=some s∧Qk s d own 0=some u∧Qx M (Q5 c t.i) t.word=true∧Xk c t M d own=(QI M (Q5 c t.i) t.word u.enc,true))∨
 ((∀s u,dec t.word=some s→Qk s d own 0=some u→Qx M (Q5 c t.i) t.word=false)∧Xk c t M d own=(M,false)):=by
 unfold Xk
 cases ha:J6 t.word d own 0 with
 |none=>right;exact ⟨fun s u hs hu=>(Zd ha hs hu).elim,rfl⟩
 |some x=>
  obtain ⟨s,hs,hu,he⟩:=JZ ha
  obtain ⟨u,n⟩:=x
  simp only at hu he ⊢
  subst he
  cases hc:Qx M (Q5 c t.i) t.word with
  |true=>left;exact ⟨s,u,hs,hu,rfl,by simp only [if_true]⟩
  |false=>right;exact ⟨fun _ _ _ _=>rfl,by simp only [Bool.false_eq_true,if_false]⟩
structure Qf.live (c:Q0) (w:Nat) (n:Int) (shut:Prop) (t:Qf):Prop where
 s0:0≤t.st
 s1:t.st≤16
 tw:t.w=w
 w1:(w:Int)<c.wo
 ep:0≤t.epoch∧t.epoch≤n
 cl:t.closed=2→shut
 lk:t.st=3∨t.st=5∨t.st=9→∃f,t.look=some f∧f.found=false∧0≤f.at_∧f.at_≤c.sl∧(t.st≠5→f.at_<c.sl)∧f.kind=Xr t.st∧(t.st=3→f.own=t.closed)
 fd:t.st=4∨t.st=6∨t.st=7∨t.st=10→∃f s,t.look=some f∧f.found=true∧f.at_=t.i∧Q7.right s∧t.word=s.enc∧Jq s f.kind f.own=true∧f.kind=(if t.st=4 then 4 else if t.st=10 then 3 else 5)∧(t.st=4→f.own=t.closed)
 i:t.st=4∨t.st=6∨t.st=7∨(10≤t.st∧t.st≤14)→0≤t.i∧t.i<c.sl
 rt:t.st=4→∃r,t.ret=some r∧Yg c r t.i fun s=>(s.st=3→shut)∧(s.st=2∨s.st=3)
 ot:t.st=6→0≤t.other∧t.other<c.wo
 hd:9≤t.st∧t.st≤12→(0≤t.head∧t.head<c.wo)∧Ln t.queue∧t.queue≠[]∧t.head=Zc t.queue∧∀x∈t.queue,x<c.wo
 wd:t.st=14→∃s,Q7.right s∧t.word=s.enc∧(s.st=4∨s.st=5)
theorem Km (c:Q0) (t:Qf):(∃o,t.other<o∧o<c.wo∧o≠t.w∧t.another c=({t with other:=o},true))∨(∃o,t.another c=({t with other:=o},false)):=by
 unfold Qf.another
 simp only
 generalize ho:(if t.other+1=t.w then t.other+2 else t.other+1)=o
 by_cases h:o<c.wo
 · left;refine ⟨o,by split at ho<;>omega,h,by split at ho<;>omega,by rw [decide_eq_true h]⟩
 · right;exact ⟨o,by rw [decide_eq_false h]⟩
theorem V7 (c:Q0) (w:Nat) (n:Int) (shut:Prop) (t:Qf) (M:List Int) (h:t.live c w n shut):TdS c M t (Ql c t M).1 (Ql c t M).2:=by
 have hs:t.st=0∨t.st=1∨t.st=2∨t.st=3∨t.st=4∨t.st=5∨t.st=6∨t.st=7∨t.st=8∨t.st=9∨t.st=10∨t.st=11∨t.st=12∨t.st=13∨t.st=14∨t.st=15∨t.st=16:=by have:=h.s0;have:=h.s1;omega
 obtain ⟨-, -, -, -, -, -,hlk,hfd,hi,hrt,hot,hhd,hwd⟩:=h
 have L:∀f,t.look=some f→t.lk=f:=fun f e=>by unfold Qf.lk;rw [e];rfl
 rcases hs with hs|hs|hs|hs|hs|hs|hs|hs|hs|hs|hs|hs|hs|hs|hs|hs|hs
 · simp [Ql,hs];exact .epoch hs
 · simp [Ql,hs];exact .pin hs
 · simp [Ql,hs];have:=TdS.closed (c:=c) (M:=M) hs;rwa [hs] at this
 · obtain ⟨f,hf,hff,h0,h1,h2,hk, -⟩:=hlk Lb
   rcases JY c f M hff with ⟨ha,hw,e⟩|⟨ha,hw,e⟩|⟨ha,e⟩
   · simp [Ql,hs,L f hf,e];exact .hit3 hs hf ha hw
   · by_cases hl:c.sl≤f.at_+1
     · simp [Ql,hs,L f hf,e,hl,hff];exact .last3 hs hf Lb hw
     · simp [Ql,hs,L f hf,e,hl,hff];have:=TdS.miss (.inl hs) hf Lb hw;simpa [hff,hs] using this
   · have:=h2 Lb;omega
 · obtain ⟨f,s,hf, -⟩:=hfd Lb
   obtain ⟨r,hr,hl⟩:=hrt hs
   have hS:=ZC r M hl.nd
   have er:t.rt=r:=by unfold Qf.rt;rw [hr];rfl
   simp [Ql,hs,er,L f hf]
   generalize Qn r M=x at*
   obtain ⟨r',M'⟩:=x
   simp only at hS ⊢
   cases hd:r'.done with
   |false=>simp only [Bool.false_eq_true,if_false];have:=TdS.goes (c:=c) hs hr hS hd;rwa [hs] at this
   |true=>simp only [if_true];exact .went hs hr hf hS hd
 · obtain ⟨f,hf,hff,h0,h1,h2,hk, -⟩:=hlk Lb
   rcases JY c f M hff with ⟨ha,hw,e⟩|⟨ha,hw,e⟩|⟨ha,e⟩
   · rcases Km c {t with look:=some {f with word:=Q6 M (c.slot f.at_),found:=true},i:=f.at_,word:=Q6 M (c.slot f.at_),other:= -1,st:=6} with ⟨o,o1,o2,o3,oe⟩|⟨o,oe⟩
     · simp [Ql,hs,L f hf,e,oe];exact .hit5 o hs hf ha hw (by simp only at o1;omega) o2 o3
     · simp [Ql,hs,L f hf,e,oe];exact .lone5 o hs hf ha hw
   · by_cases hl:c.sl≤f.at_+1
     · have:=TdS.last5 (f':={f with at_:=f.at_+1}) hs hf (fun _=>⟨Lb,hw⟩)
       by_cases hc:t.closed=0
       · simp [Ql,hs,L f hf,e,hl,hff,hc];simpa [hc,hff] using this
       · simp [Ql,hs,L f hf,e,hl,hff,hc];simpa [hc,hff] using this
     · simp [Ql,hs,L f hf,e,hl,hff];have:=TdS.miss (.inr (.inl hs)) hf Lb hw;simpa [hff,hs] using this
   · have:=TdS.last5 (c:=c) (M:=M) (f':=f) hs hf (fun a=>absurd a Lb)
     by_cases hc:t.closed=0
     · simp [Ql,hs,L f hf,e,hff,hc];simpa [hc,hff] using this
     · simp [Ql,hs,L f hf,e,hff,hc];simpa [hc,hff] using this
 · obtain ⟨f,s,hf, -⟩:=hfd Lb
   by_cases hc:1≤Q6 M (3+t.other)∧Q6 M (3+t.other) - 1≤epW t.word
   · simp [Ql,hs,L f hf,hc];exact .old6 hs hf
   · rcases Km c t with ⟨o,o1,o2,o3,oe⟩|⟨o,oe⟩
     · simp [Ql,hs,L f hf,hc,oe];have:=TdS.next6 (M:=M) o hs o1 o2 o3;simpa [hs] using this
     · simp [Ql,hs,L f hf,hc,oe];exact .all6 o hs
 · obtain ⟨f,s,hf, -⟩:=hfd Lb
   rcases Ym c t M 12 t.w with ⟨s,u,h1,h2,h3,h4⟩|⟨h1,h2⟩
   · simp [Ql,hs,L f hf,h4];exact .clear s u hs hf h1 h2 h3
   · simp [Ql,hs,L f hf,h2];exact .unclear hs hf
 · by_cases hc:mQ M=[]
   · simp [Ql,hs,hc];have:=TdS.none8 (c:=c) hs hc;rwa [hc] at this
   · simp [Ql,hs,hc];exact .head8 hs hc
 · obtain ⟨f,hf,hff,h0,h1,h2,hk, -⟩:=hlk Lb
   rcases JY c f M hff with ⟨ha,hw,e⟩|⟨ha,hw,e⟩|⟨ha,e⟩
   · simp [Ql,hs,L f hf,e];exact .hit9 hs hf ha hw
   · by_cases hl:c.sl≤f.at_+1
     · simp [Ql,hs,L f hf,e,hl,hff];have:=TdS.last9 hs hf Lb hw;simpa [hff] using this
     · simp [Ql,hs,L f hf,e,hl,hff];have:=TdS.miss (.inr (.inr hs)) hf Lb hw;simpa [hff,hs] using this
   · have:=h2 Lb;omega
 · obtain ⟨f,s,hf, -, -,hsr,hw, -⟩:=hfd Lb
   have hd:dec t.word=some s:=by rw [hw];exact QF hsr
   rcases Ym c t M (if isW t.word=2 then 5 else 7) t.head with ⟨s',u,h1,h2,h3,h4⟩|⟨h1,h2⟩
   · rw [hd] at h1;cases h1
     simp [Ql,hs,L f hf,h4];rw [K4 hd] at h2;exact .keep s u hs hd h2 h3
   · simp [Ql,hs,L f hf,h2];refine .unkept hs hf fun s' u a b=>h1 s' u a (by rw [K4 a];exact b)
 · by_cases hc:mQ M=t.queue
   · simp [Ql,hs,hc];exact .pop hs hc
   · simp [Ql,hs,hc];exact .unpopped hs hc
 · simp [Ql,hs];exact .grant hs
 · cases hd:dec (Q6 M (Q5 c t.i)) with
   |none=>
    have:¬(isW (Q6 M (Q5 c t.i))=4∨isW (Q6 M (Q5 c t.i))=5):=by unfold isW;rw [hd];simp
    simp [Ql,hs,this];exact .lost hs fun s e=>by rw [hd] at e;cases e
   |some s=>
    by_cases hc:s.st=4∨s.st=5
    · have:isW (Q6 M (Q5 c t.i))=4∨isW (Q6 M (Q5 c t.i))=5:=by rw [K4 hd];exact hc
      simp [Ql,hs,this];exact .kept s hs hd hc
    · have:¬(isW (Q6 M (Q5 c t.i))=4∨isW (Q6 M (Q5 c t.i))=5):=by rw [K4 hd];exact hc
      simp [Ql,hs,this];exact .lost hs fun s' e=>by rw [hd] at e;cases e;exact hc
 · obtain ⟨s,hsr,hw, -⟩:=hwd hs
   have hd:dec t.word=some s:=by rw [hw];exact QF hsr
   rcases Ym c t M (if isW t.word=4 then 6 else 8) t.w with ⟨s',u,h1,h2,h3,h4⟩|⟨h1,h2⟩
   · rw [hd] at h1;cases h1
     simp [Ql,hs,h4];rw [K4 hd] at h2;exact .unkeep s u hs hd h2 h3
   · simp [Ql,hs,h2];refine .again hs fun s' u a b=>h1 s' u a (by rw [K4 a];exact b)
 · simp [Ql,hs];exact .unpin hs
 · by_cases hc:Q6 M 2=t.epoch
   · simp [Ql,hs,hc];exact .done hs hc
   · simp [Ql,hs,hc];exact .redo hs hc
theorem Z0D {P:Prop} (h:P:=by
 cases E _ _ g1 h2
 have hi':=hi Lb
 exact ⟨h.stays,Q,fun _=>⟨Lc,Lc,tw,w1,ep',hcl,fun _=>⟨_,rfl,by simp [Qi.go,g2],by simp [Qi.go,g2];omega,by simp [Qi.go,g2];omega,Lc,by simp [Qi.go,g2,g7,h1,Xr],Lc⟩,Lc,Lc,Lc,Lc,Lc,Lc⟩⟩):P:=h
theorem Z0P {P:Prop} (h:P:=by
 exact ⟨st,trL h Lb Lb,fun _=>⟨Lc,Lc,tw,w1,ep',fun e=>st.sh (hcl e),Lc,Lc,Lc,Lc,Lc,Lc,Lc⟩⟩):P:=h
theorem Z14 {P:Prop} (h:P:=by
 have hi':=hi Lb
 exact ⟨h.stays,Q,fun _=>⟨Lc,Lc,tw,w1,ep',hcl,Lc,Lc,fun _=>hi',Lc,Lc,Lc,Lc⟩⟩):P:=h
theorem Q84 (h:Qj c n M) (hn:n≤1000000000) {t t':Qf} (hl:t.live c w n (Jz M)) (hS:TdS c M t t' M'):
 StM c (n+1) M M'∧(∀r,Tr c w M M' r r)∧(t'.st≠17→t'.live c w (n+1) (Jz M')):=by
 have Q:∀r,Tr c w M M r r:=fun r=>.quiet rfl rfl
 obtain ⟨s0,s1,tw,w1,ep,hcl,hlk,hfd,hi,hrt,hot,hhd,hwd⟩:=hl
 have E:∀f g:Qi,t.look=some f→t.look=some g→f=g:=fun f g a b=>by rw [a] at b;exact Option.some.inj b
 have wo:=h.cf.1;have sl:=h.cf.2.1;have len:=h.len;have hep:=h.ep
 have ep':0≤t.epoch∧t.epoch≤n+1:=Lb
 have I:∀x:Int,0≤x→x<3+2*c.wo→∀v,Qp M x v=M.set x.toNat v:=fun x a b v=>Jr a (by unfold Q0.cells at*;omega)
 cases hS with
 |epoch h1=>exact ⟨h.stays,Q,fun _=>⟨Lc,Lc,tw,w1,Ld,hcl,Lc,Lc,Lc,Lc,Lc,Lc,Lc⟩⟩
 |pin h1=>
  rw [I _ Lb Lb]
  have st:=h.Vr (j:=3+t.w) (v:=t.epoch+1) Lb Lb Lb Lb Lb Lb Lb
  exact Z0P
 |closed h1=>
  refine ⟨h.stays,Q,fun _=>⟨by simp [Qf.search],by simp [Qf.search],tw,w1,ep',fun e=>e,fun _=>⟨_,rfl,rfl,by simp [QE],by simp [QE];omega,by simp [QE];omega,rfl,fun _=>rfl⟩,by simp [Qf.search],by simp [Qf.search],by simp [Qf.search],by simp [Qf.search],by simp [Qf.search],by simp [Qf.search]⟩⟩
 |@hit3 f h1 h2 h3 h4=>
  obtain ⟨f',e1,e2,e3,e4,e5,e6,e7⟩:=hlk Lb
  cases E _ _ e1 h2
  obtain ⟨a1,a2,a3⟩:=h.ZL e3 h3 h4
  refine ⟨h.stays,Q,fun _=>⟨Lc,Lc,tw,w1,ep',hcl,Lc,fun _=>⟨_,SL c M f.at_,rfl,rfl,rfl,a1,a2,a3,by simp [e6,h1,Xr],fun _=>e7 h1⟩,fun _=>⟨e3,h3⟩,fun _=>⟨_,rfl,YC h ⟨e3,h3⟩ a1 a2 ⟨fun h3s=> ?_, ?_⟩⟩,Lc,Lc,Lc⟩⟩
  · rw [e6,h1,e7 h1] at a3
    simp [Xr,Jq,isV,h3s] at a3
    exact hcl a3
  · rw [e6,h1] at a3
    by_cases hi:(SL c M f.at_).st=2
    · exact .inl hi
    · simp [Xr,Jq,isV,hi] at a3
      exact .inr a3.1
 |@miss f h1 h2 h3 h4=>
  obtain ⟨f',e1,e2,e3,e4,e5,e6,e7⟩:=hlk h1
  cases E _ _ e1 h2
  exact ⟨h.stays,Q,fun _=>⟨s0,s1,tw,w1,ep',hcl,fun _=>⟨_,rfl,e2,Ld,Ld,fun _=>h3,e6,e7⟩,Ld,Ld,Ld,Ld,fun a=>hhd a,Ld⟩⟩
 |@last3 f h1 h2 h3 h4=>
  exact ⟨h.stays,Q,fun _=>⟨by simp [Qf.search],by simp [Qf.search],tw,w1,ep',hcl,fun _=>⟨_,rfl,rfl,by simp [QE],by simp [QE];omega,by simp [QE];omega,rfl,by simp [Qf.search]⟩,by simp [Qf.search],by simp [Qf.search],by simp [Qf.search],by simp [Qf.search],by simp [Qf.search],by simp [Qf.search]⟩⟩
 |@goes r r' _ h1 h2 h3 h4=>
  obtain ⟨r0,f1,f2⟩:=hrt h1
  rw [h2] at f1;cases f1
  have hi':=hi Lb
  obtain ⟨st,b1,b2⟩:=KO h Lb f2 hi' h3
  refine ⟨st,fun r=> ?_,fun _=>⟨s0,s1,tw,w1,ep',fun e=>st.sh (hcl e),Ld,fun a=>hfd a,fun _=>hi',fun _=>⟨_,rfl, ?_⟩,Ld,fun a=>hhd a,Ld⟩⟩
  · rcases b2 with ⟨e1,e2,e3⟩|⟨e0,e1, -,e2,e3,e4⟩
    · exact .quiet e2 e3
    · by_cases h3s:(SL c M t.i).st=3
      · exact .force t.i (e2.1 h3s) e3 e4
      · refine .quiet ?_ e4
        have:LM c M t.i=none:=by unfold LM lv;rw [if_neg h3s]
        rw [e3,←this];exact Eh (LM c M) t.i
  · obtain ⟨⟨s,c1,c2,c3⟩,d1,d2,d3,d4⟩:=b1 h4
    exact ⟨⟨s,c1,c2,fun a=>⟨fun b=>st.sh ((c3 a).1 b),(c3 a).2⟩⟩,d1,d2,d3,d4⟩
 |@went r r' f _ h1 h2 h3 h4 h5=>
  obtain ⟨r0,f1,f2⟩:=hrt h1
  rw [h2] at f1;cases f1
  obtain ⟨f',s,g1,g2,g3,g4,g5,g6,g7,g8⟩:=hfd Lb
  cases E _ _ g1 h3
  have hi':=hi Lb
  obtain ⟨st,b1,b2⟩:=KO h Lb f2 hi' h4
  refine ⟨st,fun r=> ?_,fun _=>⟨Lc,Lc,tw,w1,ep',fun e=>st.sh (hcl e),fun _=>⟨_,rfl,rfl,by simp only [Qi.again];omega,by simp only [Qi.again];omega,fun _=>by simp only [Qi.again];omega,by simp [Qi.again,g7,h1,Xr],fun _=>g8 h1⟩,Lc,Lc,Lc,Lc,Lc,Lc⟩⟩
  rcases b2 with ⟨e1,e2,e3⟩|⟨e0,e1,e5, -⟩
  · exact .quiet e2 e3
  · rw [h5] at e5;cases e5
 |@hit5 f o h1 h2 h3 h4 o0 o1 o2=>
  obtain ⟨f',e1,e2,e3,e4,e5,e6,e7⟩:=hlk Lb
  cases E _ _ e1 h2
  obtain ⟨a1,a2,a3⟩:=h.ZL e3 h3 h4
  exact ⟨h.stays,Q,fun _=>⟨Lc,Lc,tw,w1,ep',hcl,Lc,fun _=>⟨_,SL c M f.at_,rfl,rfl,rfl,a1,a2,a3,by simp [e6,h1,Xr],Lc⟩,fun _=>⟨e3,h3⟩,Lc,fun _=>⟨o0,o1⟩,Lc,Lc⟩⟩
 |@lone5 f o h1 h2 h3 h4=>
  obtain ⟨f',e1,e2,e3,e4,e5,e6,e7⟩:=hlk Lb
  cases E _ _ e1 h2
  obtain ⟨a1,a2,a3⟩:=h.ZL e3 h3 h4
  exact ⟨h.stays,Q,fun _=>⟨Lc,Lc,tw,w1,ep',hcl,Lc,fun _=>⟨_,SL c M f.at_,rfl,rfl,rfl,a1,a2,a3,by simp [e6,h1,Xr],Lc⟩,fun _=>⟨e3,h3⟩,Lc,Lc,Lc,Lc⟩⟩
 |@last5 f f' h1 h2 h3=>
  refine ⟨h.stays,Q,fun _=> ?_⟩
  by_cases hc:t.closed=0
  · simp only [if_pos hc]
    exact ⟨Lc,Lc,tw,w1,ep',hcl,Lc,Lc,Lc,Lc,Lc,Lc,Lc⟩
  · simp only [if_neg hc]
    exact ⟨Lc,Lc,tw,w1,ep',hcl,Lc,Lc,Lc,Lc,Lc,Lc,Lc⟩
 |@old6 f h1 h2=>
  obtain ⟨f',s,g1,g2,g3,g4,g5,g6,g7,g8⟩:=hfd Lb
  exact Z0D
 |next6 o h1 o0 o1 o2=>
  have:=hot h1
  exact ⟨h.stays,Q,fun _=>⟨s0,s1,tw,w1,ep',hcl,Ld,fun a=>hfd a,fun a=>hi a,Ld,fun _=>Ld,fun a=>hhd a,Ld⟩⟩
 |all6 o h1=>
  have g:=hfd Lb
  have hi':=hi Lb
  refine ⟨h.stays,Q,fun _=>⟨Lc,Lc,tw,w1,ep',hcl,Lc,fun _=> ?_,fun _=>hi',Lc,Lc,Lc,Lc⟩⟩
  simpa [h1] using g
 |@clear f s u h1 h2 h3 h4 h5=>
  obtain ⟨f',s',g1,g2,g3,g4,g5,g6,g7,g8⟩:=hfd Lb
  cases E _ _ g1 h2
  have hi':=hi Lb
  obtain ⟨hin,e,hu,e2,st,el,eg⟩:=h.swap h3 h4 h5
  rw [e2]
  exact ⟨st,ZN h e el eg (XF h4 Lc),fun _=>⟨Lc,Lc,tw,w1,ep',fun e=>st.sh (hcl e),fun _=>⟨_,rfl,by simp [Qi.go,g2],by simp [Qi.go,g2];omega,by simp [Qi.go,g2];omega,Lc,by simp [Qi.go,g2,g7,h1,Xr],Lc⟩,Lc,Lc,Lc,Lc,Lc,Lc⟩⟩
 |@unclear f h1 h2=>
  obtain ⟨f',s',g1,g2,g3,g4,g5,g6,g7,g8⟩:=hfd Lb
  exact Z0D
 |none8 h1 h2=>exact ⟨h.stays,Q,fun _=>⟨Lc,Lc,tw,w1,ep',hcl,Lc,Lc,Lc,Lc,Lc,Lc,Lc⟩⟩
 |head8 h1 h2=>
  have hm:=DK h2
  exact ⟨h.stays,Q,fun _=>⟨by simp [Qf.search],by simp [Qf.search],tw,w1,ep',hcl,fun _=>⟨_,rfl,rfl,by simp [QE],by simp [QE];omega,by simp [QE];omega,rfl,by simp [Qf.search]⟩,by simp [Qf.search],by simp [Qf.search],by simp [Qf.search],by simp [Qf.search],fun _=>⟨⟨(h.ln.1 _ hm).1,h.qw _ hm⟩,h.ln,h2,rfl,h.qw⟩,by simp [Qf.search]⟩⟩
 |@hit9 f h1 h2 h3 h4=>
  obtain ⟨f',e1,e2,e3,e4,e5,e6,e7⟩:=hlk Lb
  cases E _ _ e1 h2
  obtain ⟨a1,a2,a3⟩:=h.ZL e3 h3 h4
  have hh:=hhd Lb
  exact ⟨h.stays,Q,fun _=>⟨Lc,Lc,tw,w1,ep',hcl,Lc,fun _=>⟨_,SL c M f.at_,rfl,rfl,rfl,a1,a2,a3,by simp [e6,h1,Xr],Lc⟩,fun _=>⟨e3,h3⟩,Lc,Lc,fun _=>hh,Lc⟩⟩
 |@last9 f h1 h2 h3 h4=>exact ⟨h.stays,Q,fun _=>⟨Lc,Lc,tw,w1,ep',hcl,Lc,Lc,Lc,Lc,Lc,Lc,Lc⟩⟩
 |keep s u h1 h2 h3 h4=>
  have hi':=hi Lb
  have hh:=hhd Lb
  obtain ⟨hin,e,hu,e2,st,el,eg⟩:=h.swap h2 h3 h4
  rw [e2]
  exact ⟨st,ZN h e el eg (XF h3 (by split<;>simp)),fun _=>⟨Lc,Lc,tw,w1,ep',fun e=>st.sh (hcl e),Lc,Lc,fun _=>hi',Lc,Lc,fun _=>hh,Lc⟩⟩
 |@unkept f h1 h2 h3=>
  obtain ⟨f',s',g1,g2,g3,g4,g5,g6,g7,g8⟩:=hfd Lb
  cases E _ _ g1 h2
  have hi':=hi Lb
  have hh:=hhd Lb
  exact ⟨h.stays,Q,fun _=>⟨Lc,Lc,tw,w1,ep',hcl,fun _=>⟨_,rfl,rfl,by simp only [Qi.again];omega,by simp only [Qi.again];omega,fun _=>by simp only [Qi.again];omega,by simp [Qi.again,g7,h1,Xr],Lc⟩,Lc,Lc,Lc,Lc,fun _=>hh,Lc⟩⟩
 |pop h1 h2=>
  have hi':=hi Lb
  obtain ⟨hh1,hh2,hh3,hh4,hh5⟩:=hhd Lb
  have st:=h.Vr (j:=1) (v:=(wd t.queue.tail:Int)) Lb Lb (fun _=>⟨_,hh2.tail,rfl,fun x hx=>hh5 x (List.mem_of_mem_tail hx)⟩) Lb Lb Lb Lb
  exact ⟨st,trL h (j:=1) Lb Lb,fun _=>⟨Lc,Lc,tw,w1,ep',fun e=>st.sh (hcl e),Lc,Lc,fun _=>hi',Lc,Lc,fun _=>⟨hh1,hh2,hh3,hh4,hh5⟩,Lc⟩⟩
 |unpopped h1 h2=>
  exact Z14
 |grant h1=>
  have hi':=hi Lb
  obtain ⟨hh1, -⟩:=hhd Lb
  rw [I _ Lb Lb]
  have st:=h.Vr (j:=3+c.wo+t.head) (v:=t.i+1) Lb Lb Lb Lb Lb Lb Lb
  exact Z0P
 |kept s h1 h2 h3=>
  have hi':=hi Lb
  obtain ⟨a1,a2,a3⟩:=h.at t.i
  rw [h2] at a3;cases a3
  exact ⟨h.stays,Q,fun _=>⟨Lc,Lc,tw,w1,ep',hcl,Lc,Lc,fun _=>hi',Lc,Lc,Lc,fun _=>⟨_,a1,a2,h3⟩⟩⟩
 |lost h1 h2=>exact ⟨h.stays,Q,fun _=>⟨Lc,Lc,tw,w1,ep',hcl,Lc,Lc,Lc,Lc,Lc,Lc,Lc⟩⟩
 |unkeep s u h1 h2 h3 h4=>
  obtain ⟨hin,e,hu,e2,st,el,eg⟩:=h.swap h2 h3 h4
  rw [e2]
  exact ⟨st,ZN h e el eg (XF h3 (by split<;>simp)),fun _=>⟨Lc,Lc,tw,w1,ep',fun e=>st.sh (hcl e),Lc,Lc,Lc,Lc,Lc,Lc,Lc⟩⟩
 |again h1 h2=>
  exact Z14
 |unpin h1=>
  rw [I _ Lb Lb]
  have st:=h.Vr (j:=3+t.w) (v:=0) Lb Lb Lb Lb Lb Lb Lb
  exact Z0P
 |done h1 h2=>exact ⟨h.stays,Q,fun e=>absurd rfl e⟩
 |redo h1 h2=>exact ⟨h.stays,Q,fun _=>⟨Lc,Lc,tw,w1,ep',hcl,Lc,Lc,Lc,Lc,Lc,Lc,Lc⟩⟩
end
section
variable {c:Q0} {n:Int} {M M':List Int}
structure Qy.live (c:Q0) (n:Int) (r:Qy):Prop where
 mn:0≤r.many∧r.many≤n
 s0:0≤r.st
 s1:r.st≤3
 lk:r.st=0→r.look.found=false
 a:0≤r.look.at_∧r.look.at_≤c.sl
 kd:r.look.kind=6
 fd:r.st≠0→r.look.found=true∧r.look.at_<c.sl∧∃s,Q7.right s∧r.look.word=s.enc∧s.st=2
 rt:r.st=3→∃t,r.ret=some t∧Yg c t r.look.at_ fun s=>s.st=2
theorem Q6a {w:Nat} (h:Qj c n M) {i:Int} (e0:(SL c M i).st=2) (e1:LM c M'=upL (LM c M) i none) (e2:GM c M'=GM c M) (r:UD):Tr c w M M' r r:=by
 refine .quiet ?_ e2
 have:LM c M i=none:=by unfold LM lv;rw [if_neg Lb]
 rw [e1,←this];exact Eh (LM c M) i
structure Tw2.live (c:Q0) (n:Int) (t:Tw2):Prop where
 r:(t.r.length:Int)<c.sl
 l:(t.l.length:Int)≤c.sl
 n:0≤t.n∧t.n≤n
 w:∀x,x∈t.r∨x∈t.l→∃s:Q7,s.right∧x=s.enc
 d:t.d=true→t.l≠[]
theorem Di {c:Q0} {n:Int} (hc:c.fits) (h0:0≤n):Y7.live c n:=⟨by have:=hc.2.1;simp [Y7];omega,by have:=hc.2.1;simp [Y7];omega,by simp [Y7];omega,by simp [Y7],by simp [Y7]⟩
theorem Tw2.live.next {c:Q0} {n:Int} {M:List Int} (h:Qj c n M) {t:Tw2} (l:t.live c n):(QH c t M).live c (n+1):=by
 obtain ⟨l1,l2,l3,l4,l5⟩:=l
 unfold QH
 have sl:=h.cf.2.1
 by_cases hd:t.d=true
 · rw [if_pos hd];exact ⟨l1,l2,Lb,l4,l5⟩
 · rw [if_neg hd]
   simp only
   have hx:∃s:Q7,s.right∧Q6 M (c.slot t.r.length)=s.enc:=by
    have:=h.sl t.r.length Lb l1
    unfold Q5 at this;rwa [if_pos ⟨Lb,l1⟩] at this
   have hm:∀x,x∈t.r++[Q6 M (c.slot t.r.length)]→∃s:Q7,s.right∧x=s.enc:=by
    intro x hxm
    rcases List.mem_append.1 hxm with a|a
    · exact l4 x (.inl a)
    · rw [List.mem_singleton.1 a];exact hx
   split
   · rename_i h2
     exact ⟨h2,l2,Ld,fun x hx=>by rcases hx with a|a;exact hm x a;exact l4 x (.inr a),l5⟩
   · rename_i h2
     refine ⟨by simp only [List.length_nil];omega, ?_,Ld,fun x hx=>by rcases hx with a|a;(cases a);exact hm x a,Lc⟩
     simp only [List.length_append,List.length_singleton];omega
def Yh.live (c:Q0) (w:Nat) (n:Int) (a:Kh):Yh→Prop
 |.none=>False
 |.get t=>a.op=0∧t.live c w
 |.give g=>(a.op=1∨a.op=2)∧g.live c w∧g.i=a.slot∧g.gen=a.gen
 |.strm s=>(a.op=3∨a.op=4)∧s.live c w∧s.i=a.slot∧s.gen=a.gen∧s.opens=decide (a.op=3)
 |.Xl r=>a.op=5∧r.live c n
 |.close f d=>a.op=6∧∀q,d=some q→q.live c∧(q.nx=.head∨q.nx=.pop∨q.nx=.tell)
 |.stats t=>a.op=7∧t.live c n
def Yh.role:Yh→UD
 |.get t=>Zj t
 |.give g=>Y3 g
 |.strm s=>U6 s
 |_=>.no
structure Q8.live (c:Q0) (w:Nat) (n:Int) (shut:Prop) (k:Q8):Prop where
 s0:0≤k.st
 s1:k.st≤8
 op:k.st≠0→0≤k.ask.op∧k.ask.op<8
 op0:k.st=3∨k.st=4∨6≤k.st∨(k.st=5∧k.parks=true)→k.ask.op=0
 pin:k.st=1→k.half=true→0≤k.word∧k.word≤n
 wake:k.st=7→k.half=true→ -1≤k.word∧k.word≤16
 gr:0≤k.grant∧k.grant≤16
 half:k.st≠1→k.st≠7→k.half=false
 wk:k.st=2→k.work.live c w n k.ask
 tw:k.st=3→∃t,k.tw=some t∧t.live c n
 en:k.st=4→∃q,k.qu=some q∧q.live c
 le:k.st=8→∃q,k.qu=some q∧q.live c∧(q.nx=.look∨q.nx=.drop)∧q.why=4
 ti:k.st=5→∃t,k.ti=some t∧t.live c w n shut
 ans:k.st=5→k.parks=false→k.ans.e=0→(k.ask.op=0→0≤k.ans.slot∧k.ans.slot<c.sl)∧(k.ask.op=3∨k.ask.op=4→0≤k.ans.stream∧k.ans.stream<8)
theorem Qf.live.mono {w:Nat} {n':Int} {shut shut':Prop} {t:Qf} (h:t.live c w n shut) (hn:n≤n') (hs:shut→shut'):t.live c w n' shut':=
 {h with ep:=⟨h.ep.1,by have:=h.ep.2;omega⟩,cl:=fun e=>hs (h.cl e),rt:=fun e=>by obtain ⟨r,a,⟨s,c1,c2,c3⟩,d1,d2,d3,d4⟩:=h.rt e;exact ⟨r,a,⟨s,c1,c2,fun x=>⟨fun y=>hs ((c3 x).1 y),(c3 x).2⟩⟩,d1,d2,d3,d4⟩}
theorem Qy.live.mono {n':Int} {r:Qy} (h:r.live c n) (hn:n≤n'):r.live c n':={h with mn:=⟨h.mn.1,by have:=h.mn.2;omega⟩}
theorem Tw2.live.mono {n':Int} {t:Tw2} (h:t.live c n) (hn:n≤n'):t.live c n':={h with n:=⟨h.n.1,by have:=h.n.2;omega⟩}
theorem Yh.live.mono {w:Nat} {n':Int} {a:Kh} {j:Yh} (h:j.live c w n a) (hn:n≤n'):j.live c w n' a:=by
 cases j<;>first|exact h|exact ⟨h.1,h.2.mono hn⟩
theorem Q8.live.mono {w:Nat} {n':Int} {shut shut':Prop} {k:Q8} (h:k.live c w n shut) (hn:n≤n') (hs:shut→shut'):k.live c w n' shut':=
 {h with wk:=fun e=>(h.wk e).mono hn,tw:=fun e=>by obtain ⟨t,a,b⟩:=h.tw e;exact ⟨t,a,b.mono hn⟩,pin:=fun a b=>⟨(h.pin a b).1,by have:=(h.pin a b).2;omega⟩,ti:=fun e=>by obtain ⟨t,a,b⟩:=h.ti e;exact ⟨t,a,b.mono hn hs⟩}
def XC (k:Q8):UD:=
 if k.st=2 then k.work.role
 else if k.st=5∧k.parks=false∧k.ans.e=0 then
  (if k.ask.op=0 then .ga k.ans.slot k.ans.gen else if k.ask.op=1∨k.ask.op=2 then .si k.ask.slot k.ask.gen else if k.ask.op=3∨k.ask.op=4 then .de k.ask.slot k.ask.gen k.ans.stream.toNat (decide (k.ask.op=3)) else .no)
 else .no
theorem Jk {k:Q8} (h:k.st≠2) (h':k.st≠5):XC k=.no:=by unfold XC;rw [if_neg h,if_neg Lb]
theorem X0 {k:Q8} (h:k.st=5) (h':k.parks=true∨k.ans.e≠0∨5≤k.ask.op∨k.ask.op<0):XC k=.no:=by
 unfold XC
 rw [if_neg Lb]
 split
 · rename_i a
   rcases h' with b|b|b|b
   · rw [b] at a;exact absurd a.2.1 Lc
   · exact absurd a.2.2 b
   · rw [if_neg Lb,if_neg Lb,if_neg Lb]
   · rw [if_neg Lb,if_neg Lb,if_neg Lb]
 · rfl
theorem ZJ {k:Q8} (h:k.st=2):XC k=k.work.role:=if_pos h
theorem Ef {k:Q8} (h:k.st=5) (h1:k.parks=false) (h2:k.ans.e=0):XC k=(if k.ask.op=0 then .ga k.ans.slot k.ans.gen else if k.ask.op=1∨k.ask.op=2 then .si k.ask.slot k.ask.gen else if k.ask.op=3∨k.ask.op=4 then .de k.ask.slot k.ask.gen k.ans.stream.toNat (decide (k.ask.op=3)) else .no):=by
 unfold XC;rw [if_neg Lb,if_pos ⟨h,h1,h2⟩]
def runs (k:Q8):Int:=if k.st=0 then 0 else 1
def Zw (L:List Q8):Int:=(L.map runs).sum
theorem VZ (k:Q8):0≤runs k∧runs k≤1:=by unfold runs;split<;>omega
theorem VB:∀L:List Q8,Zw L≤L.length
 |[]=>by simp [Zw]
 |k::L=>by
  have:=VB L;have:=VZ k
  unfold Zw at*;simp only [List.map_cons,List.sum_cons,List.length_cons];omega
theorem Z8:∀L:List Q8,0≤Zw L
 |[]=>by simp [Zw]
 |k::L=>by
  have:=Z8 L;have:=VZ k
  unfold Zw at*;simp only [List.map_cons,List.sum_cons];omega
theorem YP (x:Q8):∀(L:List Q8) (w:Nat),w<L.length→Zw (L.set w x)=Zw L - runs (L.getD w Ju)+runs x
 |[],w,h=>by simp at h
 |k::L,0,_=>by unfold Zw;simp;omega
 |k::L,w+1,h=>by
  have:=YP x L w (by simpa using h)
  unfold Zw at*;simp only [List.set_cons_succ,List.map_cons,List.sum_cons,List.getD_cons_succ] at*;omega
structure MInv (n:Int) (m:Qa):Prop where
 mem:Qj m.c n m.M
 gd:0≤m.good∧m.good≤n
 bd:0≤m.bad∧m.bad≤n
 ah:m.ahead.length≤1000
 nw:0≤m.now∧m.now≤1099511627776
 ev:(m.evs.length:Int)+Zw m.ws≤2007
 wl:(m.ws.length:Int)=m.c.wo
 wk:∀k:Nat,(k:Int)<m.c.wo→(m.wk k).live m.c k n (Jz m.M)
def V3 (m m1:Qa):Prop:=(m.good≤m1.good∧m1.good≤m.good+1)∧(m.bad≤m1.bad∧m1.bad≤m.bad+1)∧m1.ahead.length≤m.ahead.length
theorem V3.refl (m:Qa):V3 m m:=⟨Lb,Lb,Nat.le_refl _⟩
theorem V3.next (m:Qa):V3 m m.Qr.1:=by
 unfold V3 Qa.Qr
 refine ⟨?_, ?_,Lc⟩
 · simp only;split<;>omega
 · simp only;split<;>omega
structure VW (n:Int) (m:Qa) (w:Nat) (m':Qa) (k':Q8):Prop where
 s0:(m.wk w).st≠0
 wn:V3 m m'
 rn:(m'.evs.length:Int)+runs k'≤m.evs.length+1
 c:m'.c=m.c
 ws:m'.ws=m.ws.set w k'
 at_:m'.at_=m.at_
 en:m'.entries=m.entries
 now:m'.now=m.now
 st:StM m.c (n+1) m.M m'.M
 lv:k'.live m.c w (n+1) (Jz m'.M)
 ask:k'.ask=(m.wk w).ask
def Told (n:Int) (m:Qa) (w:Nat) (m':Qa) (k':Q8):Prop:=Q9k m.c n m.M→
 (m'.evs=m.evs∧Tr m.c w m.M m'.M (XC (m.wk w)) (XC k'))∨
 ((m.wk w).st=5∧(m.wk w).parks=false∧k'.st=0∧XC k'=.no∧(∀r,Tr m.c w m.M m'.M r r)∧m'.evs=m.evs++[{(m.wk w).ans with ended:=true,who:=w,at_:=m.at_,ask:=(m.wk w).ask}])
theorem KM {w:Nat} {shut:Prop} (hw:(w:Int)<c.wo) (h0:0≤n):(Qz w).live c w n shut:=
 ⟨by simp [Qz],by simp [Qz],rfl,hw,by simp [Qz];omega,by simp [Qz],by simp [Qz],by simp [Qz],by simp [Qz],by simp [Qz],by simp [Qz],by simp [Qz],by simp [Qz]⟩
theorem XI {w:Nat} {shut:Prop} {k:Q8} (h0:0≤n) (hw:(w:Int)<c.wo) (ho:0≤k.ask.op∧k.ask.op<8) (hg:0≤k.grant∧k.grant≤16) (hh:k.half=false) {x:EvV}
 (ha:x.e=0→(k.ask.op=0→0≤x.slot∧x.slot<c.sl)∧(k.ask.op=3∨k.ask.op=4→0≤x.stream∧x.stream<8)):(k.end_ w x).live c w n shut:=
 ⟨by simp [Q8.end_,Q8.QT],by simp [Q8.end_,Q8.QT],fun _=>ho,by simp [Q8.end_,Q8.QT],by simp [Q8.end_,Q8.QT],by simp [Q8.end_,Q8.QT],hg,fun _ _=>hh,
   by simp [Q8.end_,Q8.QT],by simp [Q8.end_,Q8.QT],by simp [Q8.end_,Q8.QT],by simp [Q8.end_,Q8.QT],fun _=>⟨_,rfl,KM hw h0⟩,fun _ _=>ha⟩
theorem Kj {w:Nat}:(Jc w).live c w:=⟨by simp [Jc],by simp [Jc],rfl,by simp [Jc],by simp [Jc],by simp [Jc],by simp [Jc],by simp [Jc]⟩
variable {m:Qa} {w:Nat}
theorem Zp (L:List Q8) (w:Nat) (x:Q8) (k:Nat):(L.set w x).getD k Ju=if k=w∧w<L.length then x else L.getD k Ju:=by
 rw [List.getD_eq_getElem?_getD,List.getD_eq_getElem?_getD,List.getElem?_set]
 by_cases h:w=k
 · subst h
   by_cases h2:w<L.length
   · simp [h2]
   · simp [h2]
 · rw [if_neg h,if_neg (fun e=>h e.1.symm)]
theorem VW.inv (h:MInv n m) (hw:(w:Int)<m.c.wo) {m':Qa} {k':Q8} (s:VW n m w m' k'):MInv (n+1) m'∧m'.wk w=k'∧∀k,k≠w→m'.wk k=m.wk k:=by
 have W:∀k,m'.wk k=if k=w then k' else m.wk k:=by
  intro k
  have:=h.wl
  unfold Qa.wk
  rw [s.ws,Zp]
  by_cases hk:k=w
  · rw [if_pos ⟨hk,Lb⟩,if_pos hk]
  · rw [if_neg (fun e=>hk e.1),if_neg hk]
 have r0:runs (m.wk w)=1:=by unfold runs;rw [if_neg s.s0]
 have wn:=s.wn
 have hwl:=h.wl
 have e2:=h.gd;have e3:=h.bd;have e4:=h.ah;have e5:=h.ev
 refine ⟨⟨by rw [s.c];exact s.st.ok,by have:=wn.1;omega,by have:=wn.2.1;omega,Nat.le_trans wn.2.2 e4,by rw [s.now];exact h.nw, ?_,by rw [s.ws,s.c,List.length_set];exact h.wl,fun k hk=> ?_⟩,by rw [W,if_pos rfl],fun k hk=>by rw [W,if_neg hk]⟩
 · have:=s.rn
   rw [s.ws,YP _ _ _ Lb]
   unfold Qa.wk at r0;omega
 rw [s.c] at hk ⊢
 rw [W]
 split
 · rename_i e;rw [e];exact s.lv
 · exact (h.wk k hk).mono Lb s.st.sh
theorem Q72 (h:MInv n m) (hn:n≤1000000000) (hw:(w:Int)<m.c.wo) {t:Qd} (hs:(m.wk w).st=2) (hk:(m.wk w).work=.get t):∃k',VW n m w (Xi m w t) k'∧Told n m w (Xi m w t) k':=by
 have L:=h.wk w hw
 have hl:=L.wk hs
 rw [hk] at hl
 obtain ⟨ho,hl⟩:=hl
 have hn0:=h.mem.n0
 have hh:=L.half Lb Lb
 obtain ⟨m1,good,e1⟩:∃m1 good,(if t.st=9 then m.Qr else (m,false))=(m1,good):=⟨_,_,rfl⟩
 have em:V3 m m1∧m1.c=m.c∧m1.ws=m.ws∧m1.evs=m.evs∧m1.at_=m.at_∧m1.entries=m.entries∧m1.now=m.now:=by
  split at e1
  · have e2:m1=m.Qr.1:=(congrArg Prod.fst e1).symm
    rw [e2];exact ⟨V3.next m,rfl,rfl,rfl,rfl,rfl,rfl⟩
  · have e2:m1=m:=(congrArg Prod.fst e1).symm
    rw [e2];exact ⟨V3.refl m,rfl,rfl,rfl,rfl,rfl,rfl⟩
 obtain ⟨m1wn,m1c,m1w,m1e,m1a,m1n,m1t⟩:=em
 obtain ⟨x,hx⟩:∃x,Qg m.c t m.M good=x:=⟨_,rfl⟩
 obtain ⟨t',M'⟩:=x
 have hS:=Yn m.c w t m.M good hl
 rw [hx] at hS
 simp only at hS
 obtain ⟨st,tr,hlv,hend⟩:=Q89 h.mem hn hl hS
 have R0:XC (m.wk w)=Zj t:=by rw [ZJ hs,hk];rfl
 unfold Xi
 simp only [e1,hx]
 have G:∀k',k'.live m.c w (n+1) (Jz M')→k'.ask=(m.wk w).ask→(Q9k m.c n m.M→Tr m.c w m.M M' (Zj t) (XC k'))→∃k'',VW n m w ({m1 with M:=M'}.setW w k') k''∧Told n m w ({m1 with M:=M'}.setW w k') k'':=by
  intro k' a b d
  refine ⟨k',⟨Lb,m1wn,by have:=VZ k';rw [show (Qa.setW {m1 with M:=M'} w k').evs=m1.evs from rfl,m1e];omega,m1c,by simp only [Qa.setW,m1w],m1a,m1n,m1t,st,a,b⟩,fun L=>.inl ⟨m1e,by rw [R0];exact d L⟩⟩
 split
 · rename_i h15
   obtain ⟨he1,he2⟩:=hend h15
   split
   · rename_i h3
     have r':Zj t'=.no:=Qt (.inr (.inr (.inr (.inr (.inr ⟨h15,Lb⟩)))))
     rw [r'] at tr
     split
     · refine G _ ⟨Lc,Lc,fun _=>by simp only [ho];omega,fun _=>ho,Lc,Lc,L.gr,fun _ _=>hh,Lc,Lc,fun _=>⟨_,rfl, ?_⟩,Lc,Lc,Lc⟩ rfl ?_
       · exact ⟨⟨⟨by simp [XR],by simp [XR]⟩,by simp [XR],by simp [XR],by simp [XR]⟩,by simp [XR],by simp [XR],hw,by simp [XR]⟩
       · rw [Jk Lc Lc];exact tr
     · refine G _ ⟨Lc,Lc,fun _=>by simp only [ho];omega,fun _=>ho,Lc,Lc,L.gr,fun _ _=>hh,Lc,fun _=>⟨_,rfl,Di h.mem.cf Lb⟩,Lc,Lc,Lc,Lc⟩ rfl ?_
       rw [Jk Lc Lc];exact tr
   · rename_i h3
     refine G _ (XI (k:={(m.wk w) with work:=.get t'}) Lb hw (by simp only [ho];omega) L.gr hh ?_) rfl ?_
     · intro e
       by_cases h0:t'.e=0
       · rw [if_pos h0];exact ⟨fun _=>he1 h0,by simp only [ho];omega⟩
       · rw [if_neg h0] at e;exact absurd e h0
     · by_cases h0:t'.e=0
       · rw [if_pos h0,Ef rfl rfl rfl]
         simp only [Q8.end_,Q8.QT,ho,if_true]
         rw [Q0p ⟨h15,h0⟩] at tr
         exact tr
       · rw [if_neg h0,X0 rfl (.inr (.inl h0))]
         rw [Qt (t:=t') (.inr (.inr (.inr (.inr (.inr ⟨h15,h0⟩)))))] at tr
         exact tr
 · rename_i h15
   refine G _ ⟨by simp only [hs];omega,by simp only [hs];omega,fun _=>by simp only [ho];omega,by simp only [hs];omega,by simp only [hs];omega,by simp only [hs];omega,L.gr,fun _ _=>hh,fun _=>⟨ho,hlv h15⟩,by simp only [hs];omega,by simp only [hs];omega,by simp only [hs];omega,by simp only [hs];omega,by simp only [hs];omega⟩ rfl ?_
   rw [ZJ (by exact hs)];exact tr
end
end Go.Proofs.YtgjklfmnmljilaaGreatDoor
