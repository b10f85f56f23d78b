/- A part of the proof: TqF to TqF. -/
import Derived.Test.YtgjklfmnmljilaaGreatDoorZT35
namespace Go.Proofs.YtgjklfmnmljilaaGreatDoor
set_option linter.unusedVariables false
set_option linter.unusedSimpArgs false
set_option linter.unusedSectionVars false
set_option linter.unnecessarySimpa false
set_option maxRecDepth 100000
set_option maxHeartbeats 8000000
section
variable {c:Q0} {w:Nat} {n:Int} {M M':List Int}
def XT (st:Int):Int:=if st=3 then 4 else if st=5 then 5 else 3
inductive TdS (c:Q0) (M:List Int):Qh→Qh→List Int→Prop
 |epoch {t}:t.st=0→TdS c M t {t with epoch:=Q7 M 2,st:=1} M
 |pin {t}:t.st=1→TdS c M t {t with st:=2} (Qz M (3+t.w) (t.epoch+1))
 |closed {t}:t.st=2→TdS c M t ({t with closed:=Q7 M 0}.search 3 4 (Q7 M 0)) M
 |hit3 {t f}:t.st=3→t.look=some f→f.at_<c.sl→Jy (Q7 M (c.slot f.at_)) f.kind f.own=true→
   TdS c M t {t with look:=some {f with word:=Q7 M (c.slot f.at_),found:=true},i:=f.at_,word:=Q7 M (c.slot f.at_),ret:=some (Ji c f.at_ (Q7 M (c.slot f.at_))),st:=4} M
 |miss {t f}:t.st=3∨t.st=5∨t.st=9→t.look=some f→f.at_+1<c.sl→Jy (Q7 M (c.slot f.at_)) f.kind f.own=false→TdS c M t {t with look:=some {f with at_:=f.at_+1}} M
 |last3 {t f}:t.st=3→t.look=some f→f.at_+1=c.sl→Jy (Q7 M (c.slot f.at_)) f.kind f.own=false→TdS c M t (t.search 5 5 t.w) M
 |goes {t r r' M'}:t.st=4→t.ret=some r→RtS M r r' M'→r'.done=false→TdS c M t {t with ret:=some r'} M'
 |went {t r r' f M'}:t.st=4→t.ret=some r→t.look=some f→RtS M r r' M'→r'.done=true→TdS c M t {t with ret:=some r',look:=some f.again,st:=3} M'
 |hit5 {t f} (o:Int):t.st=5→t.look=some f→f.at_<c.sl→Jy (Q7 M (c.slot f.at_)) f.kind f.own=true→0≤o→o<c.wo→o≠t.w→
   TdS c M t {t with look:=some {f with word:=Q7 M (c.slot f.at_),found:=true},i:=f.at_,word:=Q7 M (c.slot f.at_),other:=o,st:=6} M
 |lone5 {t f} (o:Int):t.st=5→t.look=some f→f.at_<c.sl→Jy (Q7 M (c.slot f.at_)) f.kind f.own=true→
   TdS c M t {t with look:=some {f with word:=Q7 M (c.slot f.at_),found:=true},i:=f.at_,word:=Q7 M (c.slot f.at_),other:=o,st:=7} M
 |last5 {t f f'}:t.st=5→t.look=some f→(f.at_<c.sl→f.at_+1=c.sl∧Jy (Q7 M (c.slot f.at_)) f.kind f.own=false)→TdS c M t {t with look:=some f',st:=if t.closed=0 then 8 else 15} M
 |old6 {t f}:t.st=6→t.look=some f→TdS c M t {t with look:=some f.go,st:=5} M
 |next6 {t} (o:Int):t.st=6→t.other<o→o<c.wo→o≠t.w→TdS c M t {t with other:=o} M
 |all6 {t} (o:Int):t.st=6→TdS c M t {t with other:=o,st:=7} M
 |clear {t f} (s u:Q8):t.st=7→t.look=some f→dec t.word=some s→Qj s 12 t.w 0=some u→Qv M (Q5 c t.i) t.word=true→TdS c M t {t with look:=some f.go,st:=5} (QL M (Q5 c t.i) t.word u.enc)
 |unclear {t f}:t.st=7→t.look=some f→TdS c M t {t with look:=some f.go,st:=5} M
 |none8 {t}:t.st=8→mQ M=[]→TdS c M t {t with queue:=mQ M,st:=15} M
 |head8 {t}:t.st=8→mQ M≠[]→TdS c M t ({t with queue:=mQ M,head:=Zc (mQ M)}.search 9 3 t.w) M
 |hit9 {t f}:t.st=9→t.look=some f→f.at_<c.sl→Jy (Q7 M (c.slot f.at_)) f.kind f.own=true→
   TdS c M t {t with look:=some {f with word:=Q7 M (c.slot f.at_),found:=true},i:=f.at_,word:=Q7 M (c.slot f.at_),st:=10} M
 |last9 {t f}:t.st=9→t.look=some f→f.at_+1=c.sl→Jy (Q7 M (c.slot f.at_)) f.kind f.own=false→TdS c M t {t with look:=some {f with at_:=f.at_+1},st:=15} M
 |keep {t} (s u:Q8):t.st=10→dec t.word=some s→Qj s (if s.st=2 then 5 else 7) t.head 0=some u→Qv M (Q5 c t.i) t.word=true→TdS c M t {t with st:=11} (QL M (Q5 c t.i) t.word u.enc)
 |unkept {t f}:t.st=10→t.look=some f→(∀s u,dec t.word=some s→Qj s (if s.st=2 then 5 else 7) t.head 0=some u→Qv M (Q5 c t.i) t.word=false)→TdS c M t {t with look:=some f.again,st:=9} M
 |pop {t}:t.st=11→mQ M=t.queue→TdS c M t {t with st:=12} (M.set 1 (wd t.queue.tail:Int))
 |unpopped {t}:t.st=11→mQ M≠t.queue→TdS c M t {t with st:=13} M
 |grant {t}:t.st=12→TdS c M t {t with st:=8} (Qz M (3+c.wo+t.head) (t.i+1))
 |kept {t} (s:Q8):t.st=13→dec (Q7 M (Q5 c t.i))=some s→s.st=4∨s.st=5→TdS c M t {t with word:=Q7 M (Q5 c t.i),st:=14} M
 |lost {t}:t.st=13→(∀s,dec (Q7 M (Q5 c t.i))=some s→¬(s.st=4∨s.st=5))→TdS c M t {t with word:=Q7 M (Q5 c t.i),st:=8} M
 |unkeep {t} (s u:Q8):t.st=14→dec t.word=some s→Qj s (if s.st=4 then 6 else 8) t.w 0=some u→Qv M (Q5 c t.i) t.word=true→TdS c M t {t with st:=2} (QL M (Q5 c t.i) t.word u.enc)
 |again {t}:t.st=14→(∀s u,dec t.word=some s→Qj s (if s.st=4 then 6 else 8) t.w 0=some u→Qv M (Q5 c t.i) t.word=false)→TdS c M t {t with st:=13} M
 |unpin {t}:t.st=15→TdS c M t {t with st:=16} (Qz M (3+t.w) 0)
 |done {t}:t.st=16→Q7 M 2=t.epoch→TdS c M t {t with st:=17} M
 |redo {t}:t.st=16→Q7 M 2≠t.epoch→TdS c M t {t with st:=0} M
theorem VW {x:Int} {s:Q8} (h:dec x=some s):isW x=s.st:=by unfold isW;rw [h]
theorem Yk (c:Q0) (t:Qh) (M:List Int) (d:Nat) (own:Int):
 (∃s u,dec t.word=some s∧Qj s d own 0=some u∧Qv M (Q5 c t.i) t.word=true∧Xi c t M d own=(QL M (Q5 c t.i) t.word u.enc,true))∨
 ((∀s u,dec t.word=some s→Qj s d own 0=some u→Qv M (Q5 c t.i) t.word=false)∧Xi c t M d own=(M,false)):=by
 unfold Xi
 cases ha:J6 t.word d own 0 with
 |none=>right;exact ⟨fun s u hs hu=>(Zd ha hs hu).elim,rfl⟩
 |some x=>
  obtain ⟨s,hs,hu,he⟩:=Jz ha
  obtain ⟨u,n⟩:=x
  simp only at hu he ⊢
  subst he
  cases hc:Qv M (Q5 c t.i) t.word with
  |true=>left;exact ⟨s,u,hs,hu,rfl,by simp only [if_true]⟩
  |false=>right;exact ⟨fun _ _ _ _=>rfl,by simp only [Bool.false_eq_true,if_false]⟩
structure Qh.live (c:Q0) (w:Nat) (n:Int) (shut:Prop) (t:Qh):Prop where
 s0:0≤t.st
 s1:t.st≤16
 tw:t.w=w
 w1:(w:Int)<c.wo
 ep:0≤t.epoch∧t.epoch≤n
 cl:t.closed=2→shut
 lk:t.st=3∨t.st=5∨t.st=9→∃f,t.look=some f∧f.found=false∧0≤f.at_∧f.at_≤c.sl∧(t.st≠5→f.at_<c.sl)∧f.kind=XT t.st∧(t.st=3→f.own=t.closed)
 fd:t.st=4∨t.st=6∨t.st=7∨t.st=10→∃f s,t.look=some f∧f.found=true∧f.at_=t.i∧Q8.right s∧t.word=s.enc∧JZ s f.kind f.own=true∧f.kind=(if t.st=4 then 4 else if t.st=10 then 3 else 5)∧(t.st=4→f.own=t.closed)
 i:t.st=4∨t.st=6∨t.st=7∨(10≤t.st∧t.st≤14)→0≤t.i∧t.i<c.sl
 rt:t.st=4→∃r,t.ret=some r∧YG c r t.i fun s=>(s.st=3→shut)∧(s.st=2∨s.st=3)
 ot:t.st=6→0≤t.other∧t.other<c.wo
 hd:9≤t.st∧t.st≤12→(0≤t.head∧t.head<c.wo)∧Ln t.queue∧t.queue≠[]∧t.head=Zc t.queue∧∀x∈t.queue,x<c.wo
 wd:t.st=14→∃s,Q8.right s∧t.word=s.enc∧(s.st=4∨s.st=5)
theorem Ke (c:Q0) (t:Qh):(∃o,t.other<o∧o<c.wo∧o≠t.w∧t.another c=({t with other:=o},true))∨(∃o,t.another c=({t with other:=o},false)):=by
 unfold Qh.another
 simp only
 generalize ho:(if t.other+1=t.w then t.other+2 else t.other+1)=o
 by_cases h:o<c.wo
 · left;refine ⟨o,by split at ho<;>omega,h,by split at ho<;>omega,by rw [decide_eq_true h]⟩
 · right;exact ⟨o,by rw [decide_eq_false h]⟩
theorem Ua (c:Q0) (w:Nat) (n:Int) (shut:Prop) (t:Qh) (M:List Int) (h:t.live c w n shut):TdS c M t (Qk c t M).1 (Qk c t M).2:=by
 have hs:t.st=0∨t.st=1∨t.st=2∨t.st=3∨t.st=4∨t.st=5∨t.st=6∨t.st=7∨t.st=8∨t.st=9∨t.st=10∨t.st=11∨t.st=12∨t.st=13∨t.st=14∨t.st=15∨t.st=16:=by have:=h.s0;have:=h.s1;omega
 obtain ⟨-, -, -, -, -, -,hlk,hfd,hi,hrt,hot,hhd,hwd⟩:=h
 have L:∀f,t.look=some f→t.lk=f:=fun f e=>by unfold Qh.lk;rw [e];rfl
 rcases hs with hs|hs|hs|hs|hs|hs|hs|hs|hs|hs|hs|hs|hs|hs|hs|hs|hs
 · simp [Qk,hs];exact .epoch hs
 · simp [Qk,hs];exact .pin hs
 · simp [Qk,hs];have:=TdS.closed (c:=c) (M:=M) hs;rwa [hs] at this
 · obtain ⟨f,hf,hff,h0,h1,h2,hk, -⟩:=hlk (by omega)
   rcases X9 c f M hff with ⟨ha,hw,e⟩|⟨ha,hw,e⟩|⟨ha,e⟩
   · simp [Qk,hs,L f hf,e];exact .hit3 hs hf ha hw
   · by_cases hl:c.sl≤f.at_+1
     · simp [Qk,hs,L f hf,e,hl,hff];exact .last3 hs hf (by omega) hw
     · simp [Qk,hs,L f hf,e,hl,hff];have:=TdS.miss (.inl hs) hf (by omega) hw;simpa [hff,hs] using this
   · have:=h2 (by omega);omega
 · obtain ⟨f,s,hf, -⟩:=hfd (by omega)
   obtain ⟨r,hr,hl⟩:=hrt hs
   have hS:=YN r M hl.nd
   have er:t.rt=r:=by unfold Qh.rt;rw [hr];rfl
   simp [Qk,hs,er,L f hf]
   generalize Qn r M=x at*
   obtain ⟨r',M'⟩:=x
   simp only at hS ⊢
   cases hd:r'.done with
   |false=>simp only [Bool.false_eq_true,if_false];have:=TdS.goes (c:=c) hs hr hS hd;rwa [hs] at this
   |true=>simp only [if_true];exact .went hs hr hf hS hd
 · obtain ⟨f,hf,hff,h0,h1,h2,hk, -⟩:=hlk (by omega)
   rcases X9 c f M hff with ⟨ha,hw,e⟩|⟨ha,hw,e⟩|⟨ha,e⟩
   · rcases Ke c {t with look:=some {f with word:=Q7 M (c.slot f.at_),found:=true},i:=f.at_,word:=Q7 M (c.slot f.at_),other:= -1,st:=6} with ⟨o,o1,o2,o3,oe⟩|⟨o,oe⟩
     · simp [Qk,hs,L f hf,e,oe];exact .hit5 o hs hf ha hw (by simp only at o1;omega) o2 o3
     · simp [Qk,hs,L f hf,e,oe];exact .lone5 o hs hf ha hw
   · by_cases hl:c.sl≤f.at_+1
     · have:=TdS.last5 (f':={f with at_:=f.at_+1}) hs hf (fun _=>⟨by omega,hw⟩)
       by_cases hc:t.closed=0
       · simp [Qk,hs,L f hf,e,hl,hff,hc];simpa [hc,hff] using this
       · simp [Qk,hs,L f hf,e,hl,hff,hc];simpa [hc,hff] using this
     · simp [Qk,hs,L f hf,e,hl,hff];have:=TdS.miss (.inr (.inl hs)) hf (by omega) hw;simpa [hff,hs] using this
   · have:=TdS.last5 (c:=c) (M:=M) (f':=f) hs hf (fun a=>absurd a (by omega))
     by_cases hc:t.closed=0
     · simp [Qk,hs,L f hf,e,hff,hc];simpa [hc,hff] using this
     · simp [Qk,hs,L f hf,e,hff,hc];simpa [hc,hff] using this
 · obtain ⟨f,s,hf, -⟩:=hfd (by omega)
   by_cases hc:1≤Q7 M (3+t.other)∧Q7 M (3+t.other) - 1≤epW t.word
   · simp [Qk,hs,L f hf,hc];exact .old6 hs hf
   · rcases Ke c t with ⟨o,o1,o2,o3,oe⟩|⟨o,oe⟩
     · simp [Qk,hs,L f hf,hc,oe];have:=TdS.next6 (M:=M) o hs o1 o2 o3;simpa [hs] using this
     · simp [Qk,hs,L f hf,hc,oe];exact .all6 o hs
 · obtain ⟨f,s,hf, -⟩:=hfd (by omega)
   rcases Yk c t M 12 t.w with ⟨s,u,h1,h2,h3,h4⟩|⟨h1,h2⟩
   · simp [Qk,hs,L f hf,h4];exact .clear s u hs hf h1 h2 h3
   · simp [Qk,hs,L f hf,h2];exact .unclear hs hf
 · by_cases hc:mQ M=[]
   · simp [Qk,hs,hc];have:=TdS.none8 (c:=c) hs hc;rwa [hc] at this
   · simp [Qk,hs,hc];exact .head8 hs hc
 · obtain ⟨f,hf,hff,h0,h1,h2,hk, -⟩:=hlk (by omega)
   rcases X9 c f M hff with ⟨ha,hw,e⟩|⟨ha,hw,e⟩|⟨ha,e⟩
   · simp [Qk,hs,L f hf,e];exact .hit9 hs hf ha hw
   · by_cases hl:c.sl≤f.at_+1
     · simp [Qk,hs,L f hf,e,hl,hff];have:=TdS.last9 hs hf (by omega) hw;simpa [hff] using this
     · simp [Qk,hs,L f hf,e,hl,hff];have:=TdS.miss (.inr (.inr hs)) hf (by omega) hw;simpa [hff,hs] using this
   · have:=h2 (by omega);omega
 · obtain ⟨f,s,hf, -, -,hsr,hw, -⟩:=hfd (by omega)
   have hd:dec t.word=some s:=by rw [hw];exact QO hsr
   rcases Yk c t M (if isW t.word=2 then 5 else 7) t.head with ⟨s',u,h1,h2,h3,h4⟩|⟨h1,h2⟩
   · rw [hd] at h1;cases h1
     simp [Qk,hs,L f hf,h4];rw [VW hd] at h2;exact .keep s u hs hd h2 h3
   · simp [Qk,hs,L f hf,h2];refine .unkept hs hf fun s' u a b=>h1 s' u a (by rw [VW a];exact b)
 · by_cases hc:mQ M=t.queue
   · simp [Qk,hs,hc];exact .pop hs hc
   · simp [Qk,hs,hc];exact .unpopped hs hc
 · simp [Qk,hs];exact .grant hs
 · cases hd:dec (Q7 M (Q5 c t.i)) with
   |none=>
    have:¬(isW (Q7 M (Q5 c t.i))=4∨isW (Q7 M (Q5 c t.i))=5):=by unfold isW;rw [hd];simp
    simp [Qk,hs,this];exact .lost hs fun s e=>by rw [hd] at e;cases e
   |some s=>
    by_cases hc:s.st=4∨s.st=5
    · have:isW (Q7 M (Q5 c t.i))=4∨isW (Q7 M (Q5 c t.i))=5:=by rw [VW hd];exact hc
      simp [Qk,hs,this];exact .kept s hs hd hc
    · have:¬(isW (Q7 M (Q5 c t.i))=4∨isW (Q7 M (Q5 c t.i))=5):=by rw [VW hd];exact hc
      simp [Qk,hs,this];exact .lost hs fun s' e=>by rw [hd] at e;cases e;exact hc
 · obtain ⟨s,hsr,hw, -⟩:=hwd hs
   have hd:dec t.word=some s:=by rw [hw];exact QO hsr
   rcases Yk c t M (if isW t.word=4 then 6 else 8) t.w with ⟨s',u,h1,h2,h3,h4⟩|⟨h1,h2⟩
   · rw [hd] at h1;cases h1
     simp [Qk,hs,h4];rw [VW hd] at h2;exact .unkeep s u hs hd h2 h3
   · simp [Qk,hs,h2];refine .again hs fun s' u a b=>h1 s' u a (by rw [VW a];exact b)
 · simp [Qk,hs];exact .unpin hs
 · by_cases hc:Q7 M 2=t.epoch
   · simp [Qk,hs,hc];exact .done hs hc
   · simp [Qk,hs,hc];exact .redo hs hc
theorem Q8q (h:Qm c n M) (hn:n≤1000000000) {t t':Qh} (hl:t.live c w n (Jr M)) (hS:TdS c M t t' M'):
 StM c (n+1) M M'∧(∀r,Tr c w M M' r r)∧(t'.st≠17→t'.live c w (n+1) (Jr M')):=by
 have Q:∀r,Tr c w M M r r:=fun r=>.quiet rfl rfl
 obtain ⟨s0,s1,tw,w1,ep,hcl,hlk,hfd,hi,hrt,hot,hhd,hwd⟩:=hl
 have E:∀f g:Qi,t.look=some f→t.look=some g→f=g:=fun f g a b=>by rw [a] at b;exact Option.some.inj b
 have wo:=h.cf.1;have sl:=h.cf.2.1;have len:=h.len;have hep:=h.ep
 have ep':0≤t.epoch∧t.epoch≤n+1:=by omega
 have I:∀x:Int,0≤x→x<3+2*c.wo→∀v,Qz M x v=M.set x.toNat v:=fun x a b v=>JG a (by unfold Q0.cells at*;omega)
 cases hS with
 |epoch h1=>exact ⟨h.stays,Q,fun _=>⟨by simp,by simp,tw,w1,by simp only;omega,hcl,by simp,by simp,by simp,by simp,by simp,by simp,by simp⟩⟩
 |pin h1=>
  rw [I _ (by omega) (by omega)]
  have st:=h.Vr (j:=3+t.w) (v:=t.epoch+1) (by omega) (by omega) (by omega) (by omega) (by omega) (by omega) (by omega)
  exact ⟨st,trL h (by omega) (by omega),fun _=>⟨by simp,by simp,tw,w1,ep',fun e=>st.sh (hcl e),by simp,by simp,by simp,by simp,by simp,by simp,by simp⟩⟩
 |closed h1=>
  refine ⟨h.stays,Q,fun _=>⟨by simp [Qh.search],by simp [Qh.search],tw,w1,ep',fun e=>e,fun _=>⟨_,rfl,rfl,by simp [QE],by simp [QE];omega,by simp [QE];omega,rfl,fun _=>rfl⟩,by simp [Qh.search],by simp [Qh.search],by simp [Qh.search],by simp [Qh.search],by simp [Qh.search],by simp [Qh.search]⟩⟩
 |@hit3 f h1 h2 h3 h4=>
  obtain ⟨f',e1,e2,e3,e4,e5,e6,e7⟩:=hlk (by omega)
  cases E _ _ e1 h2
  obtain ⟨a1,a2,a3⟩:=h.YB e3 h3 h4
  refine ⟨h.stays,Q,fun _=>⟨by simp,by simp,tw,w1,ep',hcl,by simp,fun _=>⟨_,SL c M f.at_,rfl,rfl,rfl,a1,a2,a3,by simp [e6,h1,XT],fun _=>e7 h1⟩,fun _=>⟨e3,h3⟩,fun _=>⟨_,rfl,Yz h ⟨e3,h3⟩ a1 a2 ⟨fun h3s=> ?_, ?_⟩⟩,by simp,by simp,by simp⟩⟩
  · rw [e6,h1,e7 h1] at a3
    simp [XT,JZ,isV,h3s] at a3
    exact hcl a3
  · rw [e6,h1] at a3
    by_cases hi:(SL c M f.at_).st=2
    · exact .inl hi
    · simp [XT,JZ,isV,hi] at a3
      exact .inr a3.1
 |@miss f h1 h2 h3 h4=>
  obtain ⟨f',e1,e2,e3,e4,e5,e6,e7⟩:=hlk h1
  cases E _ _ e1 h2
  exact ⟨h.stays,Q,fun _=>⟨s0,s1,tw,w1,ep',hcl,fun _=>⟨_,rfl,e2,by simp only;omega,by simp only;omega,fun _=>h3,e6,e7⟩,by simp only;omega,by simp only;omega,by simp only;omega,by simp only;omega,fun a=>hhd a,by simp only;omega⟩⟩
 |@last3 f h1 h2 h3 h4=>
  exact ⟨h.stays,Q,fun _=>⟨by simp [Qh.search],by simp [Qh.search],tw,w1,ep',hcl,fun _=>⟨_,rfl,rfl,by simp [QE],by simp [QE];omega,by simp [QE];omega,rfl,by simp [Qh.search]⟩,by simp [Qh.search],by simp [Qh.search],by simp [Qh.search],by simp [Qh.search],by simp [Qh.search],by simp [Qh.search]⟩⟩
 |@goes r r' _ h1 h2 h3 h4=>
  obtain ⟨r0,f1,f2⟩:=hrt h1
  rw [h2] at f1;cases f1
  have hi':=hi (by omega)
  obtain ⟨st,b1,b2⟩:=KO h (by omega) f2 hi' h3
  refine ⟨st,fun r=> ?_,fun _=>⟨s0,s1,tw,w1,ep',fun e=>st.sh (hcl e),by simp only;omega,fun a=>hfd a,fun _=>hi',fun _=>⟨_,rfl, ?_⟩,by simp only;omega,fun a=>hhd a,by simp only;omega⟩⟩
  · rcases b2 with ⟨e1,e2,e3⟩|⟨e0,e1, -,e2,e3,e4⟩
    · exact .quiet e2 e3
    · by_cases h3s:(SL c M t.i).st=3
      · exact .force t.i (e2.1 h3s) e3 e4
      · refine .quiet ?_ e4
        have:LM c M t.i=none:=by unfold LM lv;rw [if_neg h3s]
        rw [e3,←this];exact Et (LM c M) t.i
  · obtain ⟨⟨s,c1,c2,c3⟩,d1,d2,d3,d4⟩:=b1 h4
    exact ⟨⟨s,c1,c2,fun a=>⟨fun b=>st.sh ((c3 a).1 b),(c3 a).2⟩⟩,d1,d2,d3,d4⟩
 |@went r r' f _ h1 h2 h3 h4 h5=>
  obtain ⟨r0,f1,f2⟩:=hrt h1
  rw [h2] at f1;cases f1
  obtain ⟨f',s,g1,g2,g3,g4,g5,g6,g7,g8⟩:=hfd (by omega)
  cases E _ _ g1 h3
  have hi':=hi (by omega)
  obtain ⟨st,b1,b2⟩:=KO h (by omega) f2 hi' h4
  refine ⟨st,fun r=> ?_,fun _=>⟨by simp,by simp,tw,w1,ep',fun e=>st.sh (hcl e),fun _=>⟨_,rfl,rfl,by simp only [Qi.again];omega,by simp only [Qi.again];omega,fun _=>by simp only [Qi.again];omega,by simp [Qi.again,g7,h1,XT],fun _=>g8 h1⟩,by simp,by simp,by simp,by simp,by simp,by simp⟩⟩
  rcases b2 with ⟨e1,e2,e3⟩|⟨e0,e1,e5, -⟩
  · exact .quiet e2 e3
  · rw [h5] at e5;cases e5
 |@hit5 f o h1 h2 h3 h4 o0 o1 o2=>
  obtain ⟨f',e1,e2,e3,e4,e5,e6,e7⟩:=hlk (by omega)
  cases E _ _ e1 h2
  obtain ⟨a1,a2,a3⟩:=h.YB e3 h3 h4
  exact ⟨h.stays,Q,fun _=>⟨by simp,by simp,tw,w1,ep',hcl,by simp,fun _=>⟨_,SL c M f.at_,rfl,rfl,rfl,a1,a2,a3,by simp [e6,h1,XT],by simp⟩,fun _=>⟨e3,h3⟩,by simp,fun _=>⟨o0,o1⟩,by simp,by simp⟩⟩
 |@lone5 f o h1 h2 h3 h4=>
  obtain ⟨f',e1,e2,e3,e4,e5,e6,e7⟩:=hlk (by omega)
  cases E _ _ e1 h2
  obtain ⟨a1,a2,a3⟩:=h.YB e3 h3 h4
  exact ⟨h.stays,Q,fun _=>⟨by simp,by simp,tw,w1,ep',hcl,by simp,fun _=>⟨_,SL c M f.at_,rfl,rfl,rfl,a1,a2,a3,by simp [e6,h1,XT],by simp⟩,fun _=>⟨e3,h3⟩,by simp,by simp,by simp,by simp⟩⟩
 |@last5 f f' h1 h2 h3=>
  refine ⟨h.stays,Q,fun _=> ?_⟩
  by_cases hc:t.closed=0
  · simp only [if_pos hc]
    exact ⟨by simp,by simp,tw,w1,ep',hcl,by simp,by simp,by simp,by simp,by simp,by simp,by simp⟩
  · simp only [if_neg hc]
    exact ⟨by simp,by simp,tw,w1,ep',hcl,by simp,by simp,by simp,by simp,by simp,by simp,by simp⟩
 |@old6 f h1 h2=>
  obtain ⟨f',s,g1,g2,g3,g4,g5,g6,g7,g8⟩:=hfd (by omega)
  cases E _ _ g1 h2
  have hi':=hi (by omega)
  exact ⟨h.stays,Q,fun _=>⟨by simp,by simp,tw,w1,ep',hcl,fun _=>⟨_,rfl,by simp [Qi.go,g2],by simp [Qi.go,g2];omega,by simp [Qi.go,g2];omega,by simp,by simp [Qi.go,g2,g7,h1,XT],by simp⟩,by simp,by simp,by simp,by simp,by simp,by simp⟩⟩
 |next6 o h1 o0 o1 o2=>
  have:=hot h1
  exact ⟨h.stays,Q,fun _=>⟨s0,s1,tw,w1,ep',hcl,by simp only;omega,fun a=>hfd a,fun a=>hi a,by simp only;omega,fun _=>by simp only;omega,fun a=>hhd a,by simp only;omega⟩⟩
 |all6 o h1=>
  have g:=hfd (by omega)
  have hi':=hi (by omega)
  refine ⟨h.stays,Q,fun _=>⟨by simp,by simp,tw,w1,ep',hcl,by simp,fun _=> ?_,fun _=>hi',by simp,by simp,by simp,by simp⟩⟩
  simpa [h1] using g
 |@clear f s u h1 h2 h3 h4 h5=>
  obtain ⟨f',s',g1,g2,g3,g4,g5,g6,g7,g8⟩:=hfd (by omega)
  cases E _ _ g1 h2
  have hi':=hi (by omega)
  obtain ⟨hin,e,hu,e2,st,el,eg⟩:=h.swap h3 h4 h5
  rw [e2]
  exact ⟨st,Zh h e el eg (Xt h4 (by simp)),fun _=>⟨by simp,by simp,tw,w1,ep',fun e=>st.sh (hcl e),fun _=>⟨_,rfl,by simp [Qi.go,g2],by simp [Qi.go,g2];omega,by simp [Qi.go,g2];omega,by simp,by simp [Qi.go,g2,g7,h1,XT],by simp⟩,by simp,by simp,by simp,by simp,by simp,by simp⟩⟩
 |@unclear f h1 h2=>
  obtain ⟨f',s',g1,g2,g3,g4,g5,g6,g7,g8⟩:=hfd (by omega)
  cases E _ _ g1 h2
  have hi':=hi (by omega)
  exact ⟨h.stays,Q,fun _=>⟨by simp,by simp,tw,w1,ep',hcl,fun _=>⟨_,rfl,by simp [Qi.go,g2],by simp [Qi.go,g2];omega,by simp [Qi.go,g2];omega,by simp,by simp [Qi.go,g2,g7,h1,XT],by simp⟩,by simp,by simp,by simp,by simp,by simp,by simp⟩⟩
 |none8 h1 h2=>exact ⟨h.stays,Q,fun _=>⟨by simp,by simp,tw,w1,ep',hcl,by simp,by simp,by simp,by simp,by simp,by simp,by simp⟩⟩
 |head8 h1 h2=>
  have hm:=DZ h2
  exact ⟨h.stays,Q,fun _=>⟨by simp [Qh.search],by simp [Qh.search],tw,w1,ep',hcl,fun _=>⟨_,rfl,rfl,by simp [QE],by simp [QE];omega,by simp [QE];omega,rfl,by simp [Qh.search]⟩,by simp [Qh.search],by simp [Qh.search],by simp [Qh.search],by simp [Qh.search],fun _=>⟨⟨(h.ln.1 _ hm).1,h.qw _ hm⟩,h.ln,h2,rfl,h.qw⟩,by simp [Qh.search]⟩⟩
 |@hit9 f h1 h2 h3 h4=>
  obtain ⟨f',e1,e2,e3,e4,e5,e6,e7⟩:=hlk (by omega)
  cases E _ _ e1 h2
  obtain ⟨a1,a2,a3⟩:=h.YB e3 h3 h4
  have hh:=hhd (by omega)
  exact ⟨h.stays,Q,fun _=>⟨by simp,by simp,tw,w1,ep',hcl,by simp,fun _=>⟨_,SL c M f.at_,rfl,rfl,rfl,a1,a2,a3,by simp [e6,h1,XT],by simp⟩,fun _=>⟨e3,h3⟩,by simp,by simp,fun _=>hh,by simp⟩⟩
 |@last9 f h1 h2 h3 h4=>exact ⟨h.stays,Q,fun _=>⟨by simp,by simp,tw,w1,ep',hcl,by simp,by simp,by simp,by simp,by simp,by simp,by simp⟩⟩
 |keep s u h1 h2 h3 h4=>
  have hi':=hi (by omega)
  have hh:=hhd (by omega)
  obtain ⟨hin,e,hu,e2,st,el,eg⟩:=h.swap h2 h3 h4
  rw [e2]
  exact ⟨st,Zh h e el eg (Xt h3 (by split<;>simp)),fun _=>⟨by simp,by simp,tw,w1,ep',fun e=>st.sh (hcl e),by simp,by simp,fun _=>hi',by simp,by simp,fun _=>hh,by simp⟩⟩
 |@unkept f h1 h2 h3=>
  obtain ⟨f',s',g1,g2,g3,g4,g5,g6,g7,g8⟩:=hfd (by omega)
  cases E _ _ g1 h2
  have hi':=hi (by omega)
  have hh:=hhd (by omega)
  exact ⟨h.stays,Q,fun _=>⟨by simp,by simp,tw,w1,ep',hcl,fun _=>⟨_,rfl,rfl,by simp only [Qi.again];omega,by simp only [Qi.again];omega,fun _=>by simp only [Qi.again];omega,by simp [Qi.again,g7,h1,XT],by simp⟩,by simp,by simp,by simp,by simp,fun _=>hh,by simp⟩⟩
 |pop h1 h2=>
  have hi':=hi (by omega)
  obtain ⟨hh1,hh2,hh3,hh4,hh5⟩:=hhd (by omega)
  have st:=h.Vr (j:=1) (v:=(wd t.queue.tail:Int)) (by omega) (by omega) (fun _=>⟨_,hh2.tail,rfl,fun x hx=>hh5 x (List.mem_of_mem_tail hx)⟩) (by omega) (by omega) (by omega) (by omega)
  exact ⟨st,trL h (j:=1) (by omega) (by omega),fun _=>⟨by simp,by simp,tw,w1,ep',fun e=>st.sh (hcl e),by simp,by simp,fun _=>hi',by simp,by simp,fun _=>⟨hh1,hh2,hh3,hh4,hh5⟩,by simp⟩⟩
 |unpopped h1 h2=>
  have hi':=hi (by omega)
  exact ⟨h.stays,Q,fun _=>⟨by simp,by simp,tw,w1,ep',hcl,by simp,by simp,fun _=>hi',by simp,by simp,by simp,by simp⟩⟩
 |grant h1=>
  have hi':=hi (by omega)
  obtain ⟨hh1, -⟩:=hhd (by omega)
  rw [I _ (by omega) (by omega)]
  have st:=h.Vr (j:=3+c.wo+t.head) (v:=t.i+1) (by omega) (by omega) (by omega) (by omega) (by omega) (by omega) (by omega)
  exact ⟨st,trL h (by omega) (by omega),fun _=>⟨by simp,by simp,tw,w1,ep',fun e=>st.sh (hcl e),by simp,by simp,by simp,by simp,by simp,by simp,by simp⟩⟩
 |kept s h1 h2 h3=>
  have hi':=hi (by omega)
  obtain ⟨a1,a2,a3⟩:=h.at t.i
  rw [h2] at a3;cases a3
  exact ⟨h.stays,Q,fun _=>⟨by simp,by simp,tw,w1,ep',hcl,by simp,by simp,fun _=>hi',by simp,by simp,by simp,fun _=>⟨_,a1,a2,h3⟩⟩⟩
 |lost h1 h2=>exact ⟨h.stays,Q,fun _=>⟨by simp,by simp,tw,w1,ep',hcl,by simp,by simp,by simp,by simp,by simp,by simp,by simp⟩⟩
 |unkeep s u h1 h2 h3 h4=>
  obtain ⟨hin,e,hu,e2,st,el,eg⟩:=h.swap h2 h3 h4
  rw [e2]
  exact ⟨st,Zh h e el eg (Xt h3 (by split<;>simp)),fun _=>⟨by simp,by simp,tw,w1,ep',fun e=>st.sh (hcl e),by simp,by simp,by simp,by simp,by simp,by simp,by simp⟩⟩
 |again h1 h2=>
  have hi':=hi (by omega)
  exact ⟨h.stays,Q,fun _=>⟨by simp,by simp,tw,w1,ep',hcl,by simp,by simp,fun _=>hi',by simp,by simp,by simp,by simp⟩⟩
 |unpin h1=>
  rw [I _ (by omega) (by omega)]
  have st:=h.Vr (j:=3+t.w) (v:=0) (by omega) (by omega) (by omega) (by omega) (by omega) (by omega) (by omega)
  exact ⟨st,trL h (by omega) (by omega),fun _=>⟨by simp,by simp,tw,w1,ep',fun e=>st.sh (hcl e),by simp,by simp,by simp,by simp,by simp,by simp,by simp⟩⟩
 |done h1 h2=>exact ⟨h.stays,Q,fun e=>absurd rfl e⟩
 |redo h1 h2=>exact ⟨h.stays,Q,fun _=>⟨by simp,by simp,tw,w1,ep',hcl,by simp,by simp,by simp,by simp,by simp,by simp,by simp⟩⟩
end
end Go.Proofs.YtgjklfmnmljilaaGreatDoor
