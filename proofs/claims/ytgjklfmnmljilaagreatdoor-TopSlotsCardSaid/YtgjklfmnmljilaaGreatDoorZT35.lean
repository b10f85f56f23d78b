/- A part of the proof: TqE to TqE. -/
import Derived.Test.YtgjklfmnmljilaaGreatDoorZT34
namespace Go.Proofs.YtgjklfmnmljilaaGreatDoor
set_option linter.unusedVariables false
set_option linter.unusedSimpArgs false
set_option linter.unusedSectionVars false
set_option linter.unnecessarySimpa false
set_option maxRecDepth 100000
set_option maxHeartbeats 8000000
section
variable {c:Q0} {w:Nat} {n:Int} {M M':List Int}
inductive GvS (c:Q0) (M:List Int):Qy→Qy→List Int→Prop
 |forced {g}:g.st=0→GvS c M g ({g with closed:=Q7 M 0}.end_ 5) M
 |begins {g}:g.st=0→GvS c M g {g with closed:=Q7 M 0,st:=1} M
 |ends {g} (wo e:Int):g.st=1→e=2∨e=8→GvS c M g ({g with word:=wo}.end_ e) M
 |has {g} (s:Q8):g.st=1→0≤g.i→g.i<c.sl→dec (Q7 M (Q5 c g.i))=some s→s.st=3→s.own=g.w→s.gen=g.gen→s.str=0→GvS c M g {g with word:=Q7 M (Q5 c g.i),st:=2} M
 |rets {g} (s:Q8):g.st=1→0≤g.i→g.i<c.sl→dec (Q7 M (Q5 c g.i))=some s→s.st=3→s.own=g.w→s.gen=g.gen→GvS c M g {g with word:=Q7 M (Q5 c g.i),ret:=some (Ji c g.i (Q7 M (Q5 c g.i))),st:=3} M
 |given {g} (s u:Q8):g.st=2→dec g.word=some s→Qj s 4 g.w 0=some u→Qv M (Q5 c g.i) g.word=true→GvS c M g ({g with st:=1}.end_ 0) (QL M (Q5 c g.i) g.word u.enc)
 |lost {g}:g.st=2→(∀s u,dec g.word=some s→Qj s 4 g.w 0=some u→Qv M (Q5 c g.i) g.word=false)→GvS c M g {g with st:=1} M
 |goes {g r r' M'}:g.st=3→g.ret=some r→RtS M r r' M'→r'.done=false→GvS c M g {g with ret:=some r'} M'
 |went {g r r' M'}:g.st=3→g.ret=some r→RtS M r r' M'→r'.done=true→r'.swapped=true→GvS c M g ({g with ret:=some r'}.end_ 0) M'
 |back {g r r' M'}:g.st=3→g.ret=some r→RtS M r r' M'→r'.done=true→r'.swapped=false→GvS c M g {g with ret:=some r',st:=1} M'
structure Qy.live (c:Q0) (w:Nat) (g:Qy):Prop where
 s0:0≤g.st
 s1:g.st≤3
 tw:g.w=w
 wd:g.st=2→(0≤g.i∧g.i<c.sl)∧∃s,Q8.right s∧g.word=s.enc∧s.st=3∧s.own=g.w∧s.gen=g.gen∧s.str=0
 rt:g.st=3→(0≤g.i∧g.i<c.sl)∧∃r,g.ret=some r∧YG c r g.i fun s=>s.st=3∧s.own=g.w∧s.gen=g.gen
theorem Uz (c:Q0) (w:Nat) (g:Qy) (M:List Int) (h:g.live c w):GvS c M g (Qt c g M).1 (Qt c g M).2:=by
 have hs:g.st=0∨g.st=1∨g.st=2∨g.st=3:=by have:=h.s0;have:=h.s1;omega
 obtain ⟨-, -,tw,hwd,hrt⟩:=h
 rcases hs with hs|hs|hs|hs
 · by_cases h0:Q7 M 0=2
   · simp [Qt,hs,h0];have:=GvS.forced (c:=c) (M:=M) hs;rwa [h0,hs] at this
   · simp [Qt,hs,h0];exact .begins hs
 · by_cases hc:Q5 c g.i<0
   · simp [Qt,hs,hc];exact GvS.ends (c:=c) (M:=M) g.word 2 hs (.inl rfl)
   · have hin:0≤g.i∧g.i<c.sl:=by
      by_cases hi:0≤g.i∧g.i<c.sl
      · exact hi
      · rw [X6 g.i hi] at hc;omega
     cases hd:dec (Q7 M (Q5 c g.i)) with
     |none=>simp [Qt,hs,hc,hd];have:=GvS.ends (c:=c) (M:=M) (Q7 M (Q5 c g.i)) 2 hs (.inl rfl);simpa [hs] using this
     |some s=>
      by_cases hm:s.st=3∧s.own=g.w∧s.gen=g.gen
      · by_cases h8:s.str≠0∧g.discard=false
        · simp [Qt,hs,hc,hd,hm,h8];have:=GvS.ends (c:=c) (M:=M) (Q7 M (Q5 c g.i)) 8 hs (.inr rfl);simpa [hs,h8.2] using this
        · cases hb:(g.discard||s.br||decide (c.us≤s.us)||decide (g.closed≠0)) with
          |true=>
           have e:Qt c g M=({{g with word:=Q7 M (Q5 c g.i)} with ret:=some (Ji c g.i (Q7 M (Q5 c g.i))),st:=3},M):=by
            unfold Qt
            rw [if_neg (by omega),if_pos hs,if_neg hc]
            simp only [hd]
            rw [if_pos hm,if_neg h8]
            simp only [hb,if_true]
           rw [e];exact .rets s hs hin.1 hin.2 hd hm.1 hm.2.1 hm.2.2
          |false=>
           have e:Qt c g M=({{g with word:=Q7 M (Q5 c g.i)} with st:=2},M):=by
            unfold Qt
            rw [if_neg (by omega),if_pos hs,if_neg hc]
            simp only [hd]
            rw [if_pos hm,if_neg h8]
            simp only [hb,Bool.false_eq_true,if_false]
           rw [e];refine .has s hs hin.1 hin.2 hd hm.1 hm.2.1 hm.2.2 ?_
           by_cases h9:s.str=0
           · exact h9
           · exfalso
             cases hdis:g.discard with
             |true=>rw [hdis] at hb;simp at hb
             |false=>exact h8 ⟨h9,hdis⟩
      · simp [Qt,hs,hc,hd,hm];have:=GvS.ends (c:=c) (M:=M) (Q7 M (Q5 c g.i)) 2 hs (.inl rfl);simpa [hs] using this
 · cases ha:J6 g.word 4 g.w 0 with
   |none=>simp [Qt,hs,ha];exact .lost hs fun s u hd hu=>(Zd ha hd hu).elim
   |some x=>
    obtain ⟨s,hds,hu,he⟩:=Jz ha
    obtain ⟨u,n⟩:=x
    simp only at hu he
    subst he
    cases hc:Qv M (Q5 c g.i) g.word with
    |true=>simp [Qt,hs,ha,hc];exact .given s u hs hds hu hc
    |false=>simp [Qt,hs,ha,hc];exact .lost hs fun _ _ _ _=>hc
 · obtain ⟨-,r,hr,hl⟩:=hrt hs
   have hS:=YN r M hl.nd
   have er:g.rt=r:=by unfold Qy.rt;rw [hr];rfl
   simp [Qt,hs,er]
   generalize Qn r M=x at*
   obtain ⟨r',M'⟩:=x
   simp only at hS ⊢
   cases hd:r'.done with
   |false=>simp only [Bool.false_eq_true,if_false];have:=GvS.goes (c:=c) hs hr hS hd;rwa [hs] at this
   |true=>
    cases hw:r'.swapped with
    |true=>simp only [if_true];have:=GvS.went (c:=c) hs hr hS hd hw;rwa [hs] at this
    |false=>simp only [Bool.false_eq_true,if_false,if_true];exact .back hs hr hS hd hw
def ZY (g:Qy):Xe:=if (g.st=3∧g.rt.swapped=true)∨(g.st=4∧g.e=0) then .si g.i g.gen else .no
theorem Jk {g:Qy} (h:(0≤g.st∧g.st≤2)∨(g.st=3∧g.rt.swapped=false)∨(g.st=4∧g.e≠0)):ZY g=.no:=by
 unfold ZY
 rw [if_neg]
 rintro (⟨a,b⟩|⟨a,b⟩)
 · rcases h with h|⟨-,h⟩|h
   · omega
   · rw [b] at h;cases h
   · omega
 · omega
theorem Q1t {g:Qy} (h:g.st=4∧g.e=0):ZY g=.si g.i g.gen:=if_pos (.inr h)
theorem Q9o (h:Qm c n M) (hn:n≤1000000000) {g g':Qy} (hl:g.live c w) (hS:GvS c M g g' M'):
 StM c (n+1) M M'∧Tr c w M M' (ZY g) (ZY g')∧g'.i=g.i∧g'.gen=g.gen∧(g'.st≠4→g'.live c w):=by
 have Q:∀r,Tr c w M M r r:=fun r=>.quiet rfl rfl
 obtain ⟨s0,s1,tw,hwd,hrt⟩:=hl
 cases hS with
 |forced h1=>exact ⟨h.stays,by rw [Jk (by omega),Jk (by simp [Qy.end_])];exact Q _,rfl,rfl,fun e=>absurd rfl e⟩
 |begins h1=>exact ⟨h.stays,by rw [Jk (by omega),Jk (by simp)];exact Q _,rfl,rfl,fun _=>⟨by simp,by simp,tw,by simp,by simp⟩⟩
 |ends wo e h1 h2=>exact ⟨h.stays,by rw [Jk (by omega),Jk (by simp [Qy.end_];omega)];exact Q _,rfl,rfl,fun e=>absurd rfl e⟩
 |has s h1 i0 i1 h2 h3 h4 h5 h6=>
  obtain ⟨a1,a2,a3⟩:=h.at g.i
  rw [h2] at a3;cases a3
  exact ⟨h.stays,by rw [Jk (by omega),Jk (by simp)];exact Q _,rfl,rfl,fun _=>⟨by simp,by simp,tw,fun _=>⟨⟨i0,i1⟩,_,a1,a2,h3,h4,h5,h6⟩,by simp⟩⟩
 |rets s h1 i0 i1 h2 h3 h4 h5=>
  obtain ⟨a1,a2,a3⟩:=h.at g.i
  rw [h2] at a3;cases a3
  exact ⟨h.stays,by rw [Jk (by omega),Jk (by simp [Qy.rt,Ji])];exact Q _,rfl,rfl,fun _=>⟨by simp,by simp,tw,by simp,fun _=>⟨⟨i0,i1⟩,_,rfl,Yz h ⟨i0,i1⟩ a1 a2 ⟨h3,h4,h5⟩⟩⟩⟩
 |given s u h1 h2 h3 h4=>
  obtain ⟨-,s',b1,b2,b3,b4,b5⟩:=hwd h1
  rw [b2,QO b1] at h2;cases h2
  rw [b2] at h4
  obtain ⟨hin,e,hu,e2,st,el,eg⟩:=h.swap (QO b1) h3 h4
  rw [b2,e2]
  refine ⟨st, ?_,rfl,rfl,fun e=>absurd rfl e⟩
  rw [Jk (by omega),Q1t (by simp [Qy.end_])]
  show Tr c w M _ .no (.si g.i g.gen)
  obtain ⟨c1,c2⟩:=Q4W h3
  refine .gives s.str ?_ ?_ ?_
  · unfold LM lv;rw [e,if_pos b3,b4,b5.1,tw]
  · rw [el,c1]
  · rw [eg,c2,←e];exact U6 (GM c M) g.i
 |lost h1 h2=>exact ⟨h.stays,by rw [Jk (by omega),Jk (by simp)];exact Q _,rfl,rfl,fun _=>⟨by simp,by simp,tw,by simp,by simp⟩⟩
 |@goes r r' _ h1 h2 h3 h4=>
  obtain ⟨hi',r0,f1,f2⟩:=hrt h1
  rw [h2] at f1;cases f1
  obtain ⟨st,b1,b2⟩:=KO h (by omega) f2 hi' h3
  refine ⟨st, ?_,rfl,rfl,fun _=>⟨s0,s1,tw,by simp only;omega,fun _=>⟨hi',_,rfl,b1 h4⟩⟩⟩
  have er:g.rt=r:=by unfold Qy.rt;rw [h2];rfl
  rcases b2 with ⟨e1,e2,e3⟩|⟨e0,e1, -,e2,e3,e4⟩
  · have:ZY {g with ret:=some r'}=ZY g:=by unfold ZY;simp only [Qy.rt,h2,Option.getD_some,e1]
    rw [this];exact .quiet e2 e3
  · have r':ZY {g with ret:=some r'}=.si g.i g.gen:=by unfold ZY;rw [if_pos (.inl ⟨h1,e1⟩)]
    rw [Jk (.inr (.inl ⟨h1,by rw [er];exact e0⟩)),r']
    refine .gives (SL c M g.i).str ?_ e3 e4
    unfold LM lv;rw [if_pos e2.1,e2.2.1,e2.2.2,tw]
 |@went r r' _ h1 h2 h3 h4 h5=>
  obtain ⟨hi',r0,f1,f2⟩:=hrt h1
  rw [h2] at f1;cases f1
  have er:g.rt=r:=by unfold Qy.rt;rw [h2];rfl
  obtain ⟨st,b1,b2⟩:=KO h (by omega) f2 hi' h3
  refine ⟨st, ?_,rfl,rfl,fun e=>absurd rfl e⟩
  rcases b2 with ⟨e1,e2,e3⟩|⟨e0,e1,e5, -⟩
  · have x1:ZY ({g with ret:=some r'}.end_ 0)=.si g.i g.gen:=by unfold ZY;rw [if_pos (.inr ⟨rfl,rfl⟩)];rfl
    have x2:ZY g=.si g.i g.gen:=by unfold ZY;rw [if_pos (.inl ⟨h1,by rw [er,←e1];exact h5⟩)]
    rw [x1,x2];exact .quiet e2 e3
  · rw [h4] at e5;cases e5
 |@back r r' _ h1 h2 h3 h4 h5=>
  obtain ⟨hi',r0,f1,f2⟩:=hrt h1
  rw [h2] at f1;cases f1
  have er:g.rt=r:=by unfold Qy.rt;rw [h2];rfl
  obtain ⟨st,b1,b2⟩:=KO h (by omega) f2 hi' h3
  refine ⟨st, ?_,rfl,rfl,fun _=>⟨by simp,by simp,tw,by simp,by simp⟩⟩
  rcases b2 with ⟨e1,e2,e3⟩|⟨e0,e1, -⟩
  · rw [Jk (.inr (.inl ⟨h1,by rw [er,←e1];exact h5⟩)),Jk (by simp)];exact .quiet e2 e3
  · rw [h5] at e1;cases e1
inductive SmS (c:Q0) (M:List Int):QI→QI→List Int→Prop
 |forced {g}:g.st=0→SmS c M g ({g with st:=1}.end_ 5) M
 |begins {g}:g.st=0→SmS c M g {g with st:=1} M
 |ends {g} (wo e:Int):g.st=1→e≠0→SmS c M g ({g with word:=wo}.end_ e) M
 |has {g} (s t:Q8):g.st=1→dec (Q7 M (Q5 c g.i))=some s→s.gen=g.gen→Qj s (if g.opens=true then 14 else 15) g.w (if g.opens then c.st else g.n)=some t→
   SmS c M g {g with word:=Q7 M (Q5 c g.i),next:=t.enc,stream:=VP s.str t.str,st:=2} M
 |swapped {g}:g.st=2→Qv M (Q5 c g.i) g.word=true→SmS c M g ({g with st:=1}.end_ 0) (QL M (Q5 c g.i) g.word g.next)
 |lost {g}:g.st=2→Qv M (Q5 c g.i) g.word=false→SmS c M g {g with st:=1} M
structure QI.live (c:Q0) (w:Nat) (g:QI):Prop where
 s0:0≤g.st
 s1:g.st≤2
 tw:g.w=w
 wd:g.st=2→∃s t more,Q8.right s∧g.word=s.enc∧s.gen=g.gen∧Qj s (if g.opens=true then 14 else 15) g.w more=some t∧g.next=t.enc∧g.stream=VP s.str t.str
theorem Kl (c:Q0) (w:Nat) (g:QI) (M:List Int) (h:g.live c w):SmS c M g (Qu c g M).1 (Qu c g M).2:=by
 have hs:g.st=0∨g.st=1∨g.st=2:=by have:=h.s0;have:=h.s1;omega
 have E:∀wo e:Int,e≠0→g.st=1→SmS c M g ({g with word:=wo}.end_ e) M:=fun wo e he h1=>.ends wo e h1 he
 rcases hs with hs|hs|hs
 · by_cases h0:Q7 M 0=2
   · simp [Qu,hs,h0];exact .forced hs
   · simp [Qu,hs,h0];exact .begins hs
 · by_cases hc:Q5 c g.i<0
   · simp [Qu,hs,hc];exact E g.word 2 (by omega) hs
   · cases hd:dec (Q7 M (Q5 c g.i)) with
     |none=>simp [Qu,hs,hc,hd];have:=E (Q7 M (Q5 c g.i)) 2 (by omega) hs;simpa [hs] using this
     |some s=>
      unfold Qu
      rw [if_neg (by omega),if_pos hs,if_neg hc]
      simp only [hd]
      by_cases hm:s.st=3∧s.own=g.w∧s.gen=g.gen
      · rw [if_pos hm]
        by_cases h9:g.opens=true∧s.br=true
        · rw [if_pos h9];exact E _ 9 (by omega) hs
        · rw [if_neg h9]
          cases hx:Qj s (if g.opens then 14 else 15) g.w (if g.opens then c.st else g.n) with
          |none=>simp only;exact E _ (if g.opens=true then 10 else 11) (by split<;>omega) hs
          |some t=>simp only;exact .has s t hs hd hm.2.2 hx
      · rw [if_neg hm];exact E _ 2 (by omega) hs
 · cases hc:Qv M (Q5 c g.i) g.word with
   |true=>simp [Qu,hs,hc];exact .swapped hs hc
   |false=>simp [Qu,hs,hc];exact .lost hs hc
def KN (g:QI):Xe:=if g.st=3∧g.e=0 then .de g.i g.gen g.stream.toNat g.opens else .no
theorem X7 {g:QI} (h:g.st≠3∨g.e≠0):KN g=.no:=by unfold KN;rw [if_neg];omega
theorem Q0I {g:QI} (h:g.st=3∧g.e=0):KN g=.de g.i g.gen g.stream.toNat g.opens:=if_pos h
theorem Q8x (h:Qm c n M) (hn:n≤1000000000) {g g':QI} (hl:g.live c w) (hS:SmS c M g g' M'):
 StM c (n+1) M M'∧Tr c w M M' (KN g) (KN g')∧(g'.i=g.i∧g'.gen=g.gen∧g'.opens=g.opens)∧(g'.st≠3→g'.live c w)∧(g'.st=3→g'.e=0→0≤g'.stream∧g'.stream<8):=by
 have Q:∀r,Tr c w M M r r:=fun r=>.quiet rfl rfl
 obtain ⟨s0,s1,tw,hwd⟩:=hl
 cases hS with
 |forced h1=>exact ⟨h.stays,by rw [X7 (by omega),X7 (by simp [QI.end_])];exact Q _,⟨rfl,rfl,rfl⟩,fun e=>absurd rfl e,by simp [QI.end_]⟩
 |begins h1=>exact ⟨h.stays,by rw [X7 (by omega),X7 (by simp)];exact Q _,⟨rfl,rfl,rfl⟩,fun _=>⟨by simp,by simp,tw,by simp⟩,by simp⟩
 |ends wo e h1 h2=>exact ⟨h.stays,by rw [X7 (by omega),X7 (by simp [QI.end_];omega)];exact Q _,⟨rfl,rfl,rfl⟩,fun e=>absurd rfl e,fun _ e=>absurd e h2⟩
 |has s t h1 h2 h3 h4=>
  obtain ⟨a1,a2,a3⟩:=h.at g.i
  rw [h2] at a3;cases a3
  exact ⟨h.stays,by rw [X7 (by omega),X7 (by simp)];exact Q _,⟨rfl,rfl,rfl⟩,fun _=>⟨by simp,by simp,tw,fun _=>⟨_,t,_,a1,a2,h3,h4,rfl,rfl⟩⟩,by simp⟩
 |swapped h1 h2=>
  obtain ⟨s,t,more,b1,b2,b3,b4,b5,b6⟩:=hwd h1
  rw [b2] at h2
  obtain ⟨hin,e,hu,e2,st,el,eg⟩:=h.swap (QO b1) b4 h2
  obtain ⟨c1,c2,c3,c4,c5,k,k8,kb,k1,k2⟩:=Q4V b1 b4
  rw [b2,b5,e2]
  refine ⟨st, ?_,⟨rfl,rfl,rfl⟩,fun e=>absurd rfl e,fun _ _=> ?_⟩
  · have hk:g.stream.toNat=k:=by rw [b6,kb];rfl
    rw [X7 (by omega),Q0I (by simp [QI.end_])]
    show Tr c w M _ .no (.de g.i g.gen g.stream.toNat g.opens)
    rw [hk]
    refine .strm s.str t.str ?_ k8 k1 k2 ?_ ?_
    · unfold LM lv;rw [e,if_pos c1,c2,b3,tw]
    · rw [el];congr 1;unfold lv;rw [if_pos c3,c4,c2,c5,b3,tw]
    · rw [eg,c5,←e];exact U6 (GM c M) g.i
  · show 0≤g.stream∧g.stream<8
    rw [b6,kb];omega
 |lost h1 h2=>exact ⟨h.stays,by rw [X7 (by omega),X7 (by simp)];exact Q _,⟨rfl,rfl,rfl⟩,fun _=>⟨by simp,by simp,tw,by simp⟩,by simp⟩
structure QuS.live (c:Q0) (s:QuS):Prop where
 ok:s.ok c
 lw:∀x∈s.line,x<c.wo
 w0:0≤s.w
 w1:s.w<c.wo
 hd:s.nx=.pop→(0≤s.first∧s.first<c.wo)∧s.line≠[]
theorem DZ {L:List Int} (h:L≠[]):Zc L∈L:=by cases L with
 |nil=>exact absurd rfl h
 |cons x l=>exact List.mem_cons_self
theorem q_tr (h:Qm c n M) {s:QuS} (hl:s.live c):StM c (n+1) M (Qp c s M).2∧(∀r,Tr c w M (Qp c s M).2 r r)∧(Qp c s M).1.live c:=by
 have Q:∀r,Tr c w M M r r:=fun r=>.quiet rfl rfl
 obtain ⟨⟨hLn,hpush,hdrop,htell⟩,hlw,w0,w1,hhd⟩:=hl
 have wo:=h.cf.1
 have hM:=h.ln
 have hMw:=h.qw
 have S1:∀L:List Int,Ln L→(∀x∈L,x<c.wo)→StM c (n+1) M (M.set 1 (wd L:Int))∧∀r,Tr c w M (M.set 1 (wd L:Int)) r r:=fun L h1 h2=>
  ⟨h.Vr (j:=1) (by omega) (by omega) (fun _=>⟨L,h1,rfl,h2⟩) (by omega) (by omega) (by omega) (by omega),fun r=>trL h (j:=1) (by omega) (by omega) r⟩
 unfold Qp
 cases hn:s.nx with
 |come=>
  simp only
  by_cases hc:c.wa≤((mQ M).length:Int)∨s.w∈mQ M
  · rw [if_pos hc];exact ⟨h.stays,Q,⟨hM,by simp,by simp,by simp⟩,hMw,w0,w1,by simp⟩
  · rw [if_neg hc]
    exact ⟨h.stays,Q,⟨hM,fun _=>(ET hM).2 ⟨w0,by show s.w≤14;omega,fun e=>hc (.inr e)⟩,by simp,by simp⟩,hMw,w0,w1,by simp⟩
 |push=>
  simp only
  by_cases hc:mQ M=s.line
  · rw [if_pos hc]
    have hp:=hpush hn
    obtain ⟨a,b⟩:=S1 (s.line++[s.w]) hp fun x hx=>by
     rcases List.mem_append.1 hx with hx|hx
     · exact hlw x hx
     · rw [List.mem_singleton.1 hx];exact w1
    exact ⟨a,b,⟨hLn,by simp,by simp,by simp⟩,hlw,w0,w1,by simp⟩
  · rw [if_neg hc];exact ⟨h.stays,Q,⟨hLn,by simp,by simp,by simp⟩,hlw,w0,w1,by simp⟩
 |closed=>
  simp only
  by_cases hc:Q7 M 0=0
  · rw [if_pos hc];exact ⟨h.stays,Q,⟨hLn,by simp,by simp,by simp⟩,hlw,w0,w1,by simp⟩
  · rw [if_neg hc];exact ⟨h.stays,Q,⟨hLn,by simp,by simp,by simp⟩,hlw,w0,w1,by simp⟩
 |look=>
  simp only
  by_cases hc:s.w∈mQ M
  · rw [if_pos hc];exact ⟨h.stays,Q,⟨hM,by simp,fun _=>hc,by simp⟩,hMw,w0,w1,by simp⟩
  · rw [if_neg hc];exact ⟨h.stays,Q,⟨hM,by simp,by simp,by simp⟩,hMw,w0,w1,by simp⟩
 |drop=>
  simp only
  by_cases hc:mQ M=s.line
  · rw [if_pos hc]
    obtain ⟨a,b⟩:=S1 (rm s.line s.w) (hLn.rm s.w) fun x hx=>hlw x (List.mem_filter.1 hx).1
    exact ⟨a,b,⟨hLn,by simp,by simp,by simp⟩,hlw,w0,w1,by simp⟩
  · rw [if_neg hc];exact ⟨h.stays,Q,⟨hLn,by simp,by simp,by simp⟩,hlw,w0,w1,by simp⟩
 |head=>
  simp only
  by_cases hc:mQ M=[]
  · rw [if_pos hc];exact ⟨h.stays,Q,⟨hM,by simp,by simp,by simp⟩,hMw,w0,w1,by simp⟩
  · rw [if_neg hc]
    have hm:=DZ hc
    exact ⟨h.stays,Q,⟨hM,by simp,by simp,by simp⟩,hMw,w0,w1,fun _=>⟨⟨(hM.1 _ hm).1,hMw _ hm⟩,hc⟩⟩
 |pop=>
  simp only
  by_cases hc:mQ M=s.line
  · rw [if_pos hc]
    obtain ⟨a,b⟩:=S1 s.line.tail hLn.tail fun x hx=>hlw x (List.mem_of_mem_tail hx)
    exact ⟨a,b,⟨hLn,by simp,by simp,fun _=>(hhd hn).1⟩,hlw,w0,w1,by simp⟩
  · rw [if_neg hc];exact ⟨h.stays,Q,⟨hLn,by simp,by simp,by simp⟩,hlw,w0,w1,by simp⟩
 |tell=>
  simp only
  obtain ⟨f0,f1⟩:=htell hn
  have:=h.len;have:=h.cf.2.1
  rw [JG (by omega) (by unfold Q0.cells at*;omega)]
  exact ⟨h.Vr (by omega) (by omega) (by omega) (by omega) (by omega) (by omega) (by omega),fun r=>trL h (by omega) (by omega) r,⟨hLn,by simp,by simp,by simp⟩,hlw,w0,w1,by simp⟩
 |done=>simp only;exact ⟨h.stays,Q,⟨hLn,by simp [hn],by simp [hn],by simp [hn]⟩,hlw,w0,w1,by simp [hn]⟩
theorem GR {c:Q0} {M:List Int} {s:QuS} (h:s.nx=.head∨s.nx=.pop∨s.nx=.tell) (hd:¬(Qp c s M).1.nx.isDone=true):(Qp c s M).1.nx=.head∨(Qp c s M).1.nx=.pop∨(Qp c s M).1.nx=.tell:=by
 unfold Qp at hd ⊢
 rcases h with h|h|h<;>rw [h] at hd ⊢ <;>simp only at hd ⊢
 · by_cases h2:mQ M=[]
   · rw [if_pos h2] at hd;simp [QSt.isDone] at hd
   · rw [if_neg h2];exact .inr (.inl rfl)
 · split
   · exact .inr (.inr rfl)
   · exact .inl rfl
 · simp
end
end Go.Proofs.YtgjklfmnmljilaaGreatDoor
