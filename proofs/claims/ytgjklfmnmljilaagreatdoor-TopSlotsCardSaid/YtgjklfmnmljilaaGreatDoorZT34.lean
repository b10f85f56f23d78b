/- A part of the proof: TqD to TqD. -/
import Derived.Test.YtgjklfmnmljilaaGreatDoorZT33
namespace Go.Proofs.YtgjklfmnmljilaaGreatDoor
set_option linter.unusedVariables false
set_option linter.unusedSimpArgs false
set_option linter.unusedSectionVars false
set_option linter.unnecessarySimpa false
set_option maxRecDepth 100000
set_option maxHeartbeats 8000000
section
inductive Tr (c:Q0) (w:Nat) (M M':List Int):Xe→Xe→Prop
 |quiet {r}:LM c M'=LM c M→GM c M'=GM c M→Tr c w M M' r r
 |force {r} (i:Int):Jr M→LM c M'=upL (LM c M) i none→GM c M'=GM c M→Tr c w M M' r r
 |gives {i g} (s:Int):LM c M i=some ((w:Int),g,s)→LM c M'=upL (LM c M) i none→GM c M'=GM c M→Tr c w M M' .no (.si i g)
 |back {i g} (s:Int):LM c M i=some ((w:Int),g,s)→LM c M'=upL (LM c M) i none→GM c M'=GM c M→Tr c w M M' (.b2 i g) .no
 |Ho {i}:LM c M i=none→LM c M'=upL (LM c M) i (some ((w:Int),GM c M i+1,0))→GM c M'=upG (GM c M) i (GM c M i+1)→Tr c w M M' .no (.b1 i (GM c M i+1))
 |fine {i g}:¬Jr M→M'=M→Tr c w M M' (.b1 i g) (.ga i g)
 |late {i g}:M'=M→Tr c w M M' (.b1 i g) (.b2 i g)
 |gone {i g}:(∀s,LM c M i≠some ((w:Int),g,s))→M'=M→Tr c w M M' (.b2 i g) .no
 |strm {i g} {n:Nat} {o:Bool} (s s':Int):LM c M i=some ((w:Int),g,s)→n<8→s.toNat.testBit n= !o→(∀m,m<8→s'.toNat.testBit m=(s.toNat.testBit m ^^ decide (n=m)))→
   LM c M'=upL (LM c M) i (some ((w:Int),g,s'))→GM c M'=GM c M→Tr c w M M' .no (.de i g n o)
variable {c:Q0} {w:Nat} {n:Int} {M M':List Int}
theorem Tr.inv {hw hg:Int→Int} {hs:Int→Nat→Bool} {ρ:Nat→Xe} {r r':Xe} (ht:Tr c w M M' r r') (h:JQ (LM c M) (GM c M) (Jr M) hw hg hs ρ) (hr:ρ w=r) (hsh:Jr M→Jr M'):
 JQ (LM c M') (GM c M') (Jr M') hw hg hs (upR ρ w r'):=by
 refine JQ.shuts (shut:=Jr M) ?_ hsh
 cases ht with
 |quiet e1 e2=>rw [e1,e2,←hr,Yj];exact h
 |force i hc e1 e2=>rw [e1,e2,←hr,Yj];exact h.force hc i
 |gives s hL e1 e2=>rw [e1,e2];exact h.gives hr hL
 |back s hL e1 e2=>rw [e1,e2];exact h.back hr hL
 |Ho hL e1 e2=>rw [e1,e2];exact h.Ho hr hL
 |fine hc e=>rw [e];exact h.fine hr hc
 |late e=>rw [e];exact h.late hr
 |gone hL e=>rw [e];exact h.gone hr hL
 |strm s s' hL hn hb hb2 e1 e2=>rw [e1,e2];exact h.strm hr hL hn hb hb2
structure StM (c:Q0) (n:Int) (M M':List Int):Prop where
 ok:Qm c n M'
 sh:Jr M→Jr M'
 vr:∀i,SL c M' i=SL c M i∨((SL c M' i).ver=((SL c M i).ver+1) % 32768∧(SL c M' i).gen≤(SL c M i).gen+1)
def Low (c:Q0) (n:Int) (M:List Int):Prop:=∀i,(SL c M i).ver≤n∧(SL c M i).gen≤n
def Q9F (c:Q0) (n:Int) (M:List Int):Prop:=Low c n M∧n≤4000
theorem StM.low (h:StM c (n+1) M M') (hl:Low c n M) (h0:Qm c n M):Low c (n+1) M':=by
 intro i
 obtain ⟨a,b⟩:=hl i
 have v0:=(h0.at i).1.ver0
 rcases h.vr i with e|⟨e1,e2⟩
 · rw [e];omega
 · omega
theorem Qm.stays (h:Qm c n M):StM c (n+1) M M:=⟨h.mono (by omega),id,fun _=>.inl rfl⟩
theorem Qm.Q6s (h:Qm c n M) {i:Int} (hi:0≤i∧i<c.sl) {u:Q8} {d:Nat} {own more:Int} (hn:Qj (SL c M i) d own more=some u):StM c (n+1) M (Ym c M i u):=by
 have hr:=(h.at i).1
 have hu:=Jw hr hn
 refine ⟨(h.putS hi hu).mono (by omega),fun e=>by rw [h.Q4z hi];exact e,fun j=> ?_⟩
 rw [h.WY hi hu]
 split
 · rename_i e;subst e;right;exact ⟨Q4X hn,ver_le hr hn⟩
 · left;rfl
theorem Qm.Vr (h:Qm c n M) {j v:Int} (h0:0≤j) (h1:j<3+2*c.wo) (hq:j=1→∃L,Ln L∧v=(wd L:Int)∧∀x∈L,x<c.wo) (he:j=2→0≤v∧v≤n+1) (hp:3≤j→j<3+c.wo→0≤v∧v≤n+2)
 (hg:3+c.wo≤j→ -1≤v∧v≤16) (hz:j=0→Jr M→v=2):StM c (n+1) M (M.set j.toNat v):=by
 refine ⟨(h.mono (n':=n+1) (by omega)).set h0 h1 hq he (fun a b=>by have:=hp a b;omega) hg,fun e=> ?_,fun i=>.inl (h.UO h0 h1 i)⟩
 unfold Jr at*
 have:=h.len;have:=h.cf.2.1
 rw [Zz h0 (by unfold Q0.cells at*;omega)]
 split
 · rename_i e0;exact hz e0.symm e
 · exact e
theorem trL (h:Qm c n M) {j v:Int} (h0:0≤j) (h1:j<3+2*c.wo) (r:Xe):Tr c w M (M.set j.toNat v) r r:=.quiet (h.Q82 h0 h1) (h.Q85 h0 h1)
theorem Q1O (h:Qm c n M) (hn:n≤1000000000):Gw M 2 1=M.set (2:Int).toNat (Q7 M 2+1):=by
 have hin:isIn M 2=true:=Jh (by omega) (by have:=h.len;have:=h.cf.1;have:=h.cf.2.1;unfold Q0.cells at*;omega)
 have:=h.ep
 have e:Q7 M 2=M.getD (2:Int).toNat 0:=by unfold Q7;rw [if_pos hin]
 unfold Gw
 rw [if_pos hin,e]
 rw [e] at this
 congr 1
 unfold Go.RowKit.wrap64;omega
theorem Qm.swap (h:Qm c n M) {i word:Int} {s u:Q8} {d:Nat} {own more:Int} (hd:dec word=some s) (hn:Qj s d own more=some u) (hc:Qv M (Q5 c i) word=true):
 (0≤i∧i<c.sl)∧SL c M i=s∧u.right∧QL M (Q5 c i) word u.enc=Ym c M i u∧StM c (n+1) M (Ym c M i u)∧LM c (Ym c M i u)=upL (LM c M) i (lv u)∧GM c (Ym c M i u)=upG (GM c M) i u.gen:=by
 obtain ⟨hi,he,hd',hl⟩:=h.cas (v:=u.enc) hc
 have e:SL c M i=s:=by rw [hd] at hd';exact (Option.some.inj hd').symm
 have hr:=(h.at i).1
 have hu:u.right:=by rw [e] at hr;exact Jw hr hn
 exact ⟨hi,e,hu,hl,h.Q6s hi (by rw [e];exact hn),h.Q3Z hi hu,h.Q40 hi hu⟩
theorem Zh (h:Qm c n M) {i:Int} {s u:Q8} (e:SL c M i=s) (el:LM c M'=upL (LM c M) i (lv u)) (eg:GM c M'=upG (GM c M) i u.gen) (hq:lv u=lv s∧u.gen=s.gen) (r:Xe):Tr c w M M' r r:=by
 refine .quiet ?_ ?_
 · rw [el,hq.1,←e];exact Et (LM c M) i
 · rw [eg,hq.2,←e];exact U6 (GM c M) i
theorem KH (h:Qm c n M) (hl:Q9F c n M) {i:Int} {s u:Q8} {d:Nat} {more:Int} (e:SL c M i=s) (el:LM c M'=upL (LM c M) i (lv u)) (eg:GM c M'=upG (GM c M) i u.gen) (hx:Qj s d w more=some u) (hd:d=1∨d=3∨(d=16∧u.st=3)):
 u.st=3∧Tr c w M M' .no (.b1 i u.gen):=by
 have hr:=(h.at i).1
 rw [e] at hr
 obtain ⟨a1,a2,a3,a4,a5⟩:=Q2D hr hx hd (by have:=(hl.1 i).2;have:=hl.2;rw [e] at*;omega)
 have e1:GM c M i=s.gen:=by unfold GM;rw [e]
 refine ⟨a2, ?_⟩
 rw [a5,←e1]
 refine .Ho ?_ ?_ ?_
 · show lv (SL c M i)=none
   unfold lv;rw [e,if_neg a1]
 · rw [el];congr 1;unfold lv;rw [if_pos a2,a3,a4,a5,e1]
 · rw [eg,a5,e1]
theorem KO (h:Qm c n M) (hn:n≤1000000000) {r r':J4} {i:Int} {P:Q8→Prop} (hl:YG c r i P) (hi:0≤i∧i<c.sl) (hS:RtS M r r' M'):
 StM c (n+1) M M'∧(r'.done=false→YG c r' i P)∧
 ((r'.swapped=r.swapped∧LM c M'=LM c M∧GM c M'=GM c M)∨(r.swapped=false∧r'.swapped=true∧r'.done=false∧P (SL c M i)∧LM c M'=upL (LM c M) i none∧GM c M'=GM c M)):=by
 obtain ⟨⟨s,hs,hw,hp⟩,hnd,hdn,hsw,hcl⟩:=hl
 have hdw:dec r.word=some s:=by rw [hw];exact QO hs
 cases hS with
 |lost h1 h2=>exact ⟨h.stays,fun e=>by simp [J4.fin] at e,.inl ⟨rfl,rfl,rfl⟩⟩
 |swap s' u h1 h2 h3 h4=>
  rw [hdw] at h2;cases h2
  rw [hcl] at h4 ⊢
  obtain ⟨-,e,hu,e2,st,el,eg⟩:=h.swap hdw h3 h4
  obtain ⟨a1,a2, -⟩:=Q10 h3
  rw [e2]
  refine ⟨st,fun _=>⟨⟨u,hu,rfl,fun e=>by simp at e⟩,by simp,hdn,by simp,rfl⟩,.inr ⟨by rw [hsw,h1];simp,rfl,hdn,by rw [e];exact hp h1, ?_, ?_⟩⟩
  · rw [el];congr 1;unfold lv;rw [if_neg (by omega)]
  · rw [eg,a2,←e];exact U6 (GM c M) i
 |look h1=>exact ⟨h.stays,fun _=>⟨⟨s,hs,hw,fun e=>by simp at e⟩,by simp,hdn,by rw [hsw,h1];simp,hcl⟩,.inl ⟨rfl,rfl,rfl⟩⟩
 |stale h1 h2=>exact ⟨h.stays,fun _=>⟨⟨s,hs,hw,fun e=>by simp at e⟩,by simp,hdn,by rw [hsw,h1];simp,hcl⟩,.inl ⟨rfl,rfl,rfl⟩⟩
 |age s' u h1 h2 h3 h4=>
  rw [hdw] at h2;cases h2
  rw [hcl] at h4 ⊢
  obtain ⟨-,e,hu,e2,st,el,eg⟩:=h.swap hdw h3 h4
  have hq:=Xt h3 (by simp)
  rw [e2]
  refine ⟨st,fun _=>⟨⟨s,hs,hw,fun e=>by simp at e⟩,by simp,hdn,by rw [hsw,h1];simp,rfl⟩,.inl ⟨rfl, ?_, ?_⟩⟩
  · rw [el,hq.1,←e];exact Et (LM c M) i
  · rw [eg,hq.2,←e];exact U6 (GM c M) i
 |J5 h1=>
  have:=h.ep;have:=h.cf.1
  rw [Q1O h hn]
  exact ⟨h.Vr (by omega) (by omega) (by omega) (fun _=>by omega) (by omega) (by omega) (by omega),fun e=>by simp [J4.fin] at e,.inl ⟨rfl,h.Q82 (by omega) (by omega),h.Q85 (by omega) (by omega)⟩⟩
theorem Yz (h:Qm c n M) {i word:Int} {s:Q8} {P:Q8→Prop} (hi:0≤i∧i<c.sl) (hs:s.right) (hw:word=s.enc) (hp:P s):YG c (Ji c i word) i P:=
 ⟨⟨s,hs,hw,fun _=>hp⟩,by simp [Ji],rfl,rfl,rfl⟩
def Z0 (t:Qe):Xe:=
 if t.st=5∨t.st=6∨t.st=10 then .b1 t.i t.gen else if t.st=11∨(t.st=12∧t.rt.swapped=false) then .b2 t.i t.gen else if t.st=15∧t.e=0 then .ga t.i t.gen else .no
theorem Qq {t:Qe} (h:(0≤t.st∧t.st≤4)∨(7≤t.st∧t.st≤9)∨t.st=13∨t.st=14∨(t.st=12∧t.rt.swapped=true)∨(t.st=15∧t.e≠0)):Z0 t=.no:=by
 unfold Z0
 rw [if_neg (by omega),if_neg (by rintro (a|⟨a,b⟩);omega;rcases h with h|h|h|h|h|h<;>first|omega|(rw [h.2] at b;cases b)),if_neg (by omega)]
theorem JI {t:Qe} (h:t.st=5∨t.st=6∨t.st=10):Z0 t=.b1 t.i t.gen:=if_pos h
theorem Yl {t:Qe} (h:t.st=11∨(t.st=12∧t.rt.swapped=false)):Z0 t=.b2 t.i t.gen:=by unfold Z0;rw [if_neg (by omega),if_pos h]
theorem Q0A {t:Qe} (h:t.st=15∧t.e=0):Z0 t=.ga t.i t.gen:=by unfold Z0;rw [if_neg (by omega),if_neg (by omega),if_pos h]
theorem Qm.YB (h:Qm c n M) {a kind own:Int} (h0:0≤a) (h1:a<c.sl) (hf:Jy (Q7 M (c.slot a)) kind own=true):(SL c M a).right∧Q7 M (c.slot a)=(SL c M a).enc∧JZ (SL c M a) kind own=true:=by
 have e:Q5 c a=c.slot a:=by unfold Q5;rw [if_pos ⟨h0,h1⟩]
 obtain ⟨a1,a2,a3⟩:=h.at a
 rw [e] at a2 a3
 refine ⟨a1,a2, ?_⟩
 unfold Jy at hf;rw [a3] at hf;exact hf
theorem Q8s (h:Qm c n M) (hn:n≤1000000000) {t t':Qe} {good:Bool} (hl:t.live c w) (hS:TkS c M good t t' M'):
 StM c (n+1) M M'∧(Q9F c n M→Tr c w M M' (Z0 t) (Z0 t'))∧(t'.st≠15→t'.live c w)∧(t'.st=15→(t'.e=0→0≤t'.i∧t'.i<c.sl)∧(t'.e=0∨t'.e=3∨t'.e=5∨t'.e=6)):=by
 have Q:∀r,Tr c w M M r r:=fun r=>.quiet rfl rfl
 obtain ⟨s0,s1,tw,hlk,hfd,hwd,hi,hrt⟩:=hl
 have E:∀f g:Qi,t.look=some f→t.look=some g→f=g:=fun f g a b=>by rw [a] at b;exact Option.some.inj b
 cases hS with
 |shut h1 h2=>exact ⟨h.stays,fun _=>by rw [Qq (by omega),Qq (t:=t.end_ 5) (by simp [Qe.end_])];exact Q _,fun e=>absurd rfl e,fun _=>by simp [Qe.end_]⟩
 |begins h1 h2=>
  refine ⟨h.stays,fun _=>by rw [Qq (by omega),Qq (by simp [Qe.search])];exact Q _,fun _=> ?_,fun e=>by simp [Qe.search] at e⟩
  have:=h.cf.2.1
  exact ⟨by simp [Qe.search],by simp [Qe.search],tw,fun _=>⟨_,rfl,rfl,by simp [QE],by simp [QE];omega,by simp [QE];omega,rfl⟩,by simp [Qe.search],by simp [Qe.search],by simp [Qe.search],by simp [Qe.search]⟩
 |@hit f h1 h2 h3 h4=>
  obtain ⟨f',e1,e2,e3,e4,e5,e6⟩:=hlk (by omega)
  cases E _ _ e1 h2
  obtain ⟨a1,a2,a3⟩:=h.YB e3 h3 h4
  refine ⟨h.stays,fun _=>by rw [Qq (by omega),Qq (by simp only;omega)];exact Q _,fun _=> ?_,fun e=>by simp only at e;omega⟩
  refine ⟨by simp only;omega,by simp only;omega,tw,by simp only;omega,fun _=>⟨_,SL c M f.at_,rfl,rfl,e3,h3,a1,a2,a3, ?_⟩,by simp only;omega,by simp only;omega,by simp only;omega⟩
  simp only [e6];congr 1;omega
 |@miss f h1 h2 h3 h4=>
  obtain ⟨f',e1,e2,e3,e4,e5,e6⟩:=hlk (by omega)
  cases E _ _ e1 h2
  refine ⟨h.stays,fun _=> ?_,fun _=>⟨s0,s1,tw,fun _=>⟨_,rfl,e2,by simp only;omega,by simp only;omega,fun _=>h3,e6⟩,by simp only;omega,by simp only;omega,hi,by simp only;omega⟩,by simp only;omega⟩
  have:Z0 {t with look:=some {f with at_:=f.at_+1}}=Z0 t:=rfl
  rw [this];exact Q _
 |@last1 f h1 h2 h3 h4=>
  refine ⟨h.stays,fun _=>by rw [Qq (by omega),Qq (by simp [Qe.search])];exact Q _,fun _=> ?_,fun e=>by simp [Qe.search] at e⟩
  have:=h.cf.2.1
  exact ⟨by simp [Qe.search],by simp [Qe.search],tw,fun _=>⟨_,rfl,rfl,by simp [QE],by simp [QE];omega,by simp [QE];omega,rfl⟩,by simp [Qe.search],by simp [Qe.search],by simp [Qe.search],by simp [Qe.search]⟩
 |@last3 f h1 h2 h3 h4=>
  refine ⟨h.stays,fun _=>by rw [Qq (by omega),Qq (by simp [Qe.search])];exact Q _,fun _=> ?_,fun e=>by simp [Qe.search] at e⟩
  have:=h.cf.2.1
  exact ⟨by simp [Qe.search],by simp [Qe.search],tw,fun _=>⟨_,rfl,rfl,by simp [QE],by simp [QE];omega,by simp [QE];omega,rfl⟩,by simp [Qe.search],by simp [Qe.search],by simp [Qe.search],by simp [Qe.search]⟩
 |@last7 f h1 h2 h3 h4=>exact ⟨h.stays,fun _=>by rw [Qq (by omega),Qq (by simp [Qe.end_])];exact Q _,fun e=>absurd rfl e,fun _=>by simp [Qe.end_]⟩
 |@last5 f f' h1 h2=>
  have:=hi (by omega)
  refine ⟨h.stays,fun _=>by rw [JI (by omega),JI (by simp)];exact Q _,fun _=>⟨by simp,by simp,tw,by simp,by simp,by simp,fun _=>this,by simp⟩,by simp⟩
 |@pass f h1 h2 h3=>
  obtain ⟨f',e1,e2,e3,e4,e5,e6⟩:=hlk (by omega)
  cases E _ _ e1 h2
  refine ⟨h.stays,fun _=>by rw [JI (by omega),JI (by simp only;omega)];exact Q _,fun _=>⟨s0,s1,tw,fun _=>⟨_,rfl,e2,by simp only;omega,by simp only;omega,fun x=>absurd h1 x,e6⟩,by simp only;omega,by simp only;omega,hi,by simp only;omega⟩,by simp only;omega⟩
 |@move f h1 h2 h3 h4=>
  obtain ⟨f',e1,e2,e3,e4,e5,e6⟩:=hlk (by omega)
  cases E _ _ e1 h2
  obtain ⟨a1,a2,a3⟩:=h.YB e3 h3 h4
  have hi':=hi (by omega)
  refine ⟨h.stays,fun _=>by rw [JI (by omega),JI (by simp)];exact Q _,fun _=>⟨by simp,by simp,tw,by simp,fun _=>⟨_,SL c M f.at_,rfl,rfl,e3,h3,a1,a2,a3, ?_⟩,by simp,fun _=>hi',by simp⟩,by simp⟩
  simp only [e6,h1];rfl
 |@Ho f s u h1 h2 h3 h4 h5=>
  rw [tw] at h4
  obtain ⟨hin,e,hu,e2,st,el,eg⟩:=h.swap h3 h4 h5
  rw [e2]
  refine ⟨st,fun hlow=> ?_,fun _=>⟨by simp,by simp,tw,by simp,by simp,by simp,fun _=>hin,by simp⟩,by simp⟩
  rw [Qq (by omega),JI (by simp)]
  exact (KH h hlow e el eg h4 (by simp)).2
 |@leaseMove f s u h1 h2 h3 h4 h5=>
  rw [tw] at h4
  obtain ⟨hin,e,hu,e2,st,el,eg⟩:=h.swap h3 h4 h5
  rw [e2]
  have:=h.cf.2.1
  refine ⟨st,fun hlow=> ?_,fun _=>⟨by simp,by simp,tw,fun _=>⟨_,rfl,rfl,by simp [QE],by simp [QE];omega,by simp,rfl⟩,by simp,by simp,fun _=>hin,by simp⟩,by simp⟩
  rw [Qq (by omega),JI (by simp)]
  exact (KH h hlow e el eg h4 (by simp)).2
 |@again f h1 h2 h3=>
  obtain ⟨f',s,e1,e2,e3,e4,e5,e6,e7,e8⟩:=hfd (by omega)
  cases E _ _ e1 h2
  refine ⟨h.stays,fun _=>by rw [Qq (by omega),Qq (by simp only;omega)];exact Q _,fun _=>⟨by simp only;omega,by simp only;omega,tw,fun _=>⟨_,rfl,rfl,e3,Int.le_of_lt e4,fun _=>e4,e8⟩,by simp only;omega,by simp only;omega,by simp only;omega,by simp only;omega⟩,by simp only;omega⟩
 |@dial f s u h1 h2 h3 h4 h5=>
  obtain ⟨hin,e,hu,e2,st,el,eg⟩:=h.swap h3 h4 h5
  rw [e2]
  refine ⟨st,fun hlow=> ?_,fun _=>⟨by simp,by simp,tw,by simp,by simp,fun _=>⟨u,hu,rfl⟩,fun _=>hin,by simp⟩,by simp⟩
  rw [Qq (by omega),Qq (by simp)]
  exact Zh h e el eg (Xt h4 (by simp)) _
 |@moved f s u h1 h2 h3 h4 h5=>
  obtain ⟨f',s',e1,e2',e3,e4,e5,e6,e7,e8⟩:=hfd (by omega)
  cases E _ _ e1 h2
  obtain ⟨hin,e,hu,e2,st,el,eg⟩:=h.swap h3 h4 h5
  rw [e2]
  have hi':=hi (by omega)
  refine ⟨st,fun hlow=> ?_,fun _=>⟨by simp,by simp,tw,fun _=>⟨_,rfl, ?_, ?_, ?_,by simp, ?_⟩,by simp,by simp,fun _=>hi',by simp⟩,by simp⟩
  · rw [JI (by omega),JI (by simp)]
    exact Zh h e el eg (Xt h4 (by simp)) _
  · simp [Qi.go,e2']
  · simp [Qi.go,e2'];omega
  · simp [Qi.go,e2'];omega
  · simp [Qi.go,e2',e8,h1]
 |@unmoved f h1 h2=>
  obtain ⟨f',s',e1,e2',e3,e4,e5,e6,e7,e8⟩:=hfd (by omega)
  cases E _ _ e1 h2
  have hi':=hi (by omega)
  refine ⟨h.stays,fun _=>by rw [JI (by omega),JI (by simp)];exact Q _,fun _=>⟨by simp,by simp,tw,fun _=>⟨_,rfl, ?_, ?_, ?_,by simp, ?_⟩,by simp,by simp,fun _=>hi',by simp⟩,by simp⟩
  · simp [Qi.go,e2']
  · simp [Qi.go,e2'];omega
  · simp [Qi.go,e2'];omega
  · simp [Qi.go,e2',e8,h1]
 |up s u h1 h2 h3 h4 h5=>
  rw [tw] at h4
  obtain ⟨hin,e,hu,e2,st,el,eg⟩:=h.swap h3 h4 h5
  rw [e2]
  refine ⟨st,fun hlow=> ?_,fun _=>⟨by simp,by simp,tw,by simp,by simp,by simp,fun _=>hin,by simp⟩,by simp⟩
  rw [Qq (by omega),JI (by simp)]
  exact (KH h hlow e el eg h4 (by simp)).2
 |down s u h1 h2 h3 h4 h5=>
  obtain ⟨hin,e,hu,e2,st,el,eg⟩:=h.swap h3 h4 h5
  rw [e2]
  refine ⟨st,fun hlow=> ?_,fun e=>absurd rfl e,fun _=>by simp [Qe.end_]⟩
  rw [Qq (by omega),Qq (by simp [Qe.end_])]
  exact Zh h e el eg (Xt h4 (by simp)) _
 |undialed h1 h2=>exact ⟨h.stays,fun _=>by rw [Qq (by omega),Qq (by simp [Qe.end_])];exact Q _,fun e=>absurd rfl e,fun _=>by simp [Qe.end_]⟩
 |fine h1 h2=>
  have hi':=hi (by omega)
  refine ⟨h.stays,fun _=> ?_,fun e=>absurd rfl e,fun _=>⟨fun _=>hi',by simp [Qe.end_]⟩⟩
  rw [JI (by omega),Q0A (by simp [Qe.end_])]
  exact .fine (by unfold Jr;omega) rfl
 |late h1 h2=>
  have hi':=hi (by omega)
  refine ⟨h.stays,fun _=> ?_,fun _=>⟨by simp,by simp,tw,by simp,by simp,by simp,fun _=>hi',by simp⟩,by simp⟩
  rw [JI (by omega),Yl (by simp)]
  exact .late rfl
 |gives s h1 h2 h3 h4 h5=>
  have hi':=hi (by omega)
  obtain ⟨a1,a2,a3⟩:=h.at t.i
  rw [h2] at a3;cases a3
  refine ⟨h.stays,fun _=> ?_,fun _=>⟨by simp,by simp,tw,by simp,by simp,by simp,fun _=>hi',fun _=>⟨_,rfl,Yz h hi' a1 a2 ⟨h3,h4,h5⟩⟩⟩,by simp⟩
  rw [Yl (by omega),Yl (by simp [Qe.rt,Ji])]
  exact Q _
 |gone h1 h2=>
  refine ⟨h.stays,fun _=> ?_,fun e=>absurd rfl e,fun _=>by simp [Qe.end_]⟩
  rw [Yl (by omega),Qq (by simp [Qe.end_])]
  refine .gone (fun s e=> ?_) rfl
  obtain ⟨a1,a2,a3⟩:=h.at t.i
  refine h2 _ a3 ?_
  unfold LM lv at e
  split at e
  · simp only [Option.some.injEq,Prod.mk.injEq] at e
    exact ⟨by assumption,by rw [tw];exact e.1,e.2.1⟩
  · cases e
 |@goes r r' _ h1 h2 h3 h4=>
  obtain ⟨r0,f1,f2⟩:=hrt h1
  rw [h2] at f1;cases f1
  have hi':=hi (by omega)
  obtain ⟨st,b1,b2⟩:=KO h (by omega) f2 hi' h3
  refine ⟨st,fun hlow=> ?_,fun _=>⟨s0,s1,tw,by simp only;omega,by simp only;omega,by simp only;omega,hi,fun _=>⟨_,rfl,b1 h4⟩⟩,by simp only;omega⟩
  have er:t.rt=r:=by unfold Qe.rt;rw [h2];rfl
  rcases b2 with ⟨e1,e2,e3⟩|⟨e0,e1, -,e2,e3,e4⟩
  · have:Z0 {t with ret:=some r'}=Z0 t:=by unfold Z0;simp only [Qe.rt,h2,Option.getD_some,e1]
    rw [this];exact .quiet e2 e3
  · rw [Yl (.inr ⟨h1,by rw [er];exact e0⟩),Qq (t:={t with ret:=some r'}) (.inr (.inr (.inr (.inr (.inl ⟨h1,by simp [Qe.rt,e1]⟩)))))]
    refine .back (SL c M t.i).str ?_ e3 e4
    unfold LM lv;rw [if_pos e2.1,e2.2.1,e2.2.2,tw]
 |@went r r' _ h1 h2 h3 h4 h5=>
  obtain ⟨r0,f1,f2⟩:=hrt h1
  rw [h2] at f1;cases f1
  have hi':=hi (by omega)
  have er:t.rt=r:=by unfold Qe.rt;rw [h2];rfl
  obtain ⟨st,b1,b2⟩:=KO h (by omega) f2 hi' h3
  refine ⟨st,fun hlow=> ?_,fun e=>absurd rfl e,fun _=>by simp [Qe.end_]⟩
  rcases b2 with ⟨e1,e2,e3⟩|⟨e0,e1,e5, -⟩
  · rw [Qq (.inr (.inr (.inr (.inr (.inl ⟨h1,by rw [er,←e1];exact h5⟩))))),Qq (by simp [Qe.end_])];exact .quiet e2 e3
  · rw [h4] at e5;cases e5
 |@back r r' _ h1 h2 h3 h4 h5=>
  obtain ⟨r0,f1,f2⟩:=hrt h1
  rw [h2] at f1;cases f1
  have hi':=hi (by omega)
  have er:t.rt=r:=by unfold Qe.rt;rw [h2];rfl
  obtain ⟨st,b1,b2⟩:=KO h (by omega) f2 hi' h3
  refine ⟨st,fun hlow=> ?_,fun _=>⟨by simp,by simp,tw,by simp,by simp,by simp,fun _=>hi',by simp⟩,by simp⟩
  rcases b2 with ⟨e1,e2,e3⟩|⟨e0,e1, -⟩
  · rw [Yl (.inr ⟨h1,by rw [er,←e1];exact h5⟩),Yl (by simp)];exact .quiet e2 e3
  · rw [h5] at e1;cases e1
 |loads h1=>
  obtain ⟨a1,a2,a3⟩:=h.at t.i
  exact ⟨h.stays,fun _=>by rw [Qq (by omega),Qq (by simp)];exact Q _,fun _=>⟨by simp,by simp,tw,by simp,by simp,fun _=>⟨_,a1,a2⟩,by simp,by simp⟩,by simp⟩
 |none h1 h2=>exact ⟨h.stays,fun _=>by rw [Qq (by omega),Qq (by simp [Qe.end_])];exact Q _,fun e=>absurd rfl e,fun _=>by simp [Qe.end_]⟩
 |takes s u h1 h2 h3 h4=>
  rw [tw] at h3
  obtain ⟨hin,e,hu,e2,st,el,eg⟩:=h.swap h2 h3 h4
  rw [e2]
  have hr:=(h.at t.i).1
  rw [e] at hr
  by_cases hu3:u.st=3
  · simp only [if_pos hu3]
    refine ⟨st,fun hlow=> ?_,fun _=>⟨by simp,by simp,tw,by simp,by simp,by simp,fun _=>hin,by simp⟩,by simp⟩
    rw [Qq (by omega),JI (by simp)]
    exact (KH h hlow e el eg h3 (by simp [hu3])).2
  · simp only [if_neg hu3]
    refine ⟨st,fun hlow=> ?_,fun _=>⟨by simp,by simp,tw,by simp,by simp,fun _=>⟨u,hu,rfl⟩,fun _=>hin,by simp⟩,by simp⟩
    rw [Qq (by omega),Qq (by simp)]
    exact Zh h e el eg (Q92 hr h3 hu3) _
 |fails s u h1 h2 h3 h4=>exact ⟨h.stays,fun _=>by rw [Qq (by omega),Qq (by simp)];exact Q _,fun _=>⟨by simp,by simp,tw,by simp,by simp,by simp,by simp,by simp⟩,by simp⟩
end
end Go.Proofs.YtgjklfmnmljilaaGreatDoor
