/- A part of the proof. -/
import Derived.Test.YtgjklfmnmljilaaGreatDoorZR07
namespace Go.Proofs.YtgjklfmnmljilaaGreatDoor
set_option linter.unusedVariables false
set_option linter.unusedSimpArgs false
set_option linter.unusedSectionVars false
set_option linter.unnecessarySimpa false
set_option maxRecDepth 100000
set_option maxHeartbeats 8000000
section
inductive Tr (c:Q0) (w:Nat) (M M':List Int):UD→UD→Prop
 |quiet {r}:LM c M'=LM c M→GM c M'=GM c M→Tr c w M M' r r
 |force {r} (i:Int):Jz M→LM c M'=upL (LM c M) i none→GM c M'=GM c M→Tr c w M M' r r
 |gives {i g} (s:Int):LM c M i=some ((w:Int),g,s)→LM c M'=upL (LM c M) i none→GM c M'=GM c M→Tr c w M M' .no (.si i g)
 |back {i g} (s:Int):LM c M i=some ((w:Int),g,s)→LM c M'=upL (LM c M) i none→GM c M'=GM c M→Tr c w M M' (.b2 i g) .no
 |lease {i}:LM c M i=none→LM c M'=upL (LM c M) i (some ((w:Int),GM c M i+1,0))→GM c M'=upG (GM c M) i (GM c M i+1)→Tr c w M M' .no (.b1 i (GM c M i+1))
 |fine {i g}:¬Jz M→M'=M→Tr c w M M' (.b1 i g) (.ga i g)
 |late {i g}:M'=M→Tr c w M M' (.b1 i g) (.b2 i g)
 |gone {i g}:(∀s,LM c M i≠some ((w:Int),g,s))→M'=M→Tr c w M M' (.b2 i g) .no
 |strm {i g} {n:Nat} {o:Bool} (s s':Int):LM c M i=some ((w:Int),g,s)→n<8→s.toNat.testBit n= !o→(∀m,m<8→s'.toNat.testBit m=(s.toNat.testBit m ^^ decide (n=m)))→
   LM c M'=upL (LM c M) i (some ((w:Int),g,s'))→GM c M'=GM c M→Tr c w M M' .no (.de i g n o)
variable {c:Q0} {w:Nat} {n:Int} {M M':List Int}
structure StM (c:Q0) (n:Int) (M M':List Int):Prop where
 ok:Qj c n M'
 sh:Jz M→Jz M'
 vr:∀i,SL c M' i=SL c M i∨((SL c M' i).ver=((SL c M i).ver+1) % 32768∧(SL c M' i).gen≤(SL c M i).gen+1)
def Low (c:Q0) (n:Int) (M:List Int):Prop:=∀i,(SL c M i).ver≤n∧(SL c M i).gen≤n
def Q9k (c:Q0) (n:Int) (M:List Int):Prop:=Low c n M∧n≤4000
theorem Qj.stays (h:Qj c n M):StM c (n+1) M M:=⟨h.mono Lb,id,fun _=>.inl rfl⟩
theorem Qj.stepS (h:Qj c n M) {i:Int} (hi:0≤i∧i<c.sl) {u:Q7} {d:Nat} {own more:Int} (hn:Qk (SL c M i) d own more=some u):StM c (n+1) M (YO c M i u):=by
 have hr:=(h.at i).1
 have hu:=JF hr hn
 refine ⟨(h.putS hi hu).mono Lb,fun e=>by rw [h.Q4g hi];exact e,fun j=> ?_⟩
 rw [h.Kc hi hu]
 split
 · rename_i e;subst e;right;exact ⟨Q4D hn,ver_le hr hn⟩
 · left;rfl
theorem Qj.Vr (h:Qj c n M) {j v:Int} (h0:0≤j) (h1:j<3+2*c.wo) (hq:j=1→∃L,Ln L∧v=(wd L:Int)∧∀x∈L,x<c.wo) (he:j=2→0≤v∧v≤n+1) (hp:3≤j→j<3+c.wo→0≤v∧v≤n+2)
 (hg:3+c.wo≤j→ -1≤v∧v≤16) (hz:j=0→Jz M→v=2):StM c (n+1) M (M.set j.toNat v):=by
 refine ⟨(h.mono (n':=n+1) Lb).set h0 h1 hq he (fun a b=>by have:=hp a b;omega) hg,fun e=> ?_,fun i=>.inl (h.Y0 h0 h1 i)⟩
 unfold Jz at*
 have:=h.len;have:=h.cf.2.1
 rw [ZF h0 (by unfold Q0.cells at*;omega)]
 split
 · rename_i e0;exact hz e0.symm e
 · exact e
theorem trL (h:Qj c n M) {j v:Int} (h0:0≤j) (h1:j<3+2*c.wo) (r:UD):Tr c w M (M.set j.toNat v) r r:=.quiet (h.Q7E h0 h1) (h.Q7J h0 h1)
theorem Ht (h:Qj c n M) (hn:n≤1000000000):VU M 2 1=M.set (2:Int).toNat (Q6 M 2+1):=by
 have hin:isIn M 2=true:=Jf Lb (by have:=h.len;have:=h.cf.1;have:=h.cf.2.1;unfold Q0.cells at*;omega)
 have:=h.ep
 have e:Q6 M 2=M.getD (2:Int).toNat 0:=by unfold Q6;rw [if_pos hin]
 unfold VU
 rw [if_pos hin,e]
 rw [e] at this
 congr 1
 unfold Go.RowKit.wrap64;omega
theorem Qj.swap (h:Qj c n M) {i word:Int} {s u:Q7} {d:Nat} {own more:Int} (hd:dec word=some s) (hn:Qk s d own more=some u) (hc:Qx M (Q5 c i) word=true):
 (0≤i∧i<c.sl)∧SL c M i=s∧u.right∧QI M (Q5 c i) word u.enc=YO c M i u∧StM c (n+1) M (YO c M i u)∧LM c (YO c M i u)=upL (LM c M) i (lv u)∧GM c (YO c M i u)=upG (GM c M) i u.gen:=by
 obtain ⟨hi,he,hd',hl⟩:=h.cas (v:=u.enc) hc
 have e:SL c M i=s:=by rw [hd] at hd';exact (Option.some.inj hd').symm
 have hr:=(h.at i).1
 have hu:u.right:=by rw [e] at hr;exact JF hr hn
 exact ⟨hi,e,hu,hl,h.stepS hi (by rw [e];exact hn),h.Q9l hi hu,h.Q9n hi hu⟩
theorem ZN (h:Qj c n M) {i:Int} {s u:Q7} (e:SL c M i=s) (el:LM c M'=upL (LM c M) i (lv u)) (eg:GM c M'=upG (GM c M) i u.gen) (hq:lv u=lv s∧u.gen=s.gen) (r:UD):Tr c w M M' r r:=by
 refine .quiet ?_ ?_
 · rw [el,hq.1,←e];exact Eh (LM c M) i
 · rw [eg,hq.2,←e];exact WS (GM c M) i
theorem KL (h:Qj c n M) (hl:Q9k c n M) {i:Int} {s u:Q7} {d:Nat} {more:Int} (e:SL c M i=s) (el:LM c M'=upL (LM c M) i (lv u)) (eg:GM c M'=upG (GM c M) i u.gen) (hx:Qk s d w more=some u) (hd:d=1∨d=3∨(d=16∧u.st=3)):
 u.st=3∧Tr c w M M' .no (.b1 i u.gen):=by
 have hr:=(h.at i).1
 rw [e] at hr
 obtain ⟨a1,a2,a3,a4,a5⟩:=Q2o hr hx hd (by have:=(hl.1 i).2;have:=hl.2;rw [e] at*;omega)
 have e1:GM c M i=s.gen:=by unfold GM;rw [e]
 refine ⟨a2, ?_⟩
 rw [a5,←e1]
 refine .lease ?_ ?_ ?_
 · show lv (SL c M i)=none
   unfold lv;rw [e,if_neg a1]
 · rw [el];congr 1;unfold lv;rw [if_pos a2,a3,a4,a5,e1]
 · rw [eg,a5,e1]
theorem KO (h:Qj c n M) (hn:n≤1000000000) {r r':J2} {i:Int} {P:Q7→Prop} (hl:Yg c r i P) (hi:0≤i∧i<c.sl) (hS:RtS M r r' M'):
 StM c (n+1) M M'∧(r'.done=false→Yg c r' i P)∧
 ((r'.swapped=r.swapped∧LM c M'=LM c M∧GM c M'=GM c M)∨(r.swapped=false∧r'.swapped=true∧r'.done=false∧P (SL c M i)∧LM c M'=upL (LM c M) i none∧GM c M'=GM c M)):=by
 obtain ⟨⟨s,hs,hw,hp⟩,hnd,hdn,hsw,hcl⟩:=hl
 have hdw:dec r.word=some s:=by rw [hw];exact QF hs
 cases hS with
 |lost h1 h2=>exact ⟨h.stays,fun e=>by simp [J2.fin] at e,.inl ⟨rfl,rfl,rfl⟩⟩
 |swap s' u h1 h2 h3 h4=>
  rw [hdw] at h2;cases h2
  rw [hcl] at h4 ⊢
  obtain ⟨-,e,hu,e2,st,el,eg⟩:=h.swap hdw h3 h4
  obtain ⟨a1,a2, -⟩:=Q0O h3
  rw [e2]
  refine ⟨st,fun _=>⟨⟨u,hu,rfl,fun e=>by simp at e⟩,Lc,hdn,Lc,rfl⟩,.inr ⟨by rw [hsw,h1];simp,rfl,hdn,by rw [e];exact hp h1, ?_, ?_⟩⟩
  · rw [el];congr 1;unfold lv;rw [if_neg Lb]
  · rw [eg,a2,←e];exact WS (GM c M) i
 |look h1=>exact ⟨h.stays,fun _=>⟨⟨s,hs,hw,fun e=>by simp at e⟩,Lc,hdn,by rw [hsw,h1];simp,hcl⟩,.inl ⟨rfl,rfl,rfl⟩⟩
 |stale h1 h2=>exact ⟨h.stays,fun _=>⟨⟨s,hs,hw,fun e=>by simp at e⟩,Lc,hdn,by rw [hsw,h1];simp,hcl⟩,.inl ⟨rfl,rfl,rfl⟩⟩
 |age s' u h1 h2 h3 h4=>
  rw [hdw] at h2;cases h2
  rw [hcl] at h4 ⊢
  obtain ⟨-,e,hu,e2,st,el,eg⟩:=h.swap hdw h3 h4
  have hq:=XF h3 Lc
  rw [e2]
  refine ⟨st,fun _=>⟨⟨s,hs,hw,fun e=>by simp at e⟩,Lc,hdn,by rw [hsw,h1];simp,rfl⟩,.inl ⟨rfl, ?_, ?_⟩⟩
  · rw [el,hq.1,←e];exact Eh (LM c M) i
  · rw [eg,hq.2,←e];exact WS (GM c M) i
 |QO h1=>
  have:=h.ep;have:=h.cf.1
  rw [Ht h hn]
  exact ⟨h.Vr Lb Lb Lb (fun _=>Lb) Lb Lb Lb,fun e=>by simp [J2.fin] at e,.inl ⟨rfl,h.Q7E Lb Lb,h.Q7J Lb Lb⟩⟩
theorem YC (h:Qj c n M) {i word:Int} {s:Q7} {P:Q7→Prop} (hi:0≤i∧i<c.sl) (hs:s.right) (hw:word=s.enc) (hp:P s):Yg c (Jb c i word) i P:=
 ⟨⟨s,hs,hw,fun _=>hp⟩,by simp [Jb],rfl,rfl,rfl⟩
def Zj (t:Qd):UD:=
 if t.st=5∨t.st=6∨t.st=10 then .b1 t.i t.gen else if t.st=11∨(t.st=12∧t.rt.swapped=false) then .b2 t.i t.gen else if t.st=15∧t.e=0 then .ga t.i t.gen else .no
theorem Qt {t:Qd} (h:(0≤t.st∧t.st≤4)∨(7≤t.st∧t.st≤9)∨t.st=13∨t.st=14∨(t.st=12∧t.rt.swapped=true)∨(t.st=15∧t.e≠0)):Zj t=.no:=by
 unfold Zj
 rw [if_neg Lb,if_neg (by rintro (a|⟨a,b⟩);omega;rcases h with h|h|h|h|h|h<;>first|omega|(rw [h.2] at b;cases b)),if_neg Lb]
theorem JN {t:Qd} (h:t.st=5∨t.st=6∨t.st=10):Zj t=.b1 t.i t.gen:=if_pos h
theorem Yo {t:Qd} (h:t.st=11∨(t.st=12∧t.rt.swapped=false)):Zj t=.b2 t.i t.gen:=by unfold Zj;rw [if_neg Lb,if_pos h]
theorem Q0p {t:Qd} (h:t.st=15∧t.e=0):Zj t=.ga t.i t.gen:=by unfold Zj;rw [if_neg Lb,if_neg Lb,if_pos h]
theorem Qj.ZL (h:Qj c n M) {a kind own:Int} (h0:0≤a) (h1:a<c.sl) (hf:JC (Q6 M (c.slot a)) kind own=true):(SL c M a).right∧Q6 M (c.slot a)=(SL c M a).enc∧Jq (SL c M a) kind own=true:=by
 have e:Q5 c a=c.slot a:=by unfold Q5;rw [if_pos ⟨h0,h1⟩]
 obtain ⟨a1,a2,a3⟩:=h.at a
 rw [e] at a2 a3
 refine ⟨a1,a2, ?_⟩
 unfold JC at hf;rw [a3] at hf;exact hf
theorem Z07 {P:Prop} (h:P:=by
 refine ⟨h.stays,fun _=>by rw [Qt Lb,Qt (by simp [Qd.search])];exact Q _,fun _=> ?_,fun e=>by simp [Qd.search] at e⟩
 have:=h.cf.2.1
 exact ⟨by simp [Qd.search],by simp [Qd.search],tw,fun _=>⟨_,rfl,rfl,by simp [QE],by simp [QE];omega,by simp [QE];omega,rfl⟩,by simp [Qd.search],by simp [Qd.search],by simp [Qd.search],by simp [Qd.search]⟩):P:=h
theorem Z0K {P:Prop} (h:P:=by
 rw [tw] at h4
 obtain ⟨hin,e,hu,e2,st,el,eg⟩:=h.swap h3 h4 h5
 rw [e2]
 refine ⟨st,fun hlow=> ?_,fun _=>⟨Lc,Lc,tw,Lc,Lc,Lc,fun _=>hin,Lc⟩,Lc⟩
 rw [Qt Lb,JN Lc]
 exact (KL h hlow e el eg h4 Lc).2):P:=h
theorem Q89 (h:Qj c n M) (hn:n≤1000000000) {t t':Qd} {good:Bool} (hl:t.live c w) (hS:TkS c M good t t' M'):
 StM c (n+1) M M'∧(Q9k c n M→Tr c w M M' (Zj t) (Zj t'))∧(t'.st≠15→t'.live c w)∧(t'.st=15→(t'.e=0→0≤t'.i∧t'.i<c.sl)∧(t'.e=0∨t'.e=3∨t'.e=5∨t'.e=6)):=by
 have Q:∀r,Tr c w M M r r:=fun r=>.quiet rfl rfl
 obtain ⟨s0,s1,tw,hlk,hfd,hwd,hi,hrt⟩:=hl
 have E:∀f g:Qi,t.look=some f→t.look=some g→f=g:=fun f g a b=>by rw [a] at b;exact Option.some.inj b
 cases hS with
 |shut h1 h2=>exact ⟨h.stays,fun _=>by rw [Qt Lb,Qt (t:=t.end_ 5) (by simp [Qd.end_])];exact Q _,fun e=>absurd rfl e,fun _=>by simp [Qd.end_]⟩
 |begins h1 h2=>
  exact Z07
 |@hit f h1 h2 h3 h4=>
  obtain ⟨f',e1,e2,e3,e4,e5,e6⟩:=hlk Lb
  cases E _ _ e1 h2
  obtain ⟨a1,a2,a3⟩:=h.ZL e3 h3 h4
  refine ⟨h.stays,fun _=>by rw [Qt Lb,Qt Ld];exact Q _,fun _=> ?_,fun e=>by simp only at e;omega⟩
  refine ⟨Ld,Ld,tw,Ld,fun _=>⟨_,SL c M f.at_,rfl,rfl,e3,h3,a1,a2,a3, ?_⟩,Ld,Ld,Ld⟩
  simp only [e6];congr 1;omega
 |@miss f h1 h2 h3 h4=>
  obtain ⟨f',e1,e2,e3,e4,e5,e6⟩:=hlk Lb
  cases E _ _ e1 h2
  refine ⟨h.stays,fun _=> ?_,fun _=>⟨s0,s1,tw,fun _=>⟨_,rfl,e2,Ld,Ld,fun _=>h3,e6⟩,Ld,Ld,hi,Ld⟩,Ld⟩
  have:Zj {t with look:=some {f with at_:=f.at_+1}}=Zj t:=rfl
  rw [this];exact Q _
 |@last1 f h1 h2 h3 h4=>
  exact Z07
 |@last3 f h1 h2 h3 h4=>
  exact Z07
 |@last7 f h1 h2 h3 h4=>exact ⟨h.stays,fun _=>by rw [Qt Lb,Qt (by simp [Qd.end_])];exact Q _,fun e=>absurd rfl e,fun _=>by simp [Qd.end_]⟩
 |@last5 f f' h1 h2=>
  have:=hi Lb
  refine ⟨h.stays,fun _=>by rw [JN Lb,JN Lc];exact Q _,fun _=>⟨Lc,Lc,tw,Lc,Lc,Lc,fun _=>this,Lc⟩,Lc⟩
 |@pass f h1 h2 h3=>
  obtain ⟨f',e1,e2,e3,e4,e5,e6⟩:=hlk Lb
  cases E _ _ e1 h2
  refine ⟨h.stays,fun _=>by rw [JN Lb,JN Ld];exact Q _,fun _=>⟨s0,s1,tw,fun _=>⟨_,rfl,e2,Ld,Ld,fun x=>absurd h1 x,e6⟩,Ld,Ld,hi,Ld⟩,Ld⟩
 |@move f h1 h2 h3 h4=>
  obtain ⟨f',e1,e2,e3,e4,e5,e6⟩:=hlk Lb
  cases E _ _ e1 h2
  obtain ⟨a1,a2,a3⟩:=h.ZL e3 h3 h4
  have hi':=hi Lb
  refine ⟨h.stays,fun _=>by rw [JN Lb,JN Lc];exact Q _,fun _=>⟨Lc,Lc,tw,Lc,fun _=>⟨_,SL c M f.at_,rfl,rfl,e3,h3,a1,a2,a3, ?_⟩,Lc,fun _=>hi',Lc⟩,Lc⟩
  simp only [e6,h1];rfl
 |@lease f s u h1 h2 h3 h4 h5=>
  exact Z0K
 |@leaseMove f s u h1 h2 h3 h4 h5=>
  rw [tw] at h4
  obtain ⟨hin,e,hu,e2,st,el,eg⟩:=h.swap h3 h4 h5
  rw [e2]
  have:=h.cf.2.1
  refine ⟨st,fun hlow=> ?_,fun _=>⟨Lc,Lc,tw,fun _=>⟨_,rfl,rfl,by simp [QE],by simp [QE];omega,Lc,rfl⟩,Lc,Lc,fun _=>hin,Lc⟩,Lc⟩
  rw [Qt Lb,JN Lc]
  exact (KL h hlow e el eg h4 Lc).2
 |@again f h1 h2 h3=>
  obtain ⟨f',s,e1,e2,e3,e4,e5,e6,e7,e8⟩:=hfd Lb
  cases E _ _ e1 h2
  refine ⟨h.stays,fun _=>by rw [Qt Lb,Qt Ld];exact Q _,fun _=>⟨Ld,Ld,tw,fun _=>⟨_,rfl,rfl,e3,Int.le_of_lt e4,fun _=>e4,e8⟩,Ld,Ld,Ld,Ld⟩,Ld⟩
 |@dial f s u h1 h2 h3 h4 h5=>
  obtain ⟨hin,e,hu,e2,st,el,eg⟩:=h.swap h3 h4 h5
  rw [e2]
  refine ⟨st,fun hlow=> ?_,fun _=>⟨Lc,Lc,tw,Lc,Lc,fun _=>⟨u,hu,rfl⟩,fun _=>hin,Lc⟩,Lc⟩
  rw [Qt Lb,Qt Lc]
  exact ZN h e el eg (XF h4 Lc) _
 |@moved f s u h1 h2 h3 h4 h5=>
  obtain ⟨f',s',e1,e2',e3,e4,e5,e6,e7,e8⟩:=hfd Lb
  cases E _ _ e1 h2
  obtain ⟨hin,e,hu,e2,st,el,eg⟩:=h.swap h3 h4 h5
  rw [e2]
  have hi':=hi Lb
  refine ⟨st,fun hlow=> ?_,fun _=>⟨Lc,Lc,tw,fun _=>⟨_,rfl, ?_, ?_, ?_,Lc, ?_⟩,Lc,Lc,fun _=>hi',Lc⟩,Lc⟩
  · rw [JN Lb,JN Lc]
    exact ZN h e el eg (XF h4 Lc) _
  · simp [Qi.go,e2']
  · simp [Qi.go,e2'];omega
  · simp [Qi.go,e2'];omega
  · simp [Qi.go,e2',e8,h1]
 |@unmoved f h1 h2=>
  obtain ⟨f',s',e1,e2',e3,e4,e5,e6,e7,e8⟩:=hfd Lb
  cases E _ _ e1 h2
  have hi':=hi Lb
  refine ⟨h.stays,fun _=>by rw [JN Lb,JN Lc];exact Q _,fun _=>⟨Lc,Lc,tw,fun _=>⟨_,rfl, ?_, ?_, ?_,Lc, ?_⟩,Lc,Lc,fun _=>hi',Lc⟩,Lc⟩
  · simp [Qi.go,e2']
  · simp [Qi.go,e2'];omega
  · simp [Qi.go,e2'];omega
  · simp [Qi.go,e2',e8,h1]
 |up s u h1 h2 h3 h4 h5=>
  exact Z0K
 |down s u h1 h2 h3 h4 h5=>
  obtain ⟨hin,e,hu,e2,st,el,eg⟩:=h.swap h3 h4 h5
  rw [e2]
  refine ⟨st,fun hlow=> ?_,fun e=>absurd rfl e,fun _=>by simp [Qd.end_]⟩
  rw [Qt Lb,Qt (by simp [Qd.end_])]
  exact ZN h e el eg (XF h4 Lc) _
 |undialed h1 h2=>exact ⟨h.stays,fun _=>by rw [Qt Lb,Qt (by simp [Qd.end_])];exact Q _,fun e=>absurd rfl e,fun _=>by simp [Qd.end_]⟩
 |fine h1 h2=>
  have hi':=hi Lb
  refine ⟨h.stays,fun _=> ?_,fun e=>absurd rfl e,fun _=>⟨fun _=>hi',by simp [Qd.end_]⟩⟩
  rw [JN Lb,Q0p (by simp [Qd.end_])]
  exact .fine (by unfold Jz;omega) rfl
 |late h1 h2=>
  have hi':=hi Lb
  refine ⟨h.stays,fun _=> ?_,fun _=>⟨Lc,Lc,tw,Lc,Lc,Lc,fun _=>hi',Lc⟩,Lc⟩
  rw [JN Lb,Yo Lc]
  exact .late rfl
 |gives s h1 h2 h3 h4 h5=>
  have hi':=hi Lb
  obtain ⟨a1,a2,a3⟩:=h.at t.i
  rw [h2] at a3;cases a3
  refine ⟨h.stays,fun _=> ?_,fun _=>⟨Lc,Lc,tw,Lc,Lc,Lc,fun _=>hi',fun _=>⟨_,rfl,YC h hi' a1 a2 ⟨h3,h4,h5⟩⟩⟩,Lc⟩
  rw [Yo Lb,Yo (by simp [Qd.rt,Jb])]
  exact Q _
 |gone h1 h2=>
  refine ⟨h.stays,fun _=> ?_,fun e=>absurd rfl e,fun _=>by simp [Qd.end_]⟩
  rw [Yo Lb,Qt (by simp [Qd.end_])]
  refine .gone (fun s e=> ?_) rfl
  obtain ⟨a1,a2,a3⟩:=h.at t.i
  refine h2 _ a3 ?_
  unfold LM lv at e
  split at e
  · simp only [Option.some.injEq,Prod.mk.injEq] at e
    exact ⟨by assumption,by rw [tw];exact e.1,e.2.1⟩
  · cases e
 |@goes r r' _ h1 h2 h3 h4=>
  obtain ⟨r0,f1,f2⟩:=hrt h1
  rw [h2] at f1;cases f1
  have hi':=hi Lb
  obtain ⟨st,b1,b2⟩:=KO h Lb f2 hi' h3
  refine ⟨st,fun hlow=> ?_,fun _=>⟨s0,s1,tw,Ld,Ld,Ld,hi,fun _=>⟨_,rfl,b1 h4⟩⟩,Ld⟩
  have er:t.rt=r:=by unfold Qd.rt;rw [h2];rfl
  rcases b2 with ⟨e1,e2,e3⟩|⟨e0,e1, -,e2,e3,e4⟩
  · have:Zj {t with ret:=some r'}=Zj t:=by unfold Zj;simp only [Qd.rt,h2,Option.getD_some,e1]
    rw [this];exact .quiet e2 e3
  · rw [Yo (.inr ⟨h1,by rw [er];exact e0⟩),Qt (t:={t with ret:=some r'}) (.inr (.inr (.inr (.inr (.inl ⟨h1,by simp [Qd.rt,e1]⟩)))))]
    refine .back (SL c M t.i).str ?_ e3 e4
    unfold LM lv;rw [if_pos e2.1,e2.2.1,e2.2.2,tw]
 |@went r r' _ h1 h2 h3 h4 h5=>
  obtain ⟨r0,f1,f2⟩:=hrt h1
  rw [h2] at f1;cases f1
  have hi':=hi Lb
  have er:t.rt=r:=by unfold Qd.rt;rw [h2];rfl
  obtain ⟨st,b1,b2⟩:=KO h Lb f2 hi' h3
  refine ⟨st,fun hlow=> ?_,fun e=>absurd rfl e,fun _=>by simp [Qd.end_]⟩
  rcases b2 with ⟨e1,e2,e3⟩|⟨e0,e1,e5, -⟩
  · rw [Qt (.inr (.inr (.inr (.inr (.inl ⟨h1,by rw [er,←e1];exact h5⟩))))),Qt (by simp [Qd.end_])];exact .quiet e2 e3
  · rw [h4] at e5;cases e5
 |@back r r' _ h1 h2 h3 h4 h5=>
  obtain ⟨r0,f1,f2⟩:=hrt h1
  rw [h2] at f1;cases f1
  have hi':=hi Lb
  have er:t.rt=r:=by unfold Qd.rt;rw [h2];rfl
  obtain ⟨st,b1,b2⟩:=KO h Lb f2 hi' h3
  refine ⟨st,fun hlow=> ?_,fun _=>⟨Lc,Lc,tw,Lc,Lc,Lc,fun _=>hi',Lc⟩,Lc⟩
  rcases b2 with ⟨e1,e2,e3⟩|⟨e0,e1, -⟩
  · rw [Yo (.inr ⟨h1,by rw [er,←e1];exact h5⟩),Yo Lc];exact .quiet e2 e3
  · rw [h5] at e1;cases e1
 |loads h1=>
  obtain ⟨a1,a2,a3⟩:=h.at t.i
  exact ⟨h.stays,fun _=>by rw [Qt Lb,Qt Lc];exact Q _,fun _=>⟨Lc,Lc,tw,Lc,Lc,fun _=>⟨_,a1,a2⟩,Lc,Lc⟩,Lc⟩
 |none h1 h2=>exact ⟨h.stays,fun _=>by rw [Qt Lb,Qt (by simp [Qd.end_])];exact Q _,fun e=>absurd rfl e,fun _=>by simp [Qd.end_]⟩
 |takes s u h1 h2 h3 h4=>
  rw [tw] at h3
  obtain ⟨hin,e,hu,e2,st,el,eg⟩:=h.swap h2 h3 h4
  rw [e2]
  have hr:=(h.at t.i).1
  rw [e] at hr
  by_cases hu3:u.st=3
  · simp only [if_pos hu3]
    refine ⟨st,fun hlow=> ?_,fun _=>⟨Lc,Lc,tw,Lc,Lc,Lc,fun _=>hin,Lc⟩,Lc⟩
    rw [Qt Lb,JN Lc]
    exact (KL h hlow e el eg h3 (by simp [hu3])).2
  · simp only [if_neg hu3]
    refine ⟨st,fun hlow=> ?_,fun _=>⟨Lc,Lc,tw,Lc,Lc,fun _=>⟨u,hu,rfl⟩,fun _=>hin,Lc⟩,Lc⟩
    rw [Qt Lb,Qt Lc]
    exact ZN h e el eg (Q8J hr h3 hu3) _
 |fails s u h1 h2 h3 h4=>exact ⟨h.stays,fun _=>by rw [Qt Lb,Qt Lc];exact Q _,fun _=>⟨Lc,Lc,tw,Lc,Lc,Lc,Lc,Lc⟩,Lc⟩
end
section
variable {c:Q0} {w:Nat} {n:Int} {M M':List Int}
inductive GvS (c:Q0) (M:List Int):QC→QC→List Int→Prop
 |forced {g}:g.st=0→GvS c M g ({g with closed:=Q6 M 0}.end_ 5) M
 |begins {g}:g.st=0→GvS c M g {g with closed:=Q6 M 0,st:=1} M
 |ends {g} (wo e:Int):g.st=1→e=2∨e=8→GvS c M g ({g with word:=wo}.end_ e) M
 |has {g} (s:Q7):g.st=1→0≤g.i→g.i<c.sl→dec (Q6 M (Q5 c g.i))=some s→s.st=3→s.own=g.w→s.gen=g.gen→s.str=0→GvS c M g {g with word:=Q6 M (Q5 c g.i),st:=2} M
 |rets {g} (s:Q7):g.st=1→0≤g.i→g.i<c.sl→dec (Q6 M (Q5 c g.i))=some s→s.st=3→s.own=g.w→s.gen=g.gen→GvS c M g {g with word:=Q6 M (Q5 c g.i),ret:=some (Jb c g.i (Q6 M (Q5 c g.i))),st:=3} M
 |given {g} (s u:Q7):g.st=2→dec g.word=some s→Qk s 4 g.w 0=some u→Qx M (Q5 c g.i) g.word=true→GvS c M g ({g with st:=1}.end_ 0) (QI M (Q5 c g.i) g.word u.enc)
 |lost {g}:g.st=2→(∀s u,dec g.word=some s→Qk s 4 g.w 0=some u→Qx M (Q5 c g.i) g.word=false)→GvS c M g {g with st:=1} M
 |goes {g r r' M'}:g.st=3→g.ret=some r→RtS M r r' M'→r'.done=false→GvS c M g {g with ret:=some r'} M'
 |went {g r r' M'}:g.st=3→g.ret=some r→RtS M r r' M'→r'.done=true→r'.swapped=true→GvS c M g ({g with ret:=some r'}.end_ 0) M'
 |back {g r r' M'}:g.st=3→g.ret=some r→RtS M r r' M'→r'.done=true→r'.swapped=false→GvS c M g {g with ret:=some r',st:=1} M'
structure QC.live (c:Q0) (w:Nat) (g:QC):Prop where
 s0:0≤g.st
 s1:g.st≤3
 tw:g.w=w
 wd:g.st=2→(0≤g.i∧g.i<c.sl)∧∃s,Q7.right s∧g.word=s.enc∧s.st=3∧s.own=g.w∧s.gen=g.gen∧s.str=0
 rt:g.st=3→(0≤g.i∧g.i<c.sl)∧∃r,g.ret=some r∧Yg c r g.i fun s=>s.st=3∧s.own=g.w∧s.gen=g.gen
theorem Kw (c:Q0) (w:Nat) (g:QC) (M:List Int) (h:g.live c w):GvS c M g (Qv c g M).1 (Qv c g M).2:=by
 have hs:g.st=0∨g.st=1∨g.st=2∨g.st=3:=by have:=h.s0;have:=h.s1;omega
 obtain ⟨-, -,tw,hwd,hrt⟩:=h
 rcases hs with hs|hs|hs|hs
 · by_cases h0:Q6 M 0=2
   · simp [Qv,hs,h0];have:=GvS.forced (c:=c) (M:=M) hs;rwa [h0,hs] at this
   · simp [Qv,hs,h0];exact .begins hs
 · by_cases hc:Q5 c g.i<0
   · simp [Qv,hs,hc];exact GvS.ends (c:=c) (M:=M) g.word 2 hs (.inl rfl)
   · have hin:0≤g.i∧g.i<c.sl:=by
      by_cases hi:0≤g.i∧g.i<c.sl
      · exact hi
      · rw [JU g.i hi] at hc;omega
     cases hd:dec (Q6 M (Q5 c g.i)) with
     |none=>simp [Qv,hs,hc,hd];have:=GvS.ends (c:=c) (M:=M) (Q6 M (Q5 c g.i)) 2 hs (.inl rfl);simpa [hs] using this
     |some s=>
      by_cases hm:s.st=3∧s.own=g.w∧s.gen=g.gen
      · by_cases h8:s.str≠0∧g.discard=false
        · simp [Qv,hs,hc,hd,hm,h8];have:=GvS.ends (c:=c) (M:=M) (Q6 M (Q5 c g.i)) 8 hs (.inr rfl);simpa [hs,h8.2] using this
        · cases hb:(g.discard||s.br||decide (c.us≤s.us)||decide (g.closed≠0)) with
          |true=>
           have e:Qv c g M=({{g with word:=Q6 M (Q5 c g.i)} with ret:=some (Jb c g.i (Q6 M (Q5 c g.i))),st:=3},M):=by
            unfold Qv
            rw [if_neg Lb,if_pos hs,if_neg hc]
            simp only [hd]
            rw [if_pos hm,if_neg h8]
            simp only [hb,if_true]
           rw [e];exact .rets s hs hin.1 hin.2 hd hm.1 hm.2.1 hm.2.2
          |false=>
           have e:Qv c g M=({{g with word:=Q6 M (Q5 c g.i)} with st:=2},M):=by
            unfold Qv
            rw [if_neg Lb,if_pos hs,if_neg hc]
            simp only [hd]
            rw [if_pos hm,if_neg h8]
            simp only [hb,Bool.false_eq_true,if_false]
           rw [e];refine .has s hs hin.1 hin.2 hd hm.1 hm.2.1 hm.2.2 ?_
           by_cases h9:s.str=0
           · exact h9
           · exfalso
             cases hdis:g.discard with
             |true=>rw [hdis] at hb;simp at hb
             |false=>exact h8 ⟨h9,hdis⟩
      · simp [Qv,hs,hc,hd,hm];have:=GvS.ends (c:=c) (M:=M) (Q6 M (Q5 c g.i)) 2 hs (.inl rfl);simpa [hs] using this
 · cases ha:J6 g.word 4 g.w 0 with
   |none=>simp [Qv,hs,ha];exact .lost hs fun s u hd hu=>(Zd ha hd hu).elim
   |some x=>
    obtain ⟨s,hds,hu,he⟩:=JZ ha
    obtain ⟨u,n⟩:=x
    simp only at hu he
    subst he
    cases hc:Qx M (Q5 c g.i) g.word with
    |true=>simp [Qv,hs,ha,hc];exact .given s u hs hds hu hc
    |false=>simp [Qv,hs,ha,hc];exact .lost hs fun _ _ _ _=>hc
 · obtain ⟨-,r,hr,hl⟩:=hrt hs
   have hS:=ZC r M hl.nd
   have er:g.rt=r:=by unfold QC.rt;rw [hr];rfl
   simp [Qv,hs,er]
   generalize Qn r M=x at*
   obtain ⟨r',M'⟩:=x
   simp only at hS ⊢
   cases hd:r'.done with
   |false=>simp only [Bool.false_eq_true,if_false];have:=GvS.goes (c:=c) hs hr hS hd;rwa [hs] at this
   |true=>
    cases hw:r'.swapped with
    |true=>simp only [if_true];have:=GvS.went (c:=c) hs hr hS hd hw;rwa [hs] at this
    |false=>simp only [Bool.false_eq_true,if_false,if_true];exact .back hs hr hS hd hw
def Y3 (g:QC):UD:=if (g.st=3∧g.rt.swapped=true)∨(g.st=4∧g.e=0) then .si g.i g.gen else .no
theorem Jt {g:QC} (h:(0≤g.st∧g.st≤2)∨(g.st=3∧g.rt.swapped=false)∨(g.st=4∧g.e≠0)):Y3 g=.no:=by
 unfold Y3
 rw [if_neg]
 rintro (⟨a,b⟩|⟨a,b⟩)
 · rcases h with h|⟨-,h⟩|h
   · omega
   · rw [b] at h;cases h
   · omega
 · omega
theorem Q1h {g:QC} (h:g.st=4∧g.e=0):Y3 g=.si g.i g.gen:=if_pos (.inr h)
theorem Q92 (h:Qj c n M) (hn:n≤1000000000) {g g':QC} (hl:g.live c w) (hS:GvS c M g g' M'):
 StM c (n+1) M M'∧Tr c w M M' (Y3 g) (Y3 g')∧g'.i=g.i∧g'.gen=g.gen∧(g'.st≠4→g'.live c w):=by
 have Q:∀r,Tr c w M M r r:=fun r=>.quiet rfl rfl
 obtain ⟨s0,s1,tw,hwd,hrt⟩:=hl
 cases hS with
 |forced h1=>exact ⟨h.stays,by rw [Jt Lb,Jt (by simp [QC.end_])];exact Q _,rfl,rfl,fun e=>absurd rfl e⟩
 |begins h1=>exact ⟨h.stays,by rw [Jt Lb,Jt Lc];exact Q _,rfl,rfl,fun _=>⟨Lc,Lc,tw,Lc,Lc⟩⟩
 |ends wo e h1 h2=>exact ⟨h.stays,by rw [Jt Lb,Jt (by simp [QC.end_];omega)];exact Q _,rfl,rfl,fun e=>absurd rfl e⟩
 |has s h1 i0 i1 h2 h3 h4 h5 h6=>
  obtain ⟨a1,a2,a3⟩:=h.at g.i
  rw [h2] at a3;cases a3
  exact ⟨h.stays,by rw [Jt Lb,Jt Lc];exact Q _,rfl,rfl,fun _=>⟨Lc,Lc,tw,fun _=>⟨⟨i0,i1⟩,_,a1,a2,h3,h4,h5,h6⟩,Lc⟩⟩
 |rets s h1 i0 i1 h2 h3 h4 h5=>
  obtain ⟨a1,a2,a3⟩:=h.at g.i
  rw [h2] at a3;cases a3
  exact ⟨h.stays,by rw [Jt Lb,Jt (by simp [QC.rt,Jb])];exact Q _,rfl,rfl,fun _=>⟨Lc,Lc,tw,Lc,fun _=>⟨⟨i0,i1⟩,_,rfl,YC h ⟨i0,i1⟩ a1 a2 ⟨h3,h4,h5⟩⟩⟩⟩
 |given s u h1 h2 h3 h4=>
  obtain ⟨-,s',b1,b2,b3,b4,b5⟩:=hwd h1
  rw [b2,QF b1] at h2;cases h2
  rw [b2] at h4
  obtain ⟨hin,e,hu,e2,st,el,eg⟩:=h.swap (QF b1) h3 h4
  rw [b2,e2]
  refine ⟨st, ?_,rfl,rfl,fun e=>absurd rfl e⟩
  rw [Jt Lb,Q1h (by simp [QC.end_])]
  show Tr c w M _ .no (.si g.i g.gen)
  obtain ⟨c1,c2⟩:=Q4C h3
  refine .gives s.str ?_ ?_ ?_
  · unfold LM lv;rw [e,if_pos b3,b4,b5.1,tw]
  · rw [el,c1]
  · rw [eg,c2,←e];exact WS (GM c M) g.i
 |lost h1 h2=>exact ⟨h.stays,by rw [Jt Lb,Jt Lc];exact Q _,rfl,rfl,fun _=>⟨Lc,Lc,tw,Lc,Lc⟩⟩
 |@goes r r' _ h1 h2 h3 h4=>
  obtain ⟨hi',r0,f1,f2⟩:=hrt h1
  rw [h2] at f1;cases f1
  obtain ⟨st,b1,b2⟩:=KO h Lb f2 hi' h3
  refine ⟨st, ?_,rfl,rfl,fun _=>⟨s0,s1,tw,Ld,fun _=>⟨hi',_,rfl,b1 h4⟩⟩⟩
  have er:g.rt=r:=by unfold QC.rt;rw [h2];rfl
  rcases b2 with ⟨e1,e2,e3⟩|⟨e0,e1, -,e2,e3,e4⟩
  · have:Y3 {g with ret:=some r'}=Y3 g:=by unfold Y3;simp only [QC.rt,h2,Option.getD_some,e1]
    rw [this];exact .quiet e2 e3
  · have r':Y3 {g with ret:=some r'}=.si g.i g.gen:=by unfold Y3;rw [if_pos (.inl ⟨h1,e1⟩)]
    rw [Jt (.inr (.inl ⟨h1,by rw [er];exact e0⟩)),r']
    refine .gives (SL c M g.i).str ?_ e3 e4
    unfold LM lv;rw [if_pos e2.1,e2.2.1,e2.2.2,tw]
 |@went r r' _ h1 h2 h3 h4 h5=>
  obtain ⟨hi',r0,f1,f2⟩:=hrt h1
  rw [h2] at f1;cases f1
  have er:g.rt=r:=by unfold QC.rt;rw [h2];rfl
  obtain ⟨st,b1,b2⟩:=KO h Lb f2 hi' h3
  refine ⟨st, ?_,rfl,rfl,fun e=>absurd rfl e⟩
  rcases b2 with ⟨e1,e2,e3⟩|⟨e0,e1,e5, -⟩
  · have x1:Y3 ({g with ret:=some r'}.end_ 0)=.si g.i g.gen:=by unfold Y3;rw [if_pos (.inr ⟨rfl,rfl⟩)];rfl
    have x2:Y3 g=.si g.i g.gen:=by unfold Y3;rw [if_pos (.inl ⟨h1,by rw [er,←e1];exact h5⟩)]
    rw [x1,x2];exact .quiet e2 e3
  · rw [h4] at e5;cases e5
 |@back r r' _ h1 h2 h3 h4 h5=>
  obtain ⟨hi',r0,f1,f2⟩:=hrt h1
  rw [h2] at f1;cases f1
  have er:g.rt=r:=by unfold QC.rt;rw [h2];rfl
  obtain ⟨st,b1,b2⟩:=KO h Lb f2 hi' h3
  refine ⟨st, ?_,rfl,rfl,fun _=>⟨Lc,Lc,tw,Lc,Lc⟩⟩
  rcases b2 with ⟨e1,e2,e3⟩|⟨e0,e1, -⟩
  · rw [Jt (.inr (.inl ⟨h1,by rw [er,←e1];exact h5⟩)),Jt Lc];exact .quiet e2 e3
  · rw [h5] at e1;cases e1
inductive SmS (c:Q0) (M:List Int):QN→QN→List Int→Prop
 |forced {g}:g.st=0→SmS c M g ({g with st:=1}.end_ 5) M
 |begins {g}:g.st=0→SmS c M g {g with st:=1} M
 |ends {g} (wo e:Int):g.st=1→e≠0→SmS c M g ({g with word:=wo}.end_ e) M
 |has {g} (s t:Q7):g.st=1→dec (Q6 M (Q5 c g.i))=some s→s.gen=g.gen→Qk s (if g.opens=true then 14 else 15) g.w (if g.opens then c.st else g.n)=some t→
   SmS c M g {g with word:=Q6 M (Q5 c g.i),next:=t.enc,stream:=VT s.str t.str,st:=2} M
 |swapped {g}:g.st=2→Qx M (Q5 c g.i) g.word=true→SmS c M g ({g with st:=1}.end_ 0) (QI M (Q5 c g.i) g.word g.next)
 |lost {g}:g.st=2→Qx M (Q5 c g.i) g.word=false→SmS c M g {g with st:=1} M
structure QN.live (c:Q0) (w:Nat) (g:QN):Prop where
 s0:0≤g.st
 s1:g.st≤2
 tw:g.w=w
 wd:g.st=2→∃s t more,Q7.right s∧g.word=s.enc∧s.gen=g.gen∧Qk s (if g.opens=true then 14 else 15) g.w more=some t∧g.next=t.enc∧g.stream=VT s.str t.str
theorem V9 (c:Q0) (w:Nat) (g:QN) (M:List Int) (h:g.live c w):SmS c M g (QA c g M).1 (QA c g M).2:=by
 have hs:g.st=0∨g.st=1∨g.st=2:=by have:=h.s0;have:=h.s1;omega
 have E:∀wo e:Int,e≠0→g.st=1→SmS c M g ({g with word:=wo}.end_ e) M:=fun wo e he h1=>.ends wo e h1 he
 rcases hs with hs|hs|hs
 · by_cases h0:Q6 M 0=2
   · simp [QA,hs,h0];exact .forced hs
   · simp [QA,hs,h0];exact .begins hs
 · by_cases hc:Q5 c g.i<0
   · simp [QA,hs,hc];exact E g.word 2 Lb hs
   · cases hd:dec (Q6 M (Q5 c g.i)) with
     |none=>simp [QA,hs,hc,hd];have:=E (Q6 M (Q5 c g.i)) 2 Lb hs;simpa [hs] using this
     |some s=>
      unfold QA
      rw [if_neg Lb,if_pos hs,if_neg hc]
      simp only [hd]
      by_cases hm:s.st=3∧s.own=g.w∧s.gen=g.gen
      · rw [if_pos hm]
        by_cases h9:g.opens=true∧s.br=true
        · rw [if_pos h9];exact E _ 9 Lb hs
        · rw [if_neg h9]
          cases hx:Qk s (if g.opens then 14 else 15) g.w (if g.opens then c.st else g.n) with
          |none=>simp only;exact E _ (if g.opens=true then 10 else 11) (by split<;>omega) hs
          |some t=>simp only;exact .has s t hs hd hm.2.2 hx
      · rw [if_neg hm];exact E _ 2 Lb hs
 · cases hc:Qx M (Q5 c g.i) g.word with
   |true=>simp [QA,hs,hc];exact .swapped hs hc
   |false=>simp [QA,hs,hc];exact .lost hs hc
def U6 (g:QN):UD:=if g.st=3∧g.e=0 then .de g.i g.gen g.stream.toNat g.opens else .no
theorem X9 {g:QN} (h:g.st≠3∨g.e≠0):U6 g=.no:=by unfold U6;rw [if_neg];omega
theorem Q0z {g:QN} (h:g.st=3∧g.e=0):U6 g=.de g.i g.gen g.stream.toNat g.opens:=if_pos h
theorem Q8c (h:Qj c n M) (hn:n≤1000000000) {g g':QN} (hl:g.live c w) (hS:SmS c M g g' M'):
 StM c (n+1) M M'∧Tr c w M M' (U6 g) (U6 g')∧(g'.i=g.i∧g'.gen=g.gen∧g'.opens=g.opens)∧(g'.st≠3→g'.live c w)∧(g'.st=3→g'.e=0→0≤g'.stream∧g'.stream<8):=by
 have Q:∀r,Tr c w M M r r:=fun r=>.quiet rfl rfl
 obtain ⟨s0,s1,tw,hwd⟩:=hl
 cases hS with
 |forced h1=>exact ⟨h.stays,by rw [X9 Lb,X9 (by simp [QN.end_])];exact Q _,⟨rfl,rfl,rfl⟩,fun e=>absurd rfl e,by simp [QN.end_]⟩
 |begins h1=>exact ⟨h.stays,by rw [X9 Lb,X9 Lc];exact Q _,⟨rfl,rfl,rfl⟩,fun _=>⟨Lc,Lc,tw,Lc⟩,Lc⟩
 |ends wo e h1 h2=>exact ⟨h.stays,by rw [X9 Lb,X9 (by simp [QN.end_];omega)];exact Q _,⟨rfl,rfl,rfl⟩,fun e=>absurd rfl e,fun _ e=>absurd e h2⟩
 |has s t h1 h2 h3 h4=>
  obtain ⟨a1,a2,a3⟩:=h.at g.i
  rw [h2] at a3;cases a3
  exact ⟨h.stays,by rw [X9 Lb,X9 Lc];exact Q _,⟨rfl,rfl,rfl⟩,fun _=>⟨Lc,Lc,tw,fun _=>⟨_,t,_,a1,a2,h3,h4,rfl,rfl⟩⟩,Lc⟩
 |swapped h1 h2=>
  obtain ⟨s,t,more,b1,b2,b3,b4,b5,b6⟩:=hwd h1
  rw [b2] at h2
  obtain ⟨hin,e,hu,e2,st,el,eg⟩:=h.swap (QF b1) b4 h2
  obtain ⟨c1,c2,c3,c4,c5,k,k8,kb,k1,k2⟩:=Q4B b1 b4
  rw [b2,b5,e2]
  refine ⟨st, ?_,⟨rfl,rfl,rfl⟩,fun e=>absurd rfl e,fun _ _=> ?_⟩
  · have hk:g.stream.toNat=k:=by rw [b6,kb];rfl
    rw [X9 Lb,Q0z (by simp [QN.end_])]
    show Tr c w M _ .no (.de g.i g.gen g.stream.toNat g.opens)
    rw [hk]
    refine .strm s.str t.str ?_ k8 k1 k2 ?_ ?_
    · unfold LM lv;rw [e,if_pos c1,c2,b3,tw]
    · rw [el];congr 1;unfold lv;rw [if_pos c3,c4,c2,c5,b3,tw]
    · rw [eg,c5,←e];exact WS (GM c M) g.i
  · show 0≤g.stream∧g.stream<8
    rw [b6,kb];omega
 |lost h1 h2=>exact ⟨h.stays,by rw [X9 Lb,X9 Lc];exact Q _,⟨rfl,rfl,rfl⟩,fun _=>⟨Lc,Lc,tw,Lc⟩,Lc⟩
structure QuS.live (c:Q0) (s:QuS):Prop where
 ok:s.ok c
 lw:∀x∈s.line,x<c.wo
 w0:0≤s.w
 w1:s.w<c.wo
 hd:s.nx=.pop→(0≤s.first∧s.first<c.wo)∧s.line≠[]
theorem DK {L:List Int} (h:L≠[]):Zc L∈L:=by cases L with
 |nil=>exact absurd rfl h
 |cons x l=>exact List.mem_cons_self
theorem q_tr (h:Qj c n M) {s:QuS} (hl:s.live c):StM c (n+1) M (Qo c s M).2∧(∀r,Tr c w M (Qo c s M).2 r r)∧(Qo c s M).1.live c:=by
 have Q:∀r,Tr c w M M r r:=fun r=>.quiet rfl rfl
 obtain ⟨⟨hLn,hpush,hdrop,htell⟩,hlw,w0,w1,hhd⟩:=hl
 have wo:=h.cf.1
 have hM:=h.ln
 have hMw:=h.qw
 have S1:∀L:List Int,Ln L→(∀x∈L,x<c.wo)→StM c (n+1) M (M.set 1 (wd L:Int))∧∀r,Tr c w M (M.set 1 (wd L:Int)) r r:=fun L h1 h2=>
  ⟨h.Vr (j:=1) Lb Lb (fun _=>⟨L,h1,rfl,h2⟩) Lb Lb Lb Lb,fun r=>trL h (j:=1) Lb Lb r⟩
 unfold Qo
 cases hn:s.nx with
 |come=>
  simp only
  by_cases hc:c.wa≤((mQ M).length:Int)∨s.w∈mQ M
  · rw [if_pos hc];exact ⟨h.stays,Q,⟨hM,Lc,Lc,Lc⟩,hMw,w0,w1,Lc⟩
  · rw [if_neg hc]
    exact ⟨h.stays,Q,⟨hM,fun _=>(EH hM).2 ⟨w0,by show s.w≤14;omega,fun e=>hc (.inr e)⟩,Lc,Lc⟩,hMw,w0,w1,Lc⟩
 |push=>
  simp only
  by_cases hc:mQ M=s.line
  · rw [if_pos hc]
    have hp:=hpush hn
    obtain ⟨a,b⟩:=S1 (s.line++[s.w]) hp fun x hx=>by
     rcases List.mem_append.1 hx with hx|hx
     · exact hlw x hx
     · rw [List.mem_singleton.1 hx];exact w1
    exact ⟨a,b,⟨hLn,Lc,Lc,Lc⟩,hlw,w0,w1,Lc⟩
  · rw [if_neg hc];exact ⟨h.stays,Q,⟨hLn,Lc,Lc,Lc⟩,hlw,w0,w1,Lc⟩
 |closed=>
  simp only
  by_cases hc:Q6 M 0=0
  · rw [if_pos hc];exact ⟨h.stays,Q,⟨hLn,Lc,Lc,Lc⟩,hlw,w0,w1,Lc⟩
  · rw [if_neg hc];exact ⟨h.stays,Q,⟨hLn,Lc,Lc,Lc⟩,hlw,w0,w1,Lc⟩
 |look=>
  simp only
  by_cases hc:s.w∈mQ M
  · rw [if_pos hc];exact ⟨h.stays,Q,⟨hM,Lc,fun _=>hc,Lc⟩,hMw,w0,w1,Lc⟩
  · rw [if_neg hc];exact ⟨h.stays,Q,⟨hM,Lc,Lc,Lc⟩,hMw,w0,w1,Lc⟩
 |drop=>
  simp only
  by_cases hc:mQ M=s.line
  · rw [if_pos hc]
    obtain ⟨a,b⟩:=S1 (rm s.line s.w) (hLn.rm s.w) fun x hx=>hlw x (List.mem_filter.1 hx).1
    exact ⟨a,b,⟨hLn,Lc,Lc,Lc⟩,hlw,w0,w1,Lc⟩
  · rw [if_neg hc];exact ⟨h.stays,Q,⟨hLn,Lc,Lc,Lc⟩,hlw,w0,w1,Lc⟩
 |head=>
  simp only
  by_cases hc:mQ M=[]
  · rw [if_pos hc];exact ⟨h.stays,Q,⟨hM,Lc,Lc,Lc⟩,hMw,w0,w1,Lc⟩
  · rw [if_neg hc]
    have hm:=DK hc
    exact ⟨h.stays,Q,⟨hM,Lc,Lc,Lc⟩,hMw,w0,w1,fun _=>⟨⟨(hM.1 _ hm).1,hMw _ hm⟩,hc⟩⟩
 |pop=>
  simp only
  by_cases hc:mQ M=s.line
  · rw [if_pos hc]
    obtain ⟨a,b⟩:=S1 s.line.tail hLn.tail fun x hx=>hlw x (List.mem_of_mem_tail hx)
    exact ⟨a,b,⟨hLn,Lc,Lc,fun _=>(hhd hn).1⟩,hlw,w0,w1,Lc⟩
  · rw [if_neg hc];exact ⟨h.stays,Q,⟨hLn,Lc,Lc,Lc⟩,hlw,w0,w1,Lc⟩
 |tell=>
  simp only
  obtain ⟨f0,f1⟩:=htell hn
  have:=h.len;have:=h.cf.2.1
  rw [Jr Lb (by unfold Q0.cells at*;omega)]
  exact ⟨h.Vr Lb Lb Lb Lb Lb Lb Lb,fun r=>trL h Lb Lb r,⟨hLn,Lc,Lc,Lc⟩,hlw,w0,w1,Lc⟩
 |done=>simp only;exact ⟨h.stays,Q,⟨hLn,by simp [hn],by simp [hn],by simp [hn]⟩,hlw,w0,w1,by simp [hn]⟩
theorem Gz {c:Q0} {M:List Int} {s:QuS} (h:s.nx=.head∨s.nx=.pop∨s.nx=.tell) (hd:¬(Qo c s M).1.nx.isDone=true):(Qo c s M).1.nx=.head∨(Qo c s M).1.nx=.pop∨(Qo c s M).1.nx=.tell:=by
 unfold Qo at hd ⊢
 rcases h with h|h|h<;>rw [h] at hd ⊢ <;>simp only at hd ⊢
 · by_cases h2:mQ M=[]
   · rw [if_pos h2] at hd;simp [QSt.isDone] at hd
   · rw [if_neg h2];exact .inr (.inl rfl)
 · split
   · exact .inr (.inr rfl)
   · exact .inl rfl
 · simp
end
end Go.Proofs.YtgjklfmnmljilaaGreatDoor
