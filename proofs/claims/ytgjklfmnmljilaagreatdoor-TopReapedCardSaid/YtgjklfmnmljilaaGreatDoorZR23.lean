/- A part of the proof. -/
import Derived.Test.YtgjklfmnmljilaaGreatDoorZR22
namespace Go.Proofs.YtgjklfmnmljilaaGreatDoor
set_option linter.unusedVariables false
set_option linter.unusedSimpArgs false
set_option linter.unusedSectionVars false
set_option linter.unnecessarySimpa false
set_option maxRecDepth 100000
set_option maxHeartbeats 8000000
section
open Go.RowKit Go.Shelf Go.Lib
attribute [local go_sem] Oper.semAt_some
def KE (o:Option Q7):Value:=match o with|some u=>.tuple #[u.val,.int .i64 u.enc,.bool true]|none=>.tuple #[XA.val,.int .i64 0,.bool false]
theorem Vw (c:Q0) (t:Qd) (M:List Int) (i:Int) (s:Q7) (d:Nat) (hs:s.right):X3 c t M i s.enc d=match Qk s d t.w 0 with|some u=>(if Qx M (Q5 c i) s.enc=true then ({t with i:=i,word:=u.enc,gen:=u.gen},QI M (Q5 c i) s.enc u.enc,true) else (t,M,false))|none=>(t,M,false):=by
 unfold X3
 rw [XK hs]
 cases Qk s d t.w 0<;>rfl
section
variable {S0:List Nat} {w0 w:World} {A C D:Th} {p pm qm ql:Nat} {pl pr:Option Nat} {wo sl sst wa us tw ts ti tword tgen te:Int} {tp:Bool} {M:List Int} {n:Int} {s:Q7} {d:Nat}
theorem U1 {L:List Th} (B0:Bag S0 w0 (tK p pl pr wo sl sst wa us tw ts ti tword tgen tp te::A::C::D::tF::L) w) (hs:s.right) (hd:d<18) (o0:0≤tw) (o1:tw≤15):
 Calls Tryz.prog 256 #[.pointer (some ⟨p,0,none⟩),.int .i64 s.enc,.int .i64 (d:Int)] w fun en w'=>en=.returned (KE (Qk s d tw 0))∧Bag S0 w0 (tK p pl pr wo sl sst wa us tw ts ti tword tgen tp te::A::C::D::tF::L) w':=by
 have HD:=hid fun w' hg=>Ji w' s hs hg
 have HN:=hid fun w' hg=>Yu w' s d tw 0 hs hd o0 o1 hg
 have HE:=hid fun u w' hu hg=>XJ w' u (JF hs (own:=tw) (d:=d) (more:=0) hu) hg
 have B:=B0.look [0,4]
 clear hs
 generalize s.enc=en at HD ⊢
 generalize Qk s d tw 0=co at HN HE ⊢
 obtain ⟨zst,zso,zstr,zbr,zmkd,zus,zgen,zep,zver⟩:=s
 dsimp only [Q7.val] at HD HN HE
 go_in
 go_wp2_with fail
 generalize hb:(World.heap _).size=b,hw:World.alloc _ _=w1
 replace B:=B.al hw hb
 clear hw hb
 refine (HD.out _ (B.g 1)).mono ?_
 rintro e w2 ⟨rfl,f⟩
 replace B:=B.tm f
 clear f
 go_wp2_with fail
 generalize hb:(World.heap _).size=b9,hw:World.alloc _ _=w3
 replace B:=B.al hw hb
 clear hw hb
 refine rga 3 B fun _ B=> ?_
 refine tj 1 ?_
 refine tj 2 ?_
 refine tj 3 ?_
 refine tj 4 ?_
 refine tj 5 ?_
 have q:=B.q 3
 refine tc 0 fun K hK=> ?_
 go_simp
 refine bk hK ?_
 clear hK K q
 try go_frame
 refine to fun K hK=> ?_
 go_simp
 refine (HN.out _ (B.g 1)).mono ?_
 rintro e w4 ⟨rfl,f⟩
 replace B:=B.tm f
 clear f
 go_wp2_with fail
 refine bk hK ?_
 clear hK K
 try go_frame
 repeat refine tb ?_
 cases co
 all_goals
  try simp only [Option.isSome_none,Option.getD_none,Option.isSome_some,Option.getD_some,XA]
  have q:=B.q 3;have u:=B.u 3
  refine to fun K hK=> ?_
  go_simp
  clear q u
  generalize hw:World.setCell _ _ _=w5
  replace B:=(((((((((B.s 3).s 3).s 3).s 3).s 3).s 3).s 3).s 3).s 3).e hw
  clear hw
  refine bk hK ?_
  clear hK K
  try go_frame
  refine tb ?_
  refine wpAnyH_done (by decide+kernel) ?_ _
 · have q:=B.q 2;have u:=B.u 2
   go_wp2_with fail
   clear q u
   generalize hw:World.setCell _ _ _=w6
   replace B:=(((((((((B.s 2).s 2).s 2).s 2).s 2).s 2).s 2).s 2).s 2).e hw
   have q:=B.q 2
   refine ⟨rfl,_, ?_,rfl,B0.tm B.fr⟩
   simp [results,Tryz.f256,go_sem,KE,XA,Q7.val,q]
 · have HEU:=hid fun w' hg=>HE.out _ w' rfl hg
   have q:=B.q 3
   go_wp2_with fail
   refine (HEU.out _ (B.g 1)).mono ?_
   rintro e w6 ⟨rfl,f⟩
   replace B:=B.tm f
   clear q f
   have q:=B.q 3;have r:=B.q 2;have u:=B.u 2
   go_wp2_with fail
   clear q r u
   generalize hw:World.setCell _ _ _=w7
   replace B:=(((((((((B.s 2).s 2).s 2).s 2).s 2).s 2).s 2).s 2).s 2).e hw
   have q:=B.q 2
   refine ⟨rfl,_, ?_,rfl,B0.tm B.fr⟩
   simp [results,Tryz.f256,go_sem,KE,Q7.val,q]
theorem Q39 {E:Th} (B:Bag S0 w0 [tK p pl pr wo sl sst wa us tw ts ti tword tgen tp te,tM pm qm M n,C,D,tF,E] w) (hn:n≤1000000000) (hs:s.right) (hd:d<18) (o0:0≤tw) (o1:tw≤15) (hc:Q0.fits ⟨wo,sl,sst,wa,us⟩) {i ti' tword' tgen':Int} {ok:Bool} {M':List Int} {l:Option Qi} {r:Option J2}
 (hx:X3 ⟨wo,sl,sst,wa,us⟩ ⟨tw,ts,l,ti,tword,tgen,tp,r,te⟩ M i s.enc d=(⟨tw,ts,l,ti',tword',tgen',tp,r,te⟩,M',ok)):
 Calls Tryz.prog 257 #[.pointer (some ⟨p,0,none⟩),.pointer (some ⟨pm,0,none⟩),.int .i64 i,.int .i64 s.enc,.int .i64 (d:Int)] w fun en w'=>en=.returned (.bool ok)∧
  ∃k,k≤n+1∧Bag S0 w0 [tK p pl pr wo sl sst wa us tw ts ti' tword' tgen' tp te,tM pm qm M' k,C,D,tF,E] w':=by
 rw [Vw _ _ _ _ _ _ hs] at hx
 have HAF:=hid (U1 B hs hd o0 o1)
 have HSL:=hid fun w'=>J9 w' ⟨wo,sl,sst,wa,us⟩ i hc
 have HC:=hid fun w' ue hm=>Uw w' pm qm M n (Q5 ⟨wo,sl,sst,wa,us⟩ i) s.enc ue hm hn
 dsimp only [Q0.val] at hx HSL
 generalize Q5 _ _=cell at HSL hx HC
 generalize s.enc=en at HAF hx HC ⊢
 generalize Qk s d tw 0=co at HAF hx
 clear hs hc B
 rcases co with _|u
 · cases hx
   simp only [KE,XA,Q7.val] at HAF
   go_in
   go_wp2_with fail
   refine HAF.out.mono ?_
   rintro e w1 ⟨rfl,B⟩
   go_wp2
   go_ret
   exact ⟨rfl,n,Lb,B.tm ((Fr.refl [] _).alloc _)⟩
 · replace HC:=hid fun w'=>HC.out w' u.enc
   simp only [KE,Q7.val] at HAF
   dsimp only at hx
   generalize u.enc=ue at HAF hx HC
   obtain ⟨ust,uso,ustr,ubr,umkd,uus,ugen,uep,uver⟩:=u
   dsimp only at HAF hx
   obtain ⟨cb,hcb⟩:∃cb,Qx M cell en=cb:=⟨_,rfl⟩
   rw [hcb] at hx HC
   have hcl:cb=false→QI M cell en ue=M:=fun h=>K8 (hcb.trans h)
   clear hcb
   cases cb
   · rw [hcl rfl] at HC
     rw [if_neg Lc] at hx
     cases hx
     clear hcl
     go_in
     go_wp2_with fail
     refine HAF.out.mono ?_
     rintro e w1 ⟨rfl,B⟩
     have q:=B.qa 0
     go_wp2_with fail
     clear q
     generalize hb:(World.heap _).size=b,hw:World.alloc _ _=w2
     replace B:=B.al hw hb
     refine (HSL.out _).mono ?_
     rintro e w3 ⟨rfl,f⟩
     replace B:=B.tm f
     go_wp2_with fail
     refine (HC.out _ (B.g 1)).mono ?_
     rintro e w4 ⟨rfl,h,f⟩
     replace B:=B.M h f
     go_wp2
     go_ret
     exact ⟨rfl,_,Int.le_refl _,B.tk 6⟩
   · rw [if_pos rfl] at hx
     cases hx
     clear hcl
     go_in
     go_wp2_with fail
     refine HAF.out.mono ?_
     rintro e w1 ⟨rfl,B⟩
     have q:=B.qa 0
     go_wp2_with fail
     clear q
     generalize hb:(World.heap _).size=b,hw:World.alloc _ _=w2
     replace B:=B.al hw hb
     refine (HSL.out _).mono ?_
     rintro e w3 ⟨rfl,f⟩
     replace B:=B.tm f
     go_wp2_with fail
     refine (HC.out _ (B.g 1)).mono ?_
     rintro e w4 ⟨rfl,h,f⟩
     replace B:=B.M h f
     have q:=B.q 0;have u:=B.u 0;have r:=B.q 6
     go_wp2_with fail
     go_region
     clear q u r
     generalize hw:World.setCell _ _ _=w5
     replace B:=((((B.s 0).s 0).s 0).e hw).drew
     go_wp2
     go_ret
     exact ⟨rfl,_,Int.le_refl _,B.tk 6⟩
theorem Q38 (B:Bag S0 w0 [tK p pl pr wo sl sst wa us tw ts ti tword tgen tp te,tM pm qm M n,C,D,tF] w) (hn:n≤1000000000) (hs:s.right) (hd:d<18) (o0:0≤tw) (o1:tw≤15) (hc:Q0.fits ⟨wo,sl,sst,wa,us⟩) {i ti' tword' tgen':Int} {ok:Bool} {M':List Int} {l:Option Qi} {r:Option J2}
 (hx:X3 ⟨wo,sl,sst,wa,us⟩ ⟨tw,ts,l,ti,tword,tgen,tp,r,te⟩ M i s.enc d=(⟨tw,ts,l,ti',tword',tgen',tp,r,te⟩,M',ok)):
 Calls Tryz.prog 257 #[.pointer (some ⟨p,0,none⟩),.pointer (some ⟨pm,0,none⟩),.int .i64 i,.int .i64 s.enc,.int .i64 (d:Int)] w fun en w'=>en=.returned (.bool ok)∧
  ∃k,k≤n+1∧Bag S0 w0 [tK p pl pr wo sl sst wa us tw ts ti' tword' tgen' tp te,tM pm qm M' k,C,D,tF] w':=by
 refine (Q39 B.pad hn hs hd o0 o1 hc hx).mono ?_
 rintro e w' ⟨rfl,k,hk,B⟩
 exact ⟨rfl,k,hk,B.tk 5⟩
theorem WU {f:Qi} (B:Bag S0 w0 [tK p (some ql) pr wo sl sst wa us tw ts ti tword tgen tp te,tM pm qm M n,tLk (some ql) ⟨wo,sl,sst,wa,us⟩ (some f),D,tF] w) (hn:n≤1000000000) (hfd:f.found=true) (hw:f.word=s.enc) (hs:s.right) (hd:d<18) (o0:0≤tw) (o1:tw≤15) (hc:Q0.fits ⟨wo,sl,sst,wa,us⟩) {ti' tword' tgen':Int} {ok:Bool} {M':List Int} {l:Option Qi} {r:Option J2}
 (hx:X3 ⟨wo,sl,sst,wa,us⟩ ⟨tw,ts,l,ti,tword,tgen,tp,r,te⟩ M f.at_ s.enc d=(⟨tw,ts,l,ti',tword',tgen',tp,r,te⟩,M',ok)):
 Calls Tryz.prog 255 #[.pointer (some ⟨p,0,none⟩),.pointer (some ⟨pm,0,none⟩),.int .i64 (d:Int)] w fun en w'=>en=.returned (.bool ok)∧
  ∃k,k≤n+1∧Bag S0 w0 [tK p (some ql) pr wo sl sst wa us tw ts ti' tword' tgen' tp te,tM pm qm M' k,tLk (some ql) ⟨wo,sl,sst,wa,us⟩ (some (bif ok then f else f.again)),D,tF] w':=by
 have HFD:=hid fun w' h=>X4 w' ql ⟨wo,sl,sst,wa,us⟩ f h
 rw [hfd,if_pos rfl,hw] at HFD
 have HSW:=hid fun w' B=>Q38 (S0:=S0) (w0:=w0) (w:=w') (p:=p) (pl:=some ql) (pr:=pr) (pm:=pm) (qm:=qm) (C:=tLk (some ql) ⟨wo,sl,sst,wa,us⟩ (some f)) (D:=D) B hn hs hd o0 o1 hc hx
 clear hfd hw hs hd o0 o1 hc hx
 generalize s.enc=en at HFD HSW
 have q:=B.q 0
 simp only [Xu] at q
 go_in
 go_wp2_with fail
 refine (HFD.out _ (B.g 2)).mono ?_
 rintro e w1 ⟨rfl,f1⟩
 replace B:=B.tm f1
 clear q
 go_wp2_with fail
 refine (HSW.out _ B).mono ?_
 rintro e w2 ⟨rfl,k,hk,B⟩
 cases ok
 · have q:=B.q 0
   simp only [Xu] at q
   go_wp2_with fail
   refine (KA _ ql _ f (B.g 2)).mono ?_
   rintro e w3 ⟨rfl,h,f3⟩
   replace B:=B.up 2 (T':=tLk (some ql) ⟨wo,sl,sst,wa,us⟩ (some f.again)) h f3
   go_wp2
   go_ret
   exact ⟨rfl,k,hk,B⟩
 · go_wp2
   go_ret
   exact ⟨rfl,k,hk,B⟩
end
theorem Q1i {w:World} {p pm qm:Nat} {pl pr:Option Nat} {c:Q0} {A:Array Value} {t:TypeId} {l:Option Qi} {r:Option J2} {M:List Int} {n:Int} (ft:Gm w p pm qm pl pr) (blk:w.heap[p]?=some (.cells A t (0,0))) (hM:Qm w pm qm M n) (lk:Zv w pl c l) (rt:Yf w pr r) (hG:Qe w 0 Qc):
 Bag (p::pm::qm::(pl.toList++pr.toList)) w [tR p A t,tM pm qm M n,tLk pl c l,tRt pr r,tF] w:=by
 have hp:=ft.pp;have hl:=ft.fl;have hr:=ft.fr;have hlr:=ft.lr;have hne:=hM.ne;have h1:=hM.plt;have h2:=hM.qlt
 refine Bag.of ?_ ?_ ?_ ?_
 · simp only [List.forall_mem_cons];exact ⟨blk,hM,lk,rt,hG,Lc⟩
 · rcases pl with _|b<;>rcases pr with _|d
   · simp;omega
   · have:=hr d rfl;simp;omega
   · have:=hl b rfl;simp;omega
   · have:=hr d rfl;have:=hl b rfl;have:d≠b:=fun e=>hlr b rfl (by rw [e]);simp;omega
 · rcases pl with _|b<;>rcases pr with _|d
   · simp;omega
   · have:=hr d rfl;simp;omega
   · have:=hl b rfl;simp;omega
   · have:=hr d rfl;have:=hl b rfl;simp;omega
 · intro T hT ho x hx
   simp only [List.mem_cons,List.not_mem_nil,or_false] at hT
   rcases hT with rfl|rfl|rfl|rfl|rfl
   · simp at hx;simp [hx]
   · simp at hx;rcases hx with rfl|rfl<;>simp
   · simp at hx;simp [hx]
   · simp at hx;simp [hx]
   · cases ho
theorem Q3q {w w':World} {p pm qm:Nat} {pl pr pl' pr':Option Nat} {c:Q0} {A:Array Value} {t:TypeId} {l:Option Qi} {r:Option J2} {M:List Int} {n:Int} (ft:Gm w p pm qm pl pr) (B:Bag (p::pm::qm::(pl.toList++pr.toList)) w [tR p A t,tM pm qm M n,tLk pl' c l,tRt pr' r,tF] w') (hpp:pl'=pl∨pr'=pr):
 (∀b,pl'=some b→pl=some b∨w.heap.size≤b)∧(∀b,pr'=some b→pr=some b∨w.heap.size≤b)∧Gm w' p pm qm pl' pr':=by
 have own:∀i,2≤i→i≤3→∀b∈(gt [tR p A t,tM pm qm M n,tLk pl' c l,tRt pr' r,tF] i).fp,pl=some b∨pr=some b∨w.heap.size≤b:=fun i h2 h3 b hb=>by
  have e1:=B.ow i (by rcases (by omega:i=2∨i=3) with rfl|rfl<;>rfl) b hb
  have e2:=B.nd i 0 Lb b hb
  have e3:=B.nd i 1 Lb b hb
  simp [gt] at e1 e2 e3
  rcases e1 with (e|e|e|e|e)|e
  · exact absurd e e2
  · exact absurd e e3.1
  · exact absurd e e3.2
  · exact .inl e
  · exact .inr (.inl e)
  · exact .inr (.inr e)
 have hl:∀b,pl'=some b→pl=some b∨w.heap.size≤b:=fun b hb=>by
  rcases hpp with h|h
  · exact .inl (h▸hb)
  · rcases own 2 Lb Lb b (by simp [gt,hb]) with e|e|e
    · exact .inl e
    · exact absurd (show b∈(gt _ 3).fp by simp [gt,h,e]) (B.nd 2 3 (by decide) b (by simp [gt,hb]))
    · exact .inr e
 have hr:∀b,pr'=some b→pr=some b∨w.heap.size≤b:=fun b hb=>by
  rcases hpp with h|h
  · rcases own 3 Lb Lb b (by simp [gt,hb]) with e|e|e
    · exact absurd (show b∈(gt _ 2).fp by simp [gt,h,e]) (B.nd 3 2 (by decide) b (by simp [gt,hb]))
    · exact .inl e
    · exact .inr e
  · exact .inl (h▸hb)
 exact ⟨hl,hr,K6 ft B.fr.size hl hr (Zv.lt (B.g 2)) (Yf.lt (B.g 3)) fun b hb e=>B.nd 2 3 (by decide) b (by simp [gt,hb]) (by simp [gt,e])⟩
theorem Zt.bag {w:World} {p pm qm:Nat} {pl pr:Option Nat} {c:Q0} {t:Qd} {M:List Int} {n:Int} (h:Zt w p pm qm pl pr c t) (hM:Qm w pm qm M n) (hG:Qe w 0 Qc):Bag (p::pm::qm::(pl.toList++pr.toList)) w [tK p pl pr c.wo c.sl c.st c.wa c.us t.w t.st t.i t.word t.gen t.passes t.e,tM pm qm M n,tLk pl c t.look,tRt pr t.ret,tF] w:=
 Q1i h.ft h.blk hM h.lk h.rt hG
theorem Zu.of {fn:Nat} {good:Bool} {w:World} {p pm qm:Nat} {pl pr:Option Nat} {c:Q0} {t:Qd} {M:List Int} {n:Int} {X':Qd×List Int} (hT:Zt w p pm qm pl pr c t) (hM:Qm w pm qm M n) (hG:Qe w 0 Qc)
 (h:∀(S:List Nat) (wo sl sst wa us tw ts:Int) (tlook:Option Qi) (ti tword tgen:Int) (tp:Bool) (tret:Option J2) (te:Int) (X:Qd×List Int),c=⟨wo,sl,sst,wa,us⟩→t=⟨tw,ts,tlook,ti,tword,tgen,tp,tret,te⟩→RowKit.Hid (X'=X)→
   Bag S w [tK p pl pr wo sl sst wa us tw ts ti tword tgen tp te,tM pm qm M n,tLk pl ⟨wo,sl,sst,wa,us⟩ tlook,tRt pr tret,tF] w→
   Calls Tryz.prog fn #[.pointer (some ⟨p,0,none⟩),.pointer (some ⟨pm,0,none⟩),.bool good] w fun e w'=>e=.returned (.tuple #[])∧∃pl' pr' k,k≤n+1∧(pl'=pl∨pr'=pr)∧Bag S w [tK p pl' pr' wo sl sst wa us X.1.w X.1.st X.1.i X.1.word X.1.gen X.1.passes X.1.e,tM pm qm X.2 k,tLk pl' ⟨wo,sl,sst,wa,us⟩ X.1.look,tRt pr' X.1.ret,tF] w'):
   Calls Tryz.prog fn #[.pointer (some ⟨p,0,none⟩),.pointer (some ⟨pm,0,none⟩),.bool good] w (Zu w p pm qm pl pr c n X'):=by
 obtain ⟨wo,sl,sst,wa,us⟩:=c
 obtain ⟨tw,ts,tlook,ti,tword,tgen,tp,tret,te⟩:=t
 refine (h (p::pm::qm::(pl.toList++pr.toList)) wo sl sst wa us tw ts tlook ti tword tgen tp tret te _ rfl rfl (hid rfl) (hT.bag hM hG)).mono ?_
 rintro e w' ⟨rfl,pl',pr',k,hk,hpp,B⟩
 obtain ⟨h1,h2,h3⟩:=Q3q hT.ft B hpp
 exact ⟨rfl,pl',pr',⟨B.g 0,B.g 2,B.g 3,h3⟩,Qm.mono (B.g 1) hk,B.fr,h1,h2⟩
abbrev Y4 (fn:Nat) (w:World) (p pm qm:Nat) (pl pr:Option Nat) (c:Q0) (t:Qd) (M:List Int) (n:Int) (good:Bool):Prop:=
 Calls Tryz.prog fn #[.pointer (some ⟨p,0,none⟩),.pointer (some ⟨pm,0,none⟩),.bool good] w (Zu w p pm qm pl pr c n (Qg c t M good))
theorem XW {P:Prop} (h:P:=by
 first
  |go_end0
  |(try simp only [Exit.inBlock,Exit.then]
    refine bodyPost_ret (results_none rfl _ _ _) rfl ?_)
 have hx:=HX.out
 try simp [Qg,Zz,Qd.lk,Qd.rt, *] at hx
 subst hx
 first
  |refine ⟨rfl,_,_,_, ?_, ?_,B⟩
  |refine ⟨rfl,_,some _,_, ?_, ?_,B⟩
  |refine ⟨rfl,_,_,_, ?_, ?_,B.tk 5⟩
  |refine ⟨rfl,_,some _,_, ?_, ?_,B.sel [0,1,2,5,4]⟩
 · omega
 · first|exact .inl rfl|exact .inr rfl):P:=h
end
section
open Go.RowKit Go.Shelf Go.Lib
attribute [local go_sem] Oper.semAt_some
def Jy (w:World) (p:Nat) (pl pr:Option Nat) (c:Q0) (t:Qf):Prop:=
 w.heap[p]?=some (.cells #[.int .i64 c.wo,.int .i64 c.sl,.int .i64 c.st,.int .i64 c.wa,.int .i64 c.us,.int .i64 t.w,.int .i64 t.st,.int .i64 t.epoch,.int .i64 t.closed,.int .i64 (wd t.queue:Int),Xu pl,.int .i64 t.i,.int .i64 t.word,.int .i64 t.other,.int .i64 t.head,Xu pr] 186 (0,0))
theorem Jy.fr {w w':World} {p:Nat} {pl pr:Option Nat} {c:Q0} {t:Qf} (h:Jy w p pl pr c t) {S:List Nat} (f:Fr S w w') (hp:p∉S):Jy w' p pl pr c t:=f.at h hp
structure Jw (w:World) (p pm qm:Nat) (pl pr:Option Nat) (c:Q0) (t:Qf):Prop where
 blk:Jy w p pl pr c t
 lk:Zv w pl c t.look
 rt:Yf w pr t.ret
 ft:Gm w p pm qm pl pr
def XL (w:World) (p pm qm:Nat) (pl pr:Option Nat) (c:Q0) (n:Int) (x:Qf×List Int) (e:Ending) (w':World):Prop:=
 e=.returned (.tuple #[])∧∃pl' pr',Jw w' p pm qm pl' pr' c x.1∧Qm w' pm qm x.2 (n+1)∧Fr (p::pm::qm::(pl.toList++pr.toList)) w w'∧
  (∀b,pl'=some b→pl=some b∨w.heap.size≤b)∧(∀b,pr'=some b→pr=some b∨w.heap.size≤b)
abbrev tY (p:Nat) (pl pr:Option Nat) (wo sl sst wa us yw ys yep ycl yq yi yword yo yh:Int):Th:=
 tR p #[.int .i64 wo,.int .i64 sl,.int .i64 sst,.int .i64 wa,.int .i64 us,.int .i64 yw,.int .i64 ys,.int .i64 yep,.int .i64 ycl,.int .i64 yq,Xu pl,.int .i64 yi,.int .i64 yword,.int .i64 yo,.int .i64 yh,Xu pr] 186
theorem Q0j (c:Q0) (t:Qf) (M:List Int) (s:Q7) (d:Nat) (own:Int) (hs:s.right) (hw:t.word=s.enc):Xk c t M d own=match Qk s d own 0 with
 |some u=>if Qx M (Q5 c t.i) s.enc then (QI M (Q5 c t.i) s.enc u.enc,true) else (M,false)
 |none=>(M,false):=by
 unfold Xk
 rw [hw,XK hs]
 cases Qk s d own 0<;>rfl
theorem EL {s:Q7} (h:s.right):isW s.enc=s.st:=by unfold isW;rw [QF h]
theorem Q32 (c:Q0) (t:Qf):t.another c=({t with other:=if t.other+1=t.w then t.other+2 else t.other+1},decide ((if t.other+1=t.w then t.other+2 else t.other+1)<c.wo)):=rfl
section
variable {S0:List Nat} {w0 w:World} {A C D E:Th} {L:List Th} {p pm qm ql:Nat} {pl pr:Option Nat} {wo sl sst wa us yw ys yep ycl yq yi yword yo yh:Int} {M:List Int} {n:Int} {s:Q7} {d:Nat}
theorem Hy {c:Q0} {f:Option Qi} (B:Bag S0 w0 (tY p pl pr wo sl sst wa us yw ys yep ycl yq yi yword yo yh::A::tLk pl c f::L) w) (st kind own:Int):
 Calls Tryz.prog 235 #[.pointer (some ⟨p,0,none⟩),.int .i64 st,.int .i64 kind,.int .i64 own] w fun en w'=>en=.returned (.tuple #[])∧
  ∃q,Bag S0 w0 (tY p (some q) pr wo sl sst wa us yw st yep ycl yq yi yword yo yh::A::tLk (some q) ⟨wo,sl,sst,wa,us⟩ (some (QE kind own 0))::L) w':=by
 have HN:=hid fun w'=>Uq w' ⟨wo,sl,sst,wa,us⟩ kind own
 dsimp only [Q0.val] at HN
 have q:=B.q 0
 go_in
 go_wp2_with fail
 refine (HN.out _).mono ?_
 rintro e w1 ⟨b,rfl,hb,hl,f⟩
 replace B:=B.rp 2 (T':=tLk (some b) ⟨wo,sl,sst,wa,us⟩ (some (QE kind own 0))) hl f (fun x hx=>by simp at hx;subst hx;exact ⟨hb,Q9 hl⟩)
 clear q
 have q:=B.q 0;have u:=B.u 0
 go_wp2_with fail
 clear q u
 generalize hw:World.setCell _ _ _=w2
 replace B:=((B.s 0).s 0).e hw
 go_end0
 exact ⟨rfl,b,B⟩
theorem DW {f:Qi} (B:Bag S0 w0 (tY p (some ql) pr wo sl sst wa us yw ys yep ycl yq yi yword yo yh::tM pm qm M n::tLk (some ql) ⟨wo,sl,sst,wa,us⟩ (some f)::A::tF::L) w) (hn:n≤1000000000) (hc:Q0.fits ⟨wo,sl,sst,wa,us⟩) (hok:f.ok ⟨wo,sl,sst,wa,us⟩) (hS:X5 ⟨wo,sl,sst,wa,us⟩ M)
 {f':Qi} {a b:Bool} (hx:(QB ⟨wo,sl,sst,wa,us⟩ f M).1=f') (ha:f'.found=a) (hb:((QB ⟨wo,sl,sst,wa,us⟩ f M).2&& !a)=b):
 Calls Tryz.prog 236 #[.pointer (some ⟨p,0,none⟩),.pointer (some ⟨pm,0,none⟩)] w fun en w'=>en=.returned (.tuple #[.bool a,.bool b])∧
  Bag S0 w0 (tY p (some ql) pr wo sl sst wa us yw ys yep ycl yq (bif a then f'.at_ else yi) (bif a then f'.word else yword) yo yh::tM pm qm M (n+1)::tLk (some ql) ⟨wo,sl,sst,wa,us⟩ (some f')::A::tF::L) w':=by
 have h1:=B.nd 2 1 (by decide) ql (by simp [gt])
 have h2:=B.nd 4 2 (by decide) 0 (by simp [gt])
 have h3:=B.nd 4 1 (by decide) 0 (by simp [gt])
 simp [gt] at h1 h2 h3
 have HST:=hid (YZ w ql pm qm ⟨wo,sl,sst,wa,us⟩ f M n (B.g 2) (B.g 1) hn h1 hc hok hS (B.g 4) ⟨Nat.pos_of_ne_zero (fun e=>h2 e.symm),Nat.pos_of_ne_zero (fun e=>h3.1 e.symm),Nat.pos_of_ne_zero (fun e=>h3.2 e.symm)⟩)
 have HFD:=hid fun w' h=>X4 w' ql ⟨wo,sl,sst,wa,us⟩ f' h
 rw [ha] at HFD
 generalize QB _ f M=x at HST hx hb
 obtain ⟨x1,x2⟩:=x
 dsimp only at hx hb
 subst hx
 clear hS hok hc h1 h2 h3
 have HX:=hid hb
 clear hb
 have q:=B.q 0
 simp only [Xu] at q
 go_in
 go_wp2_with fail
 refine HST.out.mono ?_
 rintro e w1 ⟨rfl,hl,hm,f⟩
 replace B:=B.up2 2 1 (T:=tLk (some ql) ⟨wo,sl,sst,wa,us⟩ (some x1)) (T':=tM pm qm M (n+1)) hl hm f
 clear q hl hm
 have q:=B.q 0
 simp only [Xu] at q
 cases a
 all_goals
  go_wp2_with fail
  refine (HFD.out _ (B.g 2)).mono ?_
  rintro e w2 ⟨rfl,f⟩
  replace B:=B.tm f
  clear q
  have hx:=HX.out
  cases x2
 all_goals
  subst hx
  first
   |(go_wp2
     go_ret2
     exact ⟨rfl,B⟩)
   |(have q:=B.q 0;have u:=B.u 0
     go_wp2_with fail
     clear q u
     generalize hw:World.setCell _ _ _=w3
     replace B:=((B.s 0).s 0).e hw
     go_wp2
     go_ret2
     exact ⟨rfl,B⟩)
theorem Q5K (B:Bag S0 w0 (tY p pl pr wo sl sst wa us yw ys yep ycl yq yi s.enc yo yh::A::C::D::tF::L) w) (hs:s.right):
 Calls Tryz.prog 242 #[.pointer (some ⟨p,0,none⟩)] w fun en w'=>en=.returned (.int .i64 s.st)∧Bag S0 w0 (tY p pl pr wo sl sst wa us yw ys yep ycl yq yi s.enc yo yh::A::C::D::tF::L) w':=by
 have HD:=hid (Ji w s hs (B.g 4))
 have q:=B.q 0
 clear hs
 obtain ⟨zst,zso,zstr,zbr,zmkd,zus,zgen,zep,zver⟩:=s
 dsimp only [Q7.val] at HD ⊢
 generalize Q7.enc _=en at HD q B ⊢
 go_in
 go_wp2_with fail
 refine HD.out.mono ?_
 rintro e w1 ⟨rfl,f1⟩
 replace B:=B.tm f1
 clear q
 go_wp2
 go_ret
 exact ⟨rfl,B.tm ((Fr.refl [] _).alloc _)⟩
theorem WM (B:Bag S0 w0 (tY p pl pr wo sl sst wa us yw ys yep ycl yq yi yword yo yh::L) w) (o0: -1≤yo) (o1:yo≤1000) {o:Int} (ho:(if yo+1=yw then yo+2 else yo+1)=o):
 Calls Tryz.prog 238 #[.pointer (some ⟨p,0,none⟩)] w fun en w'=>en=.returned (.bool (decide (o<wo)))∧Bag S0 w0 (tY p pl pr wo sl sst wa us yw ys yep ycl yq yi yword o yh::L) w':=by
 have hc:(yo+1=yw∧(yo+1==yw)=true∧yo+1+1=o)∨(yo+1≠yw∧(yo+1==yw)=false∧yo+1=o):=by
  by_cases h:yo+1=yw
  · rw [if_pos h] at ho;exact .inl ⟨h,by simp [h],Lb⟩
  · rw [if_neg h] at ho;exact .inr ⟨h,by simp [h],ho⟩
 rcases hc with ⟨rfl,h2,rfl⟩|⟨h1,h2,rfl⟩
 all_goals
  have q:=B.q 0;have u:=B.u 0
  go_in
  go_wp2_with fail
  clear q u
  generalize hw:World.setCell _ _ _=w2
  replace B:=(B.s 0).e hw
  refine rg B fun _ B=> ?_
  repeat refine tb ?_
  refine wpAnyH_done (by decide+kernel) ?_ _
  first
   |(have q:=B.q 0;have u:=B.u 0
     go_wp2_with fail
     clear q u
     generalize hw2:World.setCell _ _ _=w3
     replace B:=(B.s 0).e hw2
     refine rg B fun _ B=> ?_
     repeat refine tb ?_
     refine wpAnyH_done (by decide+kernel) ?_ _)
   |(go_wp2_with fail
     refine rg B fun _ B=> ?_
     repeat refine tb ?_
     refine wpAnyH_done (by decide+kernel) ?_ _)
  go_wp2
  go_ret
  exact ⟨rfl,B⟩
theorem DV (B:Bag S0 w0 [tY p pl pr wo sl sst wa us yw ys yep ycl yq yi s.enc yo yh,tM pm qm M n,C,D,tF] w) (hn:n≤1000000000) (hs:s.right) (hd:d<18) {own:Int} (o0:0≤own) (o1:own≤15) (hc:Q0.fits ⟨wo,sl,sst,wa,us⟩) {ok:Bool} {M':List Int} {l:Option Qi} {r:Option J2} {Q:List Int}
 (hx:Xk ⟨wo,sl,sst,wa,us⟩ ⟨yw,ys,yep,ycl,Q,l,yi,s.enc,yo,yh,r⟩ M d own=(M',ok)):
 Calls Tryz.prog 240 #[.pointer (some ⟨p,0,none⟩),.pointer (some ⟨pm,0,none⟩),.int .i64 (d:Int),.int .i64 own] w fun en w'=>en=.returned (.bool ok)∧
  ∃k,k≤n+1∧Bag S0 w0 [tY p pl pr wo sl sst wa us yw ys yep ycl yq yi s.enc yo yh,tM pm qm M' k,C,D,tF] w':=by
 rw [Q0j _ _ _ s _ _ hs rfl] at hx
 have HD:=hid fun w' h=>Ji w' s hs h
 have HN:=hid fun w' h=>Yu w' s d own 0 hs hd o0 o1 h
 have HE:=hid fun u w' hu h=>XJ w' u (JF hs (d:=d) (own:=own) (more:=0) hu) h
 have HSL:=hid fun w'=>J9 w' ⟨wo,sl,sst,wa,us⟩ yi hc
 have HC:=hid fun w' ue hm=>Uw w' pm qm M n (Q5 ⟨wo,sl,sst,wa,us⟩ yi) s.enc ue hm hn
 dsimp only [Q0.val] at hx HSL
 generalize Q5 _ _=cell at HSL hx HC
 generalize s.enc=en at HD hx HC B ⊢
 generalize Qk s d own 0=co at HN HE hx
 obtain ⟨zst,zso,zstr,zbr,zmkd,zus,zgen,zep,zver⟩:=s
 dsimp only [Q7.val] at HD HN HE hx
 clear hc hs
 have q:=B.q 0
 go_in
 go_wp2_with fail
 refine (HD.out _ (B.g 4)).mono ?_
 rintro e w1 ⟨rfl,f1⟩
 replace B:=B.tm f1
 clear q
 go_wp2_with fail
 generalize hb:(World.heap _).size=b,hw:World.alloc _ _=w2
 replace B:=B.al hw hb
 clear hw hb
 refine (HN.out _ (B.g 4)).mono ?_
 rintro e w3 ⟨rfl,f3⟩
 replace B:=B.tm f3
 have q:=B.q 5;have u:=B.u 5
 rcases co with _|uu
 · cases hx
   simp only [Option.isSome_none,Option.getD_none,XA]
   go_wp2_with fail
   clear q u
   generalize hw:World.setCell _ _ _=w4
   replace B:=(((((((((B.s 5).s 5).s 5).s 5).s 5).s 5).s 5).s 5).s 5).e hw
   go_wp2
   go_ret
   exact ⟨rfl,n,Lb,B.tk 5⟩
 · simp only [Option.isSome_some,Option.getD_some]
   have HEU:=hid fun w' h=>HE.out _ w' rfl h
   replace HC:=hid fun w'=>HC.out w' uu.enc
   dsimp only at HEU hx
   generalize Q7.enc uu=ue at HEU HC hx
   go_wp2_with fail
   clear q u
   generalize hw:World.setCell _ _ _=w4
   replace B:=(((((((((B.s 5).s 5).s 5).s 5).s 5).s 5).s 5).s 5).s 5).e hw
   have q:=B.q 5
   go_wp2_with fail
   refine (HEU.out _ (B.g 4)).mono ?_
   rintro e w5 ⟨rfl,f5⟩
   replace B:=B.tm f5
   clear q
   have hx':(QI M cell en ue,Qx M cell en)=(M',ok):=by
    rw [←hx]
    by_cases h:Qx M cell en=true
    · rw [if_pos h,h]
    · rw [if_neg h,Bool.eq_false_iff.2 h,K8 (Bool.eq_false_iff.2 h)]
   cases hx'
   clear hx HEU HN HD HE
   go_wp2_with fail
   refine rgx [0,2,3,4] B fun _ B=> ?_
   iterate 11 refine tb ?_
   refine tj 12 ?_
   refine tj 13 ?_
   refine tj 14 ?_
   refine tj 15 ?_
   refine tj 16 ?_
   refine tc 11 fun K hK=> ?_
   go_simp
   refine (HSL.out _).mono ?_
   rintro e w6 ⟨rfl,f⟩
   replace B:=B.tm f
   go_wp2_with fail
   refine bk hK ?_
   clear hK K
   try go_frame
   refine to fun K hK=> ?_
   go_simp
   refine (HC.out _ (B.g 1)).mono ?_
   rintro e w7 ⟨rfl,h,f⟩
   replace B:=B.M h f
   go_wp2_with fail
   refine bk hK ?_
   clear hK K
   try go_frame
   repeat refine tb ?_
   refine wpAnyH_done (by decide+kernel) ?_ _
   go_wp2
   go_ret
   exact ⟨rfl,_,Int.le_refl _,B.tk 5⟩
end
theorem Jw.bag {w:World} {p pm qm:Nat} {pl pr:Option Nat} {c:Q0} {t:Qf} {M:List Int} {n:Int} (h:Jw w p pm qm pl pr c t) (hM:Qm w pm qm M n) (hG:Qe w 0 Qc):Bag (p::pm::qm::(pl.toList++pr.toList)) w [tY p pl pr c.wo c.sl c.st c.wa c.us t.w t.st t.epoch t.closed (wd t.queue:Int) t.i t.word t.other t.head,tM pm qm M n,tLk pl c t.look,tRt pr t.ret,tF] w:=
 Q1i h.ft h.blk hM h.lk h.rt hG
theorem XL.of {fn:Nat} {w:World} {p pm qm:Nat} {pl pr:Option Nat} {c:Q0} {t:Qf} {M:List Int} {n:Int} {X':Qf×List Int} (hT:Jw w p pm qm pl pr c t) (hM:Qm w pm qm M n) (hG:Qe w 0 Qc)
 (h:∀(S:List Nat) (wo sl sst wa us yw ys yep ycl:Int) (yqu:List Int) (ylook:Option Qi) (yi yword yo yh:Int) (yret:Option J2) (X:Qf×List Int),c=⟨wo,sl,sst,wa,us⟩→t=⟨yw,ys,yep,ycl,yqu,ylook,yi,yword,yo,yh,yret⟩→RowKit.Hid (X'=X)→
   Bag S w [tY p pl pr wo sl sst wa us yw ys yep ycl (wd yqu:Int) yi yword yo yh,tM pm qm M n,tLk pl ⟨wo,sl,sst,wa,us⟩ ylook,tRt pr yret,tF] w→
   Calls Tryz.prog fn #[.pointer (some ⟨p,0,none⟩),.pointer (some ⟨pm,0,none⟩)] w fun e w'=>e=.returned (.tuple #[])∧∃pl' pr' k,k≤n+1∧(pl'=pl∨pr'=pr)∧Bag S w [tY p pl' pr' wo sl sst wa us X.1.w X.1.st X.1.epoch X.1.closed (wd X.1.queue:Int) X.1.i X.1.word X.1.other X.1.head,tM pm qm X.2 k,tLk pl' ⟨wo,sl,sst,wa,us⟩ X.1.look,tRt pr' X.1.ret,tF] w'):
   Calls Tryz.prog fn #[.pointer (some ⟨p,0,none⟩),.pointer (some ⟨pm,0,none⟩)] w (XL w p pm qm pl pr c n X'):=by
 obtain ⟨wo,sl,sst,wa,us⟩:=c
 obtain ⟨yw,ys,yep,ycl,yqu,ylook,yi,yword,yo,yh,yret⟩:=t
 refine (h (p::pm::qm::(pl.toList++pr.toList)) wo sl sst wa us yw ys yep ycl yqu ylook yi yword yo yh yret _ rfl rfl (hid rfl) (hT.bag hM hG)).mono ?_
 rintro e w' ⟨rfl,pl',pr',k,hk,hpp,B⟩
 obtain ⟨h1,h2,h3⟩:=Q3q hT.ft B hpp
 exact ⟨rfl,pl',pr',⟨B.g 0,B.g 2,B.g 3,h3⟩,Qm.mono (B.g 1) hk,B.fr,h1,h2⟩
abbrev Zx (fn:Nat) (w:World) (p pm qm:Nat) (pl pr:Option Nat) (c:Q0) (t:Qf) (M:List Int) (n:Int):Prop:=
 Calls Tryz.prog fn #[.pointer (some ⟨p,0,none⟩),.pointer (some ⟨pm,0,none⟩)] w (XL w p pm qm pl pr c n (Ql c t M))
theorem XO {P:Prop} (h:P:=by
 first
  |go_end0
  |(try simp only [Exit.inBlock,Exit.then]
    refine bodyPost_ret (results_none rfl _ _ _) rfl ?_)
 have hx:=HX.out
 try simp [Ql,Qf.lk,Qf.rt,Q32, *] at hx
 subst hx
 first
  |refine ⟨rfl,_,_,_, ?_, ?_,B⟩
  |refine ⟨rfl,_,some _,_, ?_, ?_,B⟩
  |refine ⟨rfl,_,_,_, ?_, ?_,B.tk 5⟩
  |refine ⟨rfl,_,some _,_, ?_, ?_,B.sel [0,1,2,5,4]⟩
 · omega
 · first|exact .inl rfl|exact .inr rfl):P:=h
end
section
open Go.RowKit Go.Shelf Go.Lib
attribute [local go_sem] Oper.semAt_some
section
variable {w:World} {p pm qm:Nat} {pl pr:Option Nat} {c:Q0} {t:Qf} {M:List Int} {n:Int}
theorem Q1N (hT:Jw w p pm qm pl pr c t) (hM:Qm w pm qm M n) (hG:Qe w 0 Qc) (hn:n≤1000000000) (hst:t.st=0):Zx 178 w p pm qm pl pr c t M n:=by
 have HL:=hid fun w' h=>Za w' pm qm M n 2 h hn
 refine XL.of hT hM hG fun S wo sl sst wa us yw ys yep ycl yqu ylook yi yword yo yh yret X he hg HX B=> ?_
 subst he hg
 dsimp only at hst
 subst hst
 clear hT hM hG
 go_in
 go_wp2_with fail
 refine (HL.out _ (B.g 1)).mono ?_
 rintro e w8 ⟨rfl,h,f⟩
 replace B:=B.M h f
 have q:=B.q 0;have u:=B.u 0
 go_wp2_with fail
 clear q u
 generalize hw2:World.setCell _ _ _=w2
 replace B:=((B.s 0).s 0).e hw2
 exact XO
theorem Z05 {P:Prop} (h:P:=by
 rintro e w8 ⟨rfl,f⟩
 replace B:=B.tm f
 go_wp2_with fail
 refine bk hK ?_
 clear hK K
 try go_frame
 refine to fun K hK=> ?_
 go_simp
 refine (HST.out _ (B.g 1)).mono ?_
 rintro e w8 ⟨rfl,h,f⟩
 replace B:=B.M h f
 go_wp2_with fail
 refine bk hK ?_
 clear hK K
 try go_frame
 refine wpAnyH_done (by decide+kernel) ?_ _
 have q:=B.q 0;have u:=B.u 0
 go_wp2_with fail
 clear q u
 generalize hw2:World.setCell _ _ _=w2
 replace B:=(B.s 0).e hw2
 exact XO):P:=h
theorem Q5H (hT:Jw w p pm qm pl pr c t) (hM:Qm w pm qm M n) (hG:Qe w 0 Qc) (hn:n≤1000000000) (hst:t.st=1) (hc:c.fits) (w0:0≤t.w) (w1:t.w<c.wo) (e0: -4611686018427387904≤t.epoch) (e1:t.epoch≤4611686018427387904):Zx 179 w p pm qm pl pr c t M n:=by
 have HPN:=hid fun w'=>He w' c t.w hc
 rw [show Y8 c t.w=3+t.w by unfold Y8;rw [if_pos ⟨w0,w1⟩]] at HPN
 have HPW:=hid fun w'=>Dp w' t.epoch e0 e1
 have HST:=hid fun w' h=>Vx w' pm qm M n (3+t.w) (t.epoch+1) h hn
 clear w0 w1 e0 e1
 refine XL.of hT hM hG fun S wo sl sst wa us yw ys yep ycl yqu ylook yi yword yo yh yret X he hg HX B=> ?_
 subst he hg
 dsimp only [Q0.val] at hst HPN HPW HST
 subst hst
 clear hT hM hG
 go_in
 go_wp2_with fail
 refine rgx [0,2,3,4] B fun _ B=> ?_
 iterate 9 refine tb ?_
 refine tj 10 ?_
 refine tj 11 ?_
 refine tj 12 ?_
 refine tj 13 ?_
 refine tc 9 fun K hK=> ?_
 go_simp
 refine (HPN.out _).mono ?_
 rintro e w8 ⟨rfl,f⟩
 replace B:=B.tm f
 go_wp2_with fail
 refine bk hK ?_
 clear hK K
 try go_frame
 refine to fun K hK=> ?_
 go_simp
 refine (HPW.out _).mono ?_
 exact Z05
theorem Z15 {P:Prop} (h:P:=by
 rintro e w8 ⟨rfl,b,B⟩
 replace B:=B
 go_wp2
 exact XO):P:=h
theorem UK (hT:Jw w p pm qm pl pr c t) (hM:Qm w pm qm M n) (hG:Qe w 0 Qc) (hn:n≤1000000000) (hst:t.st=2):Zx 180 w p pm qm pl pr c t M n:=by
 have HL:=hid fun w' h=>Za w' pm qm M n 0 h hn
 refine XL.of hT hM hG fun S wo sl sst wa us yw ys yep ycl yqu ylook yi yword yo yh yret X he hg HX B=> ?_
 subst he hg
 dsimp only at hst
 subst hst
 clear hT hM hG
 go_in
 go_wp2_with fail
 refine (HL.out _ (B.g 1)).mono ?_
 rintro e w8 ⟨rfl,h,f⟩
 replace B:=B.M h f
 have q:=B.q 0;have u:=B.u 0
 go_wp2_with fail
 clear q u
 generalize hw2:World.setCell _ _ _=w2
 replace B:=(B.s 0).e hw2
 have q:=B.q 0
 go_wp2_with fail
 refine (Hy B 3 4 _).mono ?_
 exact Z15
theorem Q1I (hT:Jw w p pm qm pl pr c t) (hM:Qm w pm qm M n) (hG:Qe w 0 Qc) (hn:n≤1000000000) (hst:t.st=15) (hc:c.fits) (w0:0≤t.w) (w1:t.w<c.wo):Zx 193 w p pm qm pl pr c t M n:=by
 have HPN:=hid fun w'=>He w' c t.w hc
 rw [show Y8 c t.w=3+t.w by unfold Y8;rw [if_pos ⟨w0,w1⟩]] at HPN
 have HST:=hid fun w' h=>Vx w' pm qm M n (3+t.w) 0 h hn
 clear w0 w1
 refine XL.of hT hM hG fun S wo sl sst wa us yw ys yep ycl yqu ylook yi yword yo yh yret X he hg HX B=> ?_
 subst he hg
 dsimp only [Q0.val] at hst HPN HST
 subst hst
 clear hT hM hG
 go_in
 go_wp2_with fail
 refine rgx [0,2,3,4] B fun _ B=> ?_
 repeat refine tb ?_
 refine to fun K hK=> ?_
 go_simp
 refine (HPN.out _).mono ?_
 exact Z05
theorem Z0f {P:Prop} (h:P:=by
 have q:=B.q 0;have u:=B.u 0
 go_wp2_with fail
 clear q u
 generalize hw2:World.setCell _ _ _=w3
 replace B:=(B.s 0).e hw2
 exact XO):P:=h
theorem Q1O (hT:Jw w p pm qm pl pr c t) (hM:Qm w pm qm M n) (hG:Qe w 0 Qc) (hn:n≤1000000000) (hst:t.st=16):Zx 194 w p pm qm pl pr c t M n:=by
 have HL:=hid fun w' h=>Za w' pm qm M n 2 h hn
 refine XL.of hT hM hG fun S wo sl sst wa us yw ys yep ycl yqu ylook yi yword yo yh yret X he hg HX B=> ?_
 subst he hg
 dsimp only at hst
 subst hst
 clear hT hM hG
 have q:=B.q 0;have u:=B.u 0
 go_in
 go_wp2_with fail
 clear q u
 generalize hw2:World.setCell _ _ _=w2
 replace B:=(B.s 0).e hw2
 refine rgx [0,2,3,4] B fun _ B=> ?_
 refine tb ?_
 refine tj 2 ?_
 refine tj 3 ?_
 refine tj 4 ?_
 refine tj 5 ?_
 refine tc 1 fun K hK=> ?_
 go_simp
 refine (HL.out _ (B.g 1)).mono ?_
 rintro e w8 ⟨rfl,h,f⟩
 replace B:=B.M h f
 go_wp2_with fail
 refine bk hK ?_
 clear hK K
 try go_frame
 refine tb ?_
 refine wpAnyH_done (by decide+kernel) ?_ _
 rcases (by simp;omega:(Q6 M 2=yep∧(Q6 M 2==yep)=true)∨(Q6 M 2≠yep∧(Q6 M 2==yep)=false)) with ⟨h1,h2⟩|⟨h1,h2⟩
 · rw [h2]
   exact Z0f
 · rw [h2]
   go_wp2
   exact XO
theorem Q3L (hT:Jw w p pm qm pl pr c t) (hM:Qm w pm qm M n) (hG:Qe w 0 Qc) (hst:t.st=17):Zx 195 w p pm qm pl pr c t M n:=by
 refine XL.of hT hM hG fun S wo sl sst wa us yw ys yep ycl yqu ylook yi yword yo yh yret X he hg HX B=> ?_
 subst he hg
 dsimp only at hst
 subst hst
 go_in
 go_wp2
 exact XO
theorem Q1L (hT:Jw w p pm qm pl pr c t) (hM:Qm w pm qm M n) (hG:Qe w 0 Qc) (hn:n≤1000000000) (hst:t.st=12) (hc:c.fits) (h0:0≤t.head) (h1:t.head<c.wo) (i0:0≤t.i) (i1:t.i≤1000):Zx 190 w p pm qm pl pr c t M n:=by
 have HPN:=hid fun w'=>ZG w' c t.head hc h0 h1
 have HST:=hid fun w' h=>Vx w' pm qm M n (3+c.wo+t.head) (t.i+1) h hn
 clear h0 h1
 refine XL.of hT hM hG fun S wo sl sst wa us yw ys yep ycl yqu ylook yi yword yo yh yret X he hg HX B=> ?_
 subst he hg
 dsimp only [Q0.val] at hst HPN HST i0 i1
 subst hst
 clear hT hM hG
 have HW:=hid (show IntKind.i64.wrap (yi+1)=yi+1 by rw [IntKind.wrap_i64];omega)
 go_in
 go_wp2_with fail
 refine rgx [0,2,3,4] B fun _ B=> ?_
 iterate 9 refine tb ?_
 refine tj 10 ?_
 refine tj 11 ?_
 refine tj 12 ?_
 refine tj 13 ?_
 refine tj 14 ?_
 rw [HW.out]
 refine tc 9 fun K hK=> ?_
 go_simp
 refine (HPN.out _).mono ?_
 exact Z05
end
end
end Go.Proofs.YtgjklfmnmljilaaGreatDoor
