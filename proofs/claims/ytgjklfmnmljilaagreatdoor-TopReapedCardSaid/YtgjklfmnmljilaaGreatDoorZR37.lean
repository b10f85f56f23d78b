/- A part of the proof. -/
import Derived.Test.YtgjklfmnmljilaaGreatDoorZR36
namespace Go.Proofs.YtgjklfmnmljilaaGreatDoor
set_option linter.unusedVariables false
set_option linter.unusedSimpArgs false
set_option linter.unusedSectionVars false
set_option linter.unnecessarySimpa false
set_option maxRecDepth 100000
set_option maxHeartbeats 8000000
section
open Go.RowKit Go.Shelf Go.Lib
variable {w w':World} {b:Bs} {c:Q0} {who:Nat} {k:Q8} {v:Je} {L S:List Nat} {F:List Nat} {m:Qa} {N N' n:Int} {ve vr:Value} {vv:Nat→Je} {LL:Nat→List Nat}
theorem Qq.ten (A:Qq w F b m N ve vr vv LL) (hw:who<m.ws.length) {bt bm bw q pf:Nat} {r:List Nat} (hL:LL who=bt::bm::bw::q::pf::r):[0,b.pM,b.pW,b.pm,b.qm,q,pf,bt,bm,bw].Nodup:=by
 have Lin:∀x∈[bt,bm,bw,q,pf],x∈LL who:=fun x hx=>by rw [hL];simp at hx ⊢;rcases hx with h|h|h|h|h<;>simp [h]
 have s1:=A.sep hw (.inr (.inr (Lin bt Lc)));have s2:=A.sep hw (.inr (.inr (Lin bm Lc)));have s3:=A.sep hw (.inr (.inr (Lin bw Lc)));have s4:=A.sep hw (.inr (.inr (Lin q Lc)));have s5:=A.sep hw (.inr (.inr (Lin pf Lc)))
 have t1:=A.sep2 hw (Lin bt Lc);have t2:=A.sep2 hw (Lin bm Lc);have t3:=A.sep2 hw (Lin bw Lc);have t4:=A.sep2 hw (Lin q Lc);have t5:=A.sep2 hw (Lin pf Lc)
 obtain ⟨n1,⟨n2,n3,n4,n5⟩,n6, -⟩:=A.ne
 have nd:=A.ln who hw
 rw [hL] at nd
 simp only [List.nodup_cons,List.mem_cons,not_or] at nd
 have Z:∀x,2<x→¬0=x:=fun x h=>by omega
 have g1:=A.bl b.pM (by simp [Bs.l]);have g2:=A.bl b.pW (by simp [Bs.l]);have g3:=A.bl b.pm (by simp [Bs.l]);have g4:=A.bl b.qm (by simp [Bs.l])
 simp only [List.nodup_cons,List.mem_cons,List.not_mem_nil,or_false,not_or,List.nodup_nil,and_true,not_false_eq_true]
 exact ⟨⟨Z _ g1.1,Z _ g2.1,Z _ g3.1,Z _ g4.1,Z _ s4.2.2.2.2.2.2.2.1,Z _ s5.2.2.2.2.2.2.2.1,Z _ s1.2.2.2.2.2.2.2.1,Z _ s2.2.2.2.2.2.2.2.1,Z _ s3.2.2.2.2.2.2.2.1⟩,
  ⟨n1,Ne.symm n2,Ne.symm n4,Ne.symm s4.1,Ne.symm s5.1,Ne.symm s1.1,Ne.symm s2.1,Ne.symm s3.1⟩,
  ⟨Ne.symm n3,Ne.symm n5,Ne.symm s4.2.1,Ne.symm s5.2.1,Ne.symm s1.2.1,Ne.symm s2.2.1,Ne.symm s3.2.1⟩,
  ⟨n6,Ne.symm t4.1,Ne.symm t5.1,Ne.symm t1.1,Ne.symm t2.1,Ne.symm t3.1⟩,
  ⟨Ne.symm t4.2,Ne.symm t5.2,Ne.symm t1.2,Ne.symm t2.2,Ne.symm t3.2⟩,
  ⟨nd.2.2.2.1.1,Ne.symm nd.1.2.2.1,Ne.symm nd.2.1.2.1,Ne.symm nd.2.2.1.1⟩,⟨Ne.symm nd.1.2.2.2.1,Ne.symm nd.2.1.2.2.1,Ne.symm nd.2.2.1.2.1⟩,⟨nd.1.1,nd.1.2.1⟩,nd.2.1.1⟩
theorem Z0u {P:Prop} (h:P:=by
 rintro e w2 ⟨rfl,a1,a2,a3,a4,P,f⟩
 rw [hx] at a2 a4
 exact ⟨rfl,again w2 _ _ M' _ f six rfl (hqr▸a1) a3 (by rw [hqr];exact a2) a4 P⟩):P:=h
theorem Z0Y {P:Prop} (h:P:=by
 exact ⟨rfl,again w2 _ _ m.M _ f five rfl a1 a2 (rt5 w2 f) a3 P⟩):P:=h
theorem r_reap (A:Qq w F b m N ve vr vv LL) (I:MInv n m) (hw:who<m.ws.length) (hwo:(who:Int)<m.c.wo) (hN:N≤1000000000) (hn:n≤1000000000) (hs:(m.wk who).st=2) {r:Qy} (hk:(m.wk who).work=.Xl r):
 Calls Tryz.prog 57 #[.pointer (some ⟨b.pM,0,none⟩),.int .i64 who] w (YH w F b (QM m who) (N+1)):=by
 have T:=(A.th who hw).wk hs
 rw [hk] at T
 obtain ⟨bt,bm,bw,q,pf,pr,hvw,B,h1,h2,h3,hL⟩:=T
 have lv:=(I.wk who hwo).wk hs
 rw [hk] at lv
 obtain ⟨ho,lv⟩:=lv
 have sl:=I.mem.cf.2.1;have wo:=I.mem.cf.1
 have la:=lv.a
 have ten:=A.ten hw hL
 have Lin:∀x∈[bt,bm,bw,q,pf],x∈LL who:=fun x hx=>by rw [hL];simp at hx ⊢;rcases hx with h|h|h|h|h<;>simp [h]
 have hrin:∀x,pr=some x→x∈LL who:=fun x hx=>by rw [hL];simp [hx]
 have nd:=A.ln who hw
 rw [hL] at nd
 have ndr:∀x,pr=some x→x≠bt∧x≠bm∧x≠bw∧x≠q∧x≠pf:=fun x hx=>by
  simp only [List.nodup_cons,List.mem_cons,not_or,Option.mem_toList,Option.mem_def] at nd
  exact ⟨fun e=>nd.1.2.2.2.2 (e▸hx),fun e=>nd.2.1.2.2.2 (e▸hx),fun e=>nd.2.2.1.2.2 (e▸hx),fun e=>nd.2.2.2.1.2 (e▸hx),fun e=>nd.2.2.2.2.1 (e▸hx)⟩
 simp only [List.nodup_cons,List.mem_cons,not_or] at nd
 have s1:=A.sep hw (.inr (.inr (Lin bt Lc)));have s2:=A.sep hw (.inr (.inr (Lin bm Lc)));have s3:=A.sep hw (.inr (.inr (Lin bw Lc)));have s4:=A.sep hw (.inr (.inr (Lin q Lc)));have s5:=A.sep hw (.inr (.inr (Lin pf Lc)))
 have t1:=A.sep2 hw (Lin bt Lc);have t2:=A.sep2 hw (Lin bm Lc);have t3:=A.sep2 hw (Lin bw Lc);have t4:=A.sep2 hw (Lin q Lc);have t5:=A.sep2 hw (Lin pf Lc)
 have hfok:r.look.ok m.c:=⟨by rw [lv.kd];omega,by rw [lv.kd];omega,la.1,Lb⟩
 have S0:∀(l:List Nat),(∀x∈l,x=b.pW∨x=q∨x=pf∨x=b.pm∨x=b.qm∨pr=some x)→(bt∉l∧bm∉l∧bw∉l)∧∀x∈l,x=b.pM∨x=b.pW∨x=b.pm∨x=b.qm∨x∈LL who∨w.heap.size≤x:=fun l hl=>by
  refine ⟨⟨fun h=> ?_,fun h=> ?_,fun h=> ?_⟩,fun x hx=> ?_⟩
  · rcases hl _ h with e|e|e|e|e|e
    · exact s1.2.1 e
    · exact nd.1.2.2.1 e
    · exact nd.1.2.2.2.1 e
    · exact t1.1 e
    · exact t1.2 e
    · exact (ndr _ e).1 rfl
  · rcases hl _ h with e|e|e|e|e|e
    · exact s2.2.1 e
    · exact nd.2.1.2.1 e
    · exact nd.2.1.2.2.1 e
    · exact t2.1 e
    · exact t2.2 e
    · exact (ndr _ e).2.1 rfl
  · rcases hl _ h with e|e|e|e|e|e
    · exact s3.2.1 e
    · exact nd.2.2.1.1 e
    · exact nd.2.2.1.2.1 e
    · exact t3.1 e
    · exact t3.2 e
    · exact (ndr _ e).2.2.1 rfl
  · rcases hl _ hx with e|e|e|e|e|e
    · exact .inr (.inl e)
    · exact .inr (.inr (.inr (.inr (.inl (e▸Lin q Lc)))))
    · exact .inr (.inr (.inr (.inr (.inl (e▸Lin pf Lc)))))
    · exact .inr (.inr (.inl e))
    · exact .inr (.inr (.inr (.inl e)))
    · exact .inr (.inr (.inr (.inr (.inl (hrin x e)))))
 have five:∀x∈[b.pW,q,pf,b.pm,b.qm],x=b.pW∨x=q∨x=pf∨x=b.pm∨x=b.qm∨pr=some x:=fun x hx=>by
  simp only [List.mem_cons,List.not_mem_nil,or_false] at hx;rcases hx with h|h|h|h|h<;>simp [h]
 have rt5:∀w2,Fr [b.pW,q,pf,b.pm,b.qm] w w2→Yf w2 pr r.ret:=fun w2 f=>h3.fr f fun x hx hm=>by
  simp only [List.mem_cons,List.not_mem_nil,or_false] at hm
  have:=A.sep2 hw (hrin x hx);have h5:=A.sep hw (.inr (.inr (hrin x hx)))
  rcases hm with h|h|h|h|h
  · exact h5.2.1 h
  · exact (ndr x hx).2.2.2.1 h
  · exact (ndr x hx).2.2.2.2 h
  · exact this.1 h
  · exact this.2 h
 -- the same blocks again
 have again:∀(w2:World) (S':List Nat) (r':Qy) (M':List Int) (m':Qa),Fr S' w w2→(∀x∈S',x=b.pW∨x=q∨x=pf∨x=b.pm∨x=b.qm∨pr=some x)→m'={m with M:=M'}.setW who {(m.wk who) with work:=.Xl r'}→
  Xp w2 q pf pr r'→QY w2 pf m.c r'.look→Yf w2 pr r'.ret→Qm w2 b.pm b.qm M' (N+1)→QZ w2 b.pM b.pW b.pm b.pc b.pw m.ws.length who ve m.c m.entries m.at_ (fun k=>(m.wk k).cells (vv k)) (m.wk who) (vv who)→Goes w F b m' (N+1) w2:=by
  rintro w2 S' r' M' m' f hS' rfl a1 a2 a3 a4 P
  obtain ⟨⟨u1,u2,u3⟩,u4⟩:=S0 S' hS'
  refine A.Xa hw f u4 rfl rfl rfl rfl rfl rfl rfl rfl rfl P a4 (L':=LL who) (by refine Vv ?_ ?_;(exact hs);exact ⟨bt,bm,bw,q,pf,pr,hvw,B.ov f u1 u2 u3,a1,a2,a3,hL⟩) (A.ln who hw) fun x hx=>⟨.inl hx, ?_⟩
  have:=(A.l1 who hw x hx).1.2.1;have:=f.size;omega
 have eW:QM m who=J4 m who r:=by unfold QM;simp only [hk]
 rw [eW]
 clear eW
 refine Xo w _ _ _ _ _ _ who _ _ _ _ _ _ _ A.mb (A.row who) hw A.ne.1 155 bt bm bw hvw (fun args wx=>Qu Tryz.func155 (by kernel_rfl) rfl args wx) (fun w2=>Goes w F b _ (N+1) w2) ?_
 have hs4:r.st=0∨r.st=1∨r.st=2∨r.st=3:=by have:=lv.s0;have:=lv.s1;omega
 rcases hs4 with h0|h0|h0|h0
 · obtain ⟨f',fe,hx⟩:∃f' fe,QB m.c r.look m.M=(f',fe):=⟨_,_,rfl⟩
   have eW:J4 m who r=(if f'.found then m.setW who {(m.wk who) with work:=.Xl {r with look:=f',st:=1}} else if fe then m.setW who ({(m.wk who) with work:=.Xl {r with look:=f'}}.end_ who {ev0 with slot:=r.many}) else m.setW who {(m.wk who) with work:=.Xl {r with look:=f'}}):=by
    unfold J4;simp only;rw [if_pos h0,hx]
   rw [eW]
   rcases Bool.eq_false_or_eq_true f'.found with hf|hf
   · rw [if_pos hf]
     refine (Q0U (YB.mk A.mb (A.row who) hw A.me hN h1 h2 B ten A.fl I.mem.cf) h0 hfok (Z5 I) (by rw [hx];exact hf)).mono ?_
     rintro e w2 ⟨rfl,a1,a2,a3,P,f⟩
     rw [hx] at a1 a2
     exact Z0Y
   · rw [if_neg (by rw [hf];simp)]
     rcases Bool.eq_false_or_eq_true fe with he|he
     · rw [if_pos he]
       refine (Q4H (YB.mk A.mb (A.row who) hw A.me hN h1 h2 B ten A.fl I.mem.cf) h0 hfok (Z5 I) (by rw [hx];exact ⟨hf,he⟩)).mono ?_
       rintro e w2 ⟨rfl,a1,a2,a3,⟨p2,hp2,ht,P⟩,f⟩
       exact ⟨rfl,A.Xa hw f (S0 _ five).2 rfl rfl rfl rfl rfl rfl rfl rfl rfl P a3 (Wh (pl:=none) (pr:=none) rfl rfl rfl ht trivial trivial) Lc (by simp;exact ⟨.inr hp2,Q9 ht⟩)⟩
     · rw [if_neg (by rw [he];simp)]
       refine (Q2v (YB.mk A.mb (A.row who) hw A.me hN h1 h2 B ten A.fl I.mem.cf) h0 hfok (Z5 I) (by rw [hx];exact ⟨hf,he⟩)).mono ?_
       rintro e w2 ⟨rfl,a1,a2,a3,P,f⟩
       rw [hx] at a1 a2
       exact Z0Y
 · obtain ⟨f1,f2,s,f3,f4,f5⟩:=lv.fd Lb
   have hdec:dec r.look.word=some s:=by rw [f4];exact QF f3
   have eW:J4 m who r=(if (m.Qr.2&& !s.mkd&& !s.br)=true then m.Qr.1.setW who {(m.wk who) with work:=.Xl {r with st:=2}} else m.Qr.1.setW who {(m.wk who) with work:=.Xl {r with ret:=some (Jb m.c r.look.at_ r.look.word),st:=3}}):=by
    unfold J4;simp only;rw [if_neg Lb,if_pos h0,hdec];rfl
   rw [eW]
   have hne:=A.ne
   have WI:∀x∈b.pw::b.pr::vr.ownBlock.toList,x=b.pw∨x=b.pr∨vr.ownBlock=some x:=fun x hx=>by simpa using hx
   have NV:∀y∈b.l,vr.ownBlock≠some y:=fun y hy e=>(A.e2 y e).2.1 hy
   have WL:∀y∈LL who,y∉b.pw::b.pr::vr.ownBlock.toList:=fun y hy hm=>by
    have s:=A.sep hw (.inr (.inr hy))
    rcases WI y hm with e|e|e
    · exact s.2.2.2.1 e
    · exact s.2.2.2.2.1 e
    · exact s.2.2.2.2.2.1 e
   have hDW:∀x∈b.pw::b.pr::vr.ownBlock.toList,x≠b.pM∧x≠b.pW:=fun x hx=>by
    rcases WI x hx with e|e|e
    · exact ⟨fun h=>hne.2.2.2.1.1 (e.symm.trans h),fun h=>hne.2.2.2.1.2.1 (e.symm.trans h)⟩
    · exact ⟨fun h=>hne.2.2.2.1.2.2.1 (e.symm.trans h),fun h=>hne.2.2.2.1.2.2.2 (e.symm.trans h)⟩
    · exact ⟨fun h=>NV b.pM (by simp [Bs.l]) (h▸e),fun h=>NV b.pW (by simp [Bs.l]) (h▸e)⟩
   have hDQ:∀x∈b.pw::b.pr::vr.ownBlock.toList,x≠b.pM∧x≠q∧x≠0:=fun x hx=>
    ⟨(hDW x hx).1,fun h=>WL q (Lin q Lc) (h▸hx),fun h=>by
      have hb:Base b ve vr x:=by rcases WI x hx with e|e|e;exact .inl (by simp [Bs.l,e]);exact .inl (by simp [Bs.l,e]);exact .inr (.inr e)
      have:=(A.base hb).1;omega⟩
   have hLB:∀x∈b.pw::b.pr::vr.ownBlock.toList,x<w.heap.size:=fun x hx=>by
    have hb:Base b ve vr x:=by rcases WI x hx with e|e|e;exact .inl (by simp [Bs.l,e]);exact .inl (by simp [Bs.l,e]);exact .inr (.inr e)
    exact (A.base hb).2.1
   have hSW:∀(l:List Nat) (w1 w2:World),Fr l w1 w2→(∀x∈l,x=q)→UC b vr m.Qr.1 w1→UC b vr m.Qr.1 w2:=fun l w1 w2 f hl ⟨vr',z1,z2⟩=>by
    have Z:∀x,x∈b.pw::b.pr::vr.ownBlock.toList→x∉l:=fun x hx hxl=>(hDQ x hx).2.1 (hl x hxl)
    exact ⟨vr',z1.ov f (Z _ Lc) (Z _ Lc) (fun x hx=>Z x (by simp [z2 x hx])),z2⟩
   have hSn:∀x∈q::b.pw::b.pr::vr.ownBlock.toList,x=b.pM∨x=b.pW∨x=b.pm∨x=b.qm∨x=b.pw∨x=b.pr∨vr.ownBlock=some x∨x∈LL who:=fun x hx=>by
    rw [List.mem_cons] at hx
    rcases hx with rfl|h
    · exact .inr (.inr (.inr (.inr (.inr (.inr (.inr (Lin _ Lc)))))))
    · rcases WI x h with h|h|h
      · exact .inr (.inr (.inr (.inr (.inl h))))
      · exact .inr (.inr (.inr (.inr (.inr (.inl h)))))
      · exact .inr (.inr (.inr (.inr (.inr (.inr (.inl h))))))
   have Q:∀y∈LL who,y≠q→y∉q::b.pw::b.pr::vr.ownBlock.toList:=fun y hy hyq hm=>by
    rw [List.mem_cons] at hm
    rcases hm with h|h
    · exact hyq h
    · exact WL y hy h
   have bmp:b.pm∉q::b.pw::b.pr::vr.ownBlock.toList∧b.qm∉q::b.pw::b.pr::vr.ownBlock.toList:=by
    refine ⟨fun hm=> ?_,fun hm=> ?_⟩<;>rw [List.mem_cons] at hm<;>rcases hm with h|h
    · exact t4.1 h.symm
    · rcases WI _ h with h|h|h
      · exact hne.2.2.2.2.2.1 h.symm
      · exact hne.2.2.2.2.2.2.2.1 h.symm
      · exact NV b.pm (by simp [Bs.l]) h
    · exact t4.2 h.symm
    · rcases WI _ h with h|h|h
      · exact hne.2.2.2.2.2.2.1 h.symm
      · exact hne.2.2.2.2.2.2.2.2 h.symm
      · exact NV b.qm (by simp [Bs.l]) h
   have KB:∀w2,Fr (q::b.pw::b.pr::vr.ownBlock.toList) w w2→Y1 w2 bt bm bw b.pM q who 200∧QY w2 pf m.c r.look∧Qm w2 b.pm b.qm m.M (N+1):=fun w2 f=>
    ⟨B.ov f (Q bt (Lin bt Lc) nd.1.2.2.1) (Q bm (Lin bm Lc) nd.2.1.2.1) (Q bw (Lin bw Lc) nd.2.2.1.1),h2.fr f (Q pf (Lin pf Lc) (Ne.symm nd.2.2.2.1.1)),(A.me.fr f bmp.1 bmp.2).mono Lb⟩
   by_cases hg:(m.Qr.2&& !s.mkd&& !s.br)=true
   · rw [if_pos hg]
     refine (Du (YB.mk A.mb (A.row who) hw A.me hN h1 h2 B ten A.fl I.mem.cf) h0 (b.pw::b.pr::vr.ownBlock.toList) (fun w2=>Xp w2 q pf pr {r with st:=2}∧UC b vr m.Qr.1 w2) hDW fun w1 f=> ?_).mono ?_
     · refine (Q4w w1 _ _ _ _ _ _ _ _ _ _ (f.at A.mb Lc) q pf pr r s (h1.fr f Lc) (h2.fr f Lc) f1 f3 f4 (A.fl.fr f Lc) I.mem.cf _ (UC b vr m.Qr.1) m.Qr.2 hSW hDQ (fun x hx h=>by have:=hLB x hx;have:=f.size;omega) ⟨s4.1,by have:=s4.2.2.2.2.2.2.2.1;omega⟩ (fun w2 f2=>E9 A I hn w2 (f.trans f2)) ?_).mono ?_
       · simp only [Bool.and_eq_true,Bool.not_eq_true'] at hg;exact ⟨hg.1.1,hg.1.2,hg.2⟩
       · rintro e w2 ⟨rfl,a1,a2,f2⟩;exact ⟨rfl,⟨a1,a2⟩,f2⟩
     · rintro e w2 ⟨rfl,⟨a1,vr',z1,z2⟩,P,f⟩
       obtain ⟨y1,y2,y3⟩:=KB w2 f
       refine ⟨rfl,A.Dt hw f hSn (L':=LL who) rfl rfl rfl rfl rfl rfl P y3 z1 z2 (by refine Vv ?_ ?_;(exact hs);exact ⟨bt,bm,bw,q,pf,pr,hvw,y1,a1,y2,h3.fr f (fun x hx=>Q x (hrin x hx) (ndr x hx).2.2.2.1),hL⟩) (A.ln who hw) fun x hx=>⟨.inl hx, ?_⟩⟩
       have:=(A.l1 who hw x hx).1.2.1;have:=f.size;omega
   · rw [if_neg hg]
     refine (Du (YB.mk A.mb (A.row who) hw A.me hN h1 h2 B ten A.fl I.mem.cf) h0 (b.pw::b.pr::vr.ownBlock.toList) (fun w2=>(∃qr,w.heap.size≤qr∧Xp w2 q pf (some qr) {r with ret:=some (Jb m.c r.look.at_ r.look.word),st:=3}∧JK w2 qr (Jb m.c r.look.at_ r.look.word))∧UC b vr m.Qr.1 w2) hDW fun w1 f=> ?_).mono ?_
     · refine (Q6u w1 _ _ _ _ _ _ _ _ _ _ (f.at A.mb Lc) q pf pr r s (h1.fr f Lc) (h2.fr f Lc) f1 f3 f4 (A.fl.fr f Lc) I.mem.cf _ (UC b vr m.Qr.1) m.Qr.2 hSW hDQ (fun x hx h=>by have:=hLB x hx;have:=f.size;omega) ⟨s4.1,by have:=s4.2.2.2.2.2.2.2.1;omega⟩ (fun w2 f2=>E9 A I hn w2 (f.trans f2)) (by simpa using hg)).mono ?_
       rintro e w2 ⟨rfl,⟨qr,b1,b2,b3⟩,a2,f2⟩;exact ⟨rfl,⟨⟨qr,Nat.le_trans f.size b1,b2,b3⟩,a2⟩,f2⟩
     · rintro e w2 ⟨rfl,⟨⟨qr,b1,b2,b3⟩,vr',z1,z2⟩,P,f⟩
       obtain ⟨y1,y2,y3⟩:=KB w2 f
       obtain ⟨u1,u2⟩:=A.now hw (l:=[bt,bm,bw,q,pf]) (pl:=none) (pr:=pr) (pl':=none) (pr':=some qr) (by rw [hL];rfl) f.size Lc (fun x hx=>by cases hx;exact .inr b1) Lc Lc (fun x hx=>by cases hx;exact Q9 b3)
       exact ⟨rfl,A.Dt hw f hSn (L':=[bt,bm,bw,q,pf]++((none:Option Nat).toList++(some qr).toList)) rfl rfl rfl rfl rfl rfl P y3 z1 z2 (by refine Vv ?_ ?_;(exact hs);exact ⟨bt,bm,bw,q,pf,some qr,hvw,y1,b2,y2,b3,rfl⟩) u1 u2⟩
 · obtain ⟨f1,f2,s,f3,f4,f5⟩:=lv.fd Lb
   have hdec:dec r.look.word=some s:=by rw [f4];exact QF f3
   have hw15:who≤15:=Lb
   cases hnx:Qk s 10 who 0 with
   |none=>
    have eW:J4 m who r={m with M:=m.M}.setW who {(m.wk who) with work:=.Xl r.QO}:=by
     have:J6 r.look.word 10 who 0=none:=by unfold J6;rw [hdec,Option.bind_some,hnx];rfl
     unfold J4;simp only;rw [if_neg Lb,if_neg Lb,if_pos h0,this]
    rw [eW]
    refine (Uf (YB.mk A.mb (A.row who) hw A.me hN h1 h2 B ten A.fl I.mem.cf) h0 s f1 f3 f4 hw15 la.1 Lb hnx).mono ?_
    rintro e w2 ⟨rfl,a1,a2,a3,P,f⟩
    exact Z0Y
   |some u=>
    have eW:J4 m who r={m with M:=QI m.M (Q5 m.c r.look.at_) r.look.word u.enc}.setW who {(m.wk who) with work:=.Xl r.QO}:=by
     unfold J4;simp only;rw [if_neg Lb,if_neg Lb,if_pos h0,DT hdec hnx]
    rw [eW]
    refine (Q2w (YB.mk A.mb (A.row who) hw A.me hN h1 h2 B ten A.fl I.mem.cf) h0 s f1 f3 f4 hw15 la.1 Lb u hnx).mono ?_
    rintro e w2 ⟨rfl,a1,a2,a3,P,f⟩
    exact ⟨rfl,again w2 _ _ _ _ f five rfl a1 a2 (rt5 w2 f) a3 P⟩
 · obtain ⟨t,ht,hlt⟩:=lv.rt h0
   rw [ht] at h3
   obtain ⟨qr,hqr,hrv⟩:=h3.get
   have er:r.rt=t:=by unfold Qy.rt;rw [ht];rfl
   have hrok:t.ok:=by obtain ⟨⟨s,d1,d2, -⟩,d3,d4, -, -⟩:=hlt;exact ⟨⟨s,d1,d2⟩,fun _=>d4,fun x=>absurd x d3⟩
   have sq:=A.sep hw (.inr (.inr (hrin qr hqr)));have tq:=A.sep2 hw (hrin qr hqr);have nq:=ndr qr hqr
   have hqq:qr≠b.pM∧qr≠b.pW∧qr≠b.pm∧qr≠b.qm∧qr≠q∧qr≠pf∧qr≠bt∧qr≠bm∧qr≠bw∧qr≠0:=⟨sq.1,sq.2.1,tq.1,tq.2,nq.2.2.2.1,nq.2.2.2.2,nq.1,nq.2.1,nq.2.2.1,by have:=sq.2.2.2.2.2.2.2.1;omega⟩
   have six:∀x∈[b.pW,q,pf,b.pm,b.qm,qr],x=b.pW∨x=q∨x=pf∨x=b.pm∨x=b.qm∨pr=some x:=fun x hx=>by
    simp only [List.mem_cons,List.not_mem_nil,or_false] at hx;rcases hx with h|h|h|h|h|h<;>simp [h,hqr]
   obtain ⟨t',M',hx⟩:∃t' M',Qn t m.M=(t',M'):=⟨_,_,rfl⟩
   have eW:J4 m who r={m with M:=M'}.setW who {(m.wk who) with work:=.Xl (if t'.done then {({r with ret:=some t'}:Qy) with many:=if t'.swapped then r.many+1 else r.many}.QO else {r with ret:=some t'})}:=by
    unfold J4;simp only;rw [if_neg Lb,if_neg Lb,if_neg Lb,er,hx]
   rw [eW]
   have hmn:=lv.mn
   rcases Bool.eq_false_or_eq_true t'.done with hd|hd
   · rw [if_pos hd]
     rcases Bool.eq_false_or_eq_true t'.swapped with hsw|hsw
     · rw [if_pos hsw]
       refine (UQ (YB.mk A.mb (A.row who) hw A.me hN h1 h2 B ten A.fl I.mem.cf) h0 qr t hqr hrv hrok hqq la.1 Lb hmn.1 Lb (by rw [hx];exact ⟨hd,hsw⟩)).mono ?_
       exact Z0u
     · rw [if_neg (by rw [hsw];simp)]
       refine (Q2x (YB.mk A.mb (A.row who) hw A.me hN h1 h2 B ten A.fl I.mem.cf) h0 qr t hqr hrv hrok hqq la.1 Lb hmn.1 Lb (by rw [hx];exact ⟨hd,hsw⟩)).mono ?_
       exact Z0u
   · rw [if_neg (by rw [hd];simp)]
     refine (Q6F (YB.mk A.mb (A.row who) hw A.me hN h1 h2 B ten A.fl I.mem.cf) h0 qr t hqr hrv hrok hqq la.1 Lb (by rw [hx];exact hd)).mono ?_
     exact Z0u
end
section
open Go.RowKit Go.Shelf Go.Lib
variable {w w':World} {b:Bs} {c:Q0} {who:Nat} {k:Q8} {v:Je} {L S:List Nat} {F:List Nat} {m:Qa} {N N' n:Int} {ve vr:Value} {vv:Nat→Je} {LL:Nat→List Nat}
def JNew (b:Bs) (c:Q0) (who:Nat) (z:Nat) (job:Yh) (w2:World) (x:Value):Prop:=∃l,DU w2 b c who x l job∧l.Nodup∧∀y∈l,z≤y∧y<w2.heap.size
def Q35 (w1:World) (b:Bs) (c:Q0) (who:Nat) (z:Nat) (job:Yh) (e:Ending) (w2:World):Prop:=∃fw bs cs,e=.returned (.func fw bs cs)∧JNew b c who z job w2 (.func fw bs cs)∧Fr [] w1 w2
theorem Q1b {w1:World} {z:Nat} {t:Qd} {e:Ending} {w3:World} (hl:t.look=none) (hr:t.ret=none) (hz:z≤w1.heap.size) (h:Yi w1 113 b.pM who 134 (fun w w1 p=>w.heap.size≤p∧Xh w1 p none none c t) e w3):Q35 w1 b c who z (.get t) e w3:=by
 obtain ⟨w2,p,bt,bm,bw,rfl,⟨hp,ht⟩,f1,⟨q1,q2,q3⟩,B,f2⟩:=h
 have a1:=f1.size;have a2:=f2.size;have hlt:=Q9 ht
 have l1:=Q9 B.ft;have l2:=Q9 B.fm;have l3:=Q9 B.fw
 obtain ⟨d1,d2,d3⟩:=B.ne
 refine ⟨_,_,_,rfl,⟨[bt,bm,bw,p],⟨bt,bm,bw,p,none,none,rfl,B,ht.fr f2 Lc,by rw [hl];trivial,by rw [hr];trivial,rfl⟩, ?_,fun y hy=> ?_⟩,f1.trans f2⟩
 · simp only [List.nodup_cons,List.mem_cons,List.not_mem_nil,or_false,not_or,List.nodup_nil,and_true,not_false_eq_true]
   exact ⟨⟨d1,d2,Lb⟩,⟨d3,Lb⟩,Lb⟩
 · simp only [List.mem_cons,List.not_mem_nil,or_false] at hy
   rcases hy with rfl|rfl|rfl|rfl<;>omega
theorem DI {w1:World} {z:Nat} {g:QC} {e:Ending} {w3:World} (hr:g.ret=none) (hz:z≤w1.heap.size) (h:Yi w1 146 b.pM who 156 (fun w w1 p=>w.heap.size≤p∧Xf w1 p none c g) e w3):Q35 w1 b c who z (.give g) e w3:=by
 obtain ⟨w2,p,bt,bm,bw,rfl,⟨hp,ht⟩,f1,⟨q1,q2,q3⟩,B,f2⟩:=h
 have a1:=f1.size;have a2:=f2.size;have hlt:=Q9 ht
 have l1:=Q9 B.ft;have l2:=Q9 B.fm;have l3:=Q9 B.fw
 obtain ⟨d1,d2,d3⟩:=B.ne
 refine ⟨_,_,_,rfl,⟨[bt,bm,bw,p],⟨bt,bm,bw,p,none,rfl,B,ht.fr f2 Lc,by rw [hr];trivial,rfl⟩, ?_,fun y hy=> ?_⟩,f1.trans f2⟩
 · simp only [List.nodup_cons,List.mem_cons,List.not_mem_nil,or_false,not_or,List.nodup_nil,and_true,not_false_eq_true]
   exact ⟨⟨d1,d2,Lb⟩,⟨d3,Lb⟩,Lb⟩
 · simp only [List.mem_cons,List.not_mem_nil,or_false] at hy
   rcases hy with rfl|rfl|rfl|rfl<;>omega
theorem DF {w1:World} {z:Nat} {g:QN} {e:Ending} {w3:World} (hz:z≤w1.heap.size) (h:Yi w1 149 b.pM who 159 (Q1C c g) e w3):Q35 w1 b c who z (.strm g) e w3:=by
 obtain ⟨w2,p,bt,bm,bw,rfl,⟨b1,b2,fn,⟨hp,hb1,hb2,n1,n2,n3⟩,ht,hc⟩,f1,⟨q1,q2,q3⟩,B,f2⟩:=h
 have a1:=f1.size;have a2:=f2.size;have hlt:=Q9 ht
 have l1:=Q9 B.ft;have l2:=Q9 B.fm;have l3:=Q9 B.fw
 have c1:=Q9 hc.1
 have c2:b2<w2.heap.size:=by
  have:=hc.2
  split at this
  · exact Q9 this.2
  · exact Q9 this.2
 obtain ⟨d1,d2,d3⟩:=B.ne
 refine ⟨_,_,_,rfl,⟨[bt,bm,bw,p,b1,b2],⟨bt,bm,bw,p,b1,b2,fn,rfl,B,ht.fr f2 Lc,hc.ov f2 Lc Lc,rfl⟩, ?_,fun y hy=> ?_⟩,f1.trans f2⟩
 · simp only [List.nodup_cons,List.mem_cons,List.not_mem_nil,or_false,not_or,List.nodup_nil,and_true,not_false_eq_true]
   exact ⟨⟨d1,d2,Lb,Lb,Lb⟩,⟨d3,Lb,Lb,Lb⟩,⟨Lb,Lb,Lb⟩,⟨n1,n2⟩,n3⟩
 · simp only [List.mem_cons,List.not_mem_nil,or_false] at hy
   rcases hy with rfl|rfl|rfl|rfl|rfl|rfl<;>omega
theorem Q54 {w1:World} {z:Nat} {e:Ending} {w3:World} (hz:z≤w1.heap.size) (h:Q04 w1 b.pM c who e w3):Q35 w1 b c who z (.Xl (JV who)) e w3:=by
 obtain ⟨bt,bm,bw,q,pf,rfl,⟨q1,q2,q3,q4,q5⟩,⟨n1,n2,n3,n4,n5,n6,n7,n8,n9,n10⟩,B,h1,h2,f⟩:=h
 have l1:=Q9 B.ft;have l2:=Q9 B.fm;have l3:=Q9 B.fw;have l4:=Q9 h1;have l5:=Q9 h2
 refine ⟨_,_,_,rfl,⟨[bt,bm,bw,q,pf],⟨bt,bm,bw,q,pf,none,rfl,B,h1,h2,trivial,rfl⟩, ?_,fun y hy=> ?_⟩,f⟩
 · simp only [List.nodup_cons,List.mem_cons,List.not_mem_nil,or_false,not_or,List.nodup_nil,and_true,not_false_eq_true]
   exact ⟨⟨n1,n2,n3,n4⟩,⟨n5,n6,n7⟩,⟨n8,n9⟩,n10⟩
 · simp only [List.mem_cons,List.not_mem_nil,or_false] at hy
   rcases hy with rfl|rfl|rfl|rfl|rfl<;>omega
theorem Q2O {w1:World} {z:Nat} {e:Ending} {w3:World} (hz:z≤w1.heap.size) (h:UH w1 b.pM c who e w3):Q35 w1 b c who z (.stats Y7) e w3:=by
 obtain ⟨bt,bm,bw,p,rfl,⟨q1,q2,q3,q4⟩,⟨n1,n2,n3⟩,B,h1,f⟩:=h
 have l1:=Q9 B.ft;have l2:=Q9 B.fm;have l3:=Q9 B.fw;have l4:=Q9 h1.b
 obtain ⟨d1,d2,d3⟩:=B.ne
 refine ⟨_,_,_,rfl,⟨[bt,bm,bw,p],⟨bt,bm,bw,p,_,_,rfl,B,h1,rfl⟩, ?_,fun y hy=> ?_⟩,f⟩
 · simp only [List.nodup_cons,List.mem_cons,List.not_mem_nil,or_false,not_or,List.nodup_nil,and_true,not_false_eq_true]
   exact ⟨⟨d1,d2,n1⟩,⟨d3,n2⟩,n3⟩
 · simp only [List.mem_cons,List.not_mem_nil,or_false] at hy
   rcases hy with rfl|rfl|rfl|rfl<;>omega
theorem Q2P {w1:World} {z:Nat} {fc:Bool} {e:Ending} {w3:World} (hz:z≤w1.heap.size) (h:∃bt bm bw bf,e=.returned (.func (.func 163) #[] #[.pointer (some ⟨bt,0,none⟩),.pointer (some ⟨bm,0,none⟩),.pointer (some ⟨bw,0,none⟩),.pointer (some ⟨bf,0,none⟩)])∧
 w1.heap.size≤bt∧w1.heap.size≤bm∧w1.heap.size≤bw∧w1.heap.size≤bf∧Wu w3 bt bm bw bf b.pM who fc (.pointer none)∧Fr [] w1 w3):Q35 w1 b c who z (.close fc none) e w3:=by
 obtain ⟨bt,bm,bw,bf,rfl,q1,q2,q3,q4,B,f⟩:=h
 have l1:=Q9 B.ft;have l2:=Q9 B.fm;have l3:=Q9 B.fw;have l4:=Q9 B.ff
 obtain ⟨d1,d2,d3,d4,d5,d6⟩:=B.ne
 refine ⟨_,_,_,rfl,⟨[bt,bm,bw,bf],⟨bt,bm,bw,bf,none,rfl,B,trivial,rfl⟩, ?_,fun y hy=> ?_⟩,f⟩
 · simp only [List.nodup_cons,List.mem_cons,List.not_mem_nil,or_false,not_or,List.nodup_nil,and_true,not_false_eq_true]
   exact ⟨⟨d1,d2,Ne.symm d4⟩,⟨d3,Ne.symm d5⟩,Ne.symm d6⟩
 · simp only [List.mem_cons,List.not_mem_nil,or_false] at hy
   rcases hy with rfl|rfl|rfl|rfl<;>omega
def JAsk (w:World) (b:Bs) (m:Qa) (who:Nat) (ve:Value) (vv:Nat→Je) (job:Yh):Prop:=∀w' jk jm jw jc ja,Fr [b.pW,b.pm,b.qm] w w'→QG w' b.pM b.pW b.pm b.pc b.pw m.ws.length ve m.c m.entries m.at_→QL w' b.pW m.ws.length (upd (fun k=>(m.wk k).cells (vv k)) who (({(m.wk who) with half:=false}:Q8).cells (vv who)))→
 w'.heap[jk]?=some (.cells #[.pointer (some ⟨b.pW,who*35,none⟩)] 98 (0,0))→Q06 w' jm jw jc ja b.pM who m.c (m.wk who).ask→
  ∃fn caps i,(Lit.int .i64 (m.wk who).ask.op).wf=true∧Instr.findNow (.int .i64) (.int .i64 (m.wk who).ask.op) (Q6T jk jm jw jc ja).toList 0=some (some (i,.func (.func fn) #[] caps))∧(∀(args:Array Value) (wx:World),(callFunc fn args).run Tryz.prog wx=.ok (.enter fn args) wx)∧
   Calls Tryz.prog fn caps w' (Q35 w' b m.c who w.heap.size job)
theorem Q8W (I:MInv n m) (hw:who<m.ws.length) (hwo:(who:Int)<m.c.wo) (hs:(m.wk who).st=1):JAsk w b m who ve vv (Vg m.c who (m.wk who)):=by
 intro w1 jk jm jw jc ja f mb wr hjk B
 have hz:=f.size
 obtain ⟨o0,o1⟩:=(I.wk who hwo).op Lb
 have gr:=(I.wk who hwo).gr
 have ops:(m.wk who).ask.op=0∨(m.wk who).ask.op=1∨(m.wk who).ask.op=2∨(m.wk who).ask.op=3∨(m.wk who).ask.op=4∨(m.wk who).ask.op=5∨(m.wk who).ask.op=6∨(m.wk who).ask.op=7:=Lb
 unfold Vg
 rcases ops with o|o|o|o|o|o|o|o
 · rw [if_pos o]
   refine ⟨_,_,0,by rw [o];decide,by rw [o];rfl,fun args wx=>Qu Tryz.func93 (by kernel_rfl) rfl args wx, ?_⟩
   by_cases hg:0<(m.wk who).grant
   · rw [if_pos hg]
     refine (UW w1 _ _ _ who m.c _ {(m.wk who) with half:=false} _ wr hw jk jm jw jc hjk B.fm B.fw B.fc hg (by show (m.wk who).grant≤1000000000;omega)).mono ?_
     intro e w3 h;exact Q1b rfl rfl hz h
   · rw [if_neg hg]
     refine (Q4R w1 _ _ _ who m.c _ {(m.wk who) with half:=false} _ wr hw jk jm jw jc hjk B.fm B.fw B.fc hg).mono ?_
     intro e w3 h;exact Q1b rfl rfl hz h
 · rw [if_neg Lb,if_pos o]
   refine ⟨_,_,1,by rw [o];decide,by rw [o];rfl,fun args wx=>Qu Tryz.func95 (by kernel_rfl) rfl args wx, ?_⟩
   exact (Q4Q w1 jm jw jc ja _ who m.c _ B).mono fun e w3 h=>DI rfl hz h
 · rw [if_neg Lb,if_neg Lb,if_pos o]
   refine ⟨_,_,2,by rw [o];decide,by rw [o];rfl,fun args wx=>Qu Tryz.func98 (by kernel_rfl) rfl args wx, ?_⟩
   exact (Q4P w1 jm jw jc ja _ who m.c _ B).mono fun e w3 h=>DI rfl hz h
 · rw [if_neg Lb,if_neg Lb,if_neg Lb,if_pos o]
   refine ⟨_,_,3,by rw [o];decide,by rw [o];rfl,fun args wx=>Qu Tryz.func99 (by kernel_rfl) rfl args wx, ?_⟩
   exact (Q4O w1 jm jw jc ja _ who m.c _ B).mono fun e w3 h=>DF hz h
 · rw [if_neg Lb,if_neg Lb,if_neg Lb,if_neg Lb,if_pos o]
   refine ⟨_,_,4,by rw [o];decide,by rw [o];rfl,fun args wx=>Qu Tryz.func102 (by kernel_rfl) rfl args wx, ?_⟩
   exact (Q4N w1 jm jw jc ja _ who m.c _ B).mono fun e w3 h=>DF hz h
 · rw [if_neg Lb,if_neg Lb,if_neg Lb,if_neg Lb,if_neg Lb,if_pos o]
   refine ⟨_,_,5,by rw [o];decide,by rw [o];rfl,fun args wx=>Qu Tryz.func104 (by kernel_rfl) rfl args wx, ?_⟩
   exact (Q4M w1 _ _ _ _ _ _ _ _ _ _ mb who jm jw B.fm B.fw).mono fun e w3 h=>Q54 hz h
 · rw [if_neg Lb,if_neg Lb,if_neg Lb,if_neg Lb,if_neg Lb,if_neg Lb,if_pos o]
   refine ⟨_,_,6,by rw [o];decide,by rw [o];rfl,fun args wx=>Qu Tryz.func106 (by kernel_rfl) rfl args wx, ?_⟩
   exact (Q4L w1 _ who jm jw ja _ B.fm B.fw B.fa).mono fun e w3 h=>Q2P hz h
 · rw [if_neg Lb,if_neg Lb,if_neg Lb,if_neg Lb,if_neg Lb,if_neg Lb,if_neg Lb]
   refine ⟨_,_,7,by rw [o];decide,by rw [o];rfl,fun args wx=>Qu Tryz.func108 (by kernel_rfl) rfl args wx, ?_⟩
   exact (Q4K w1 _ _ _ _ _ _ _ _ _ _ mb who jm jw B.fm B.fw).mono fun e w3 h=>Q2O hz h
theorem r_pins (A:Qq w F b m N ve vr vv LL) (I:MInv n m) (hw:who<m.ws.length) (hwo:(who:Int)<m.c.wo) (hN:N≤1000000000) (hn:n≤1000000000) (hs:(m.wk who).st=1):
 Calls Tryz.prog 56 #[.pointer (some ⟨b.pM,0,none⟩),.int .i64 who] w (YH w F b ({m with M:=(XE (m.wk who) m.c who m.M).2}.setW who (XE (m.wk who) m.c who m.M).1) (N+1)):=by
 rcases Bool.eq_false_or_eq_true (m.wk who).half with hh|hh
 · have e:XE (m.wk who) m.c who m.M=({(m.wk who) with half:=false,work:=Vg m.c who (m.wk who),st:=2},Qp m.M (3+who) ((m.wk who).word+1)):=by unfold XE;rw [if_neg (by rw [hh];simp)]
   rw [e]
   have hp:=(I.wk who hwo).pin hs hh
   have hpW:=A.bl b.pW (by simp [Bs.l])
   refine (Q0V w _ _ _ _ _ _ who _ _ _ _ _ _ _ A.mb (A.row who) hw A.ne.1 _ m.M N A.me hN A.ne.2.1 hh I.mem.cf hwo Lb Lb (Vg m.c who (m.wk who)) (JNew b m.c who w.heap.size (Vg m.c who (m.wk who))) (fun l w1 w2 x f hl ⟨l',j1,j2,j3⟩=>⟨l',j1.fr f (fun y hy hyl=>by have:=j3 y hy;have:=hl y hyl;omega),j2,fun y hy=>⟨(j3 y hy).1,by have:=(j3 y hy).2;have:=f.size;omega⟩⟩) (fun w1 jk jm jw jc ja f mb wr hjk B=>Q8W I hw hwo hs w1 jk jm jw jc ja f mb wr hjk B)).mono ?_
   rintro e w2 ⟨rfl,fw,bs,cs,P,⟨l',j1,j2,j3⟩,a2,f⟩
   exact ⟨rfl,A.Xa hw f (Uc A) rfl rfl rfl rfl rfl rfl rfl rfl rfl P a2 (Vv rfl j1) j2 fun y hy=>⟨.inr (j3 y hy).1,(j3 y hy).2⟩⟩
 · have e:XE (m.wk who) m.c who m.M=({(m.wk who) with word:=Q6 m.M 2,half:=true},m.M):=by unfold XE;rw [if_pos hh]
   rw [e]
   refine (Q2y w _ _ _ _ _ _ who _ _ _ _ _ _ _ A.mb (A.row who) hw A.ne.1 _ m.M N A.me hN A.ne.2.1 hh).mono ?_
   rintro e w2 ⟨rfl,P,a2,f⟩
   exact ⟨rfl,A.Xa hw f (Uc A) rfl rfl rfl rfl rfl rfl rfl rfl rfl P a2 (Ed (.inr (.inl (by exact hs)))) Lc Lc⟩
theorem r_step (A:Qq w F b m N ve vr vv LL) (I:MInv n m) (hw:who<m.ws.length) (hwo:(who:Int)<m.c.wo) (hN:N≤1000000000) (hn:n≤1000000000) (hs:(m.wk who).st≠0):
 Calls Tryz.prog (Uj.getD (m.wk who).st.toNat 0) #[.pointer (some ⟨b.pM,0,none⟩),.int .i64 who] w (YH w F b (Qs m who) (N+1)):=by
 have Lv:=I.wk who hwo
 have s:(m.wk who).st=1∨(m.wk who).st=2∨(m.wk who).st=3∨(m.wk who).st=4∨(m.wk who).st=5∨(m.wk who).st=6∨(m.wk who).st=7∨(m.wk who).st=8:=by have:=Lv.s0;have:=Lv.s1;omega
 unfold Qs
 simp only
 rcases s with s|s|s|s|s|s|s|s
 · rw [if_pos s,s];exact r_pins A I hw hwo hN hn s
 · rw [if_neg Lb,if_pos s,s]
   cases hk:(m.wk who).work with
   |none=>have:=Lv.wk s;rw [hk] at this;exact this.elim
   |get t=>exact r_get A I hw hwo hN hn s hk
   |give g=>exact r_give A I hw hwo hN s hk
   |strm g=>exact r_strm A I hw hwo hN s hk
   |Xl r=>exact r_reap A I hw hwo hN hn s hk
   |close fc d=>exact Q8q A I hw hwo hN s hk
   |stats t=>exact Q8p A I hw hwo hN hn s hk
 · rw [if_neg Lb,if_neg Lb,if_pos s,s];exact Q6n A I hw hwo hN hn s
 · rw [if_neg Lb,if_neg Lb,if_neg Lb,if_pos s,s];exact Q6m A I hw hwo hN s
 · rw [if_neg Lb,if_neg Lb,if_neg Lb,if_neg Lb,if_pos s,s];exact Q6j A I hw hwo hN hn s
 · rw [if_neg Lb,if_neg Lb,if_neg Lb,if_neg Lb,if_neg Lb,if_pos s,s];exact Q6k A I hw hwo hN s
 · rw [if_neg Lb,if_neg Lb,if_neg Lb,if_neg Lb,if_neg Lb,if_neg Lb,if_pos s,s];exact Q3j A I hw hwo hN s
 · rw [if_neg Lb,if_neg Lb,if_neg Lb,if_neg Lb,if_neg Lb,if_neg Lb,if_neg Lb,if_pos s,s];exact Q0C A I hw hwo hN s
end
end Go.Proofs.YtgjklfmnmljilaaGreatDoor
