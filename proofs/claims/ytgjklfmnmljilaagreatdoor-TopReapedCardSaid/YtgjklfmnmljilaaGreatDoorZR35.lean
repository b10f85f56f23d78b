/- A part of the proof. -/
import Derived.Test.YtgjklfmnmljilaaGreatDoorZR34
namespace Go.Proofs.YtgjklfmnmljilaaGreatDoor
set_option linter.unusedVariables false
set_option linter.unusedSimpArgs false
set_option linter.unusedSectionVars false
set_option linter.unnecessarySimpa false
set_option maxRecDepth 100000
set_option maxHeartbeats 8000000
section
open Go.RowKit Go.Shelf Go.Lib
variable {w w':World} {b:Bs} {c:Q0} {who:Nat} {k:Q8} {v:Je} {L S:List Nat} {F:List Nat} {m:Qa} {N n:Int} {ve vr:Value} {vv:Nat→Je} {LL:Nat→List Nat}
theorem Q8i {M M':List Int} {g g':QN} (h:SmS c M g g' M'):g'.w=g.w∧g'.opens=g.opens∧g'.n=g.n:=by
 cases h<;>exact ⟨rfl,rfl,rfl⟩
theorem Gl.same {b1 b2:Nat} {fn:FuncId} {g g':QN} (h:Gl w b1 b2 fn c g) (e:g'.w=g.w∧g'.opens=g.opens∧g'.n=g.n):Gl w b1 b2 fn c g':=by
 unfold Gl at*;rw [e.1,e.2.1,e.2.2];exact h
theorem r_strm (A:Qq w F b m N ve vr vv LL) (I:MInv n m) (hw:who<m.ws.length) (hwo:(who:Int)<m.c.wo) (hN:N≤1000000000) (hs:(m.wk who).st=2) {g:QN} (hk:(m.wk who).work=.strm g):
 Calls Tryz.prog 57 #[.pointer (some ⟨b.pM,0,none⟩),.int .i64 who] w (YH w F b (QM m who) (N+1)):=by
 have T:=(A.th who hw).wk hs
 rw [hk] at T
 obtain ⟨bt,bm,bw,p,b1,b2,fn,hvw,B,h1,h3,hL⟩:=T
 have lv:=(I.wk who hwo).wk hs
 rw [hk] at lv
 obtain ⟨ho,lv,hi,hg,hop⟩:=lv
 have hpin:p∈LL who:=by rw [hL];simp
 have h1in:b1∈LL who:=by rw [hL];simp
 have h2in:b2∈LL who:=by rw [hL];simp
 have nd:=A.ln who hw
 rw [hL] at nd
 simp only [List.nodup_cons,List.mem_cons,List.not_mem_nil,or_false,not_or,List.nodup_nil,and_true,not_false_eq_true] at nd
 have sp:=A.sep hw (.inr (.inr hpin));have s1:=A.sep hw (.inr (.inr h1in));have s2:=A.sep hw (.inr (.inr h2in))
 have tp:=A.sep2 hw hpin;have t1:=A.sep2 hw h1in;have t2:=A.sep2 hw h2in
 have bm1:=A.bl b.pm (by simp [Bs.l]);have bm2:=A.bl b.qm (by simp [Bs.l])
 have hF:Wd w p b1 b2 b.pm b.qm:=⟨⟨tp.1,tp.2,Lb,Lb,Lb,sp.2.2.2.2.2.2.2.2,bm1.2.1,bm2.2.1,Ne.symm nd.2.2.2.1.1,t1.1,t1.2,s1.2.2.2.2.2.2.2.2,Ne.symm nd.2.2.2.1.2,t2.1,t2.2,s2.2.2.2.2.2.2.2.2⟩⟩
 have hok:g.ok:=⟨lv.s0,by have:=lv.s1;omega,by rw [lv.tw];omega,by rw [lv.tw];have:=I.mem.cf.1;omega⟩
 have hSin:∀x∈[p,b.pm,b.qm],x=b.pm∨x=b.qm∨x∈LL who:=fun x hx=>by
  simp only [List.mem_cons,List.not_mem_nil,or_false] at hx;rcases hx with rfl|h|h
  · exact .inr (.inr hpin)
  · exact .inl h
  · exact .inr (.inl h)
 have same:=Q8i (V9 m.c who g m.M lv)
 have hHC:∀w1,Fr [] w w1→Calls Tryz.prog 150 #[.pointer (some ⟨p,0,none⟩),.pointer (some ⟨b.pm,0,none⟩)] w1 (Gj w1 p b1 b2 b.pm b.qm fn m.c N (QA m.c g m.M)):=fun w1 f=>by
  have hs':=f.size
  obtain ⟨x1,x2,x3,x4,x5,x6,x7,x8,x9,x10,x11,x12,x13,x14,x15,x16⟩:=hF.pp
  exact Q4a w1 p b1 b2 b.pm b.qm fn m.c g m.M N (h1.fr f Lc) ⟨⟨x1,x2,x3,x4,x5,Lb,Lb,Lb,x9,x10,x11,Lb,x13,x14,x15,Lb⟩⟩ (h3.ov f Lc Lc) (A.me.fr f Lc Lc) hN hok (by have:=lv.s1;omega) (Z5 I) I.mem.cf (A.fl.fr f Lc) (A.db.fr f Lc) ⟨by have:=sp.2.2.2.2.2.2.2.1;omega,Lb,Lb⟩
 obtain ⟨hB,hDB0⟩:=A.box hw hL
 have hDB:∀x∈[p,b.pm,b.qm],x≠bt∧x≠bm∧x≠bw:=fun x hx=>hDB0 x (by simp only [List.mem_cons,List.not_mem_nil,or_false] at hx ⊢;rcases hx with h|h|h<;>simp [h])
 have eM:QM m who={m with M:=(QA m.c g m.M).2}.setW who (if (QA m.c g m.M).1.st=3 then {(m.wk who) with work:=.strm (QA m.c g m.M).1}.end_ who {ev0 with e:=(QA m.c g m.M).1.e,stream:=if (QA m.c g m.M).1.e=0 then (QA m.c g m.M).1.stream else 0} else {(m.wk who) with work:=.strm (QA m.c g m.M).1}):=by
  unfold QM;simp only [hk]
 rw [eM]
 clear eM
 obtain ⟨g',M',hx⟩:∃g' M',QA m.c g m.M=(g',M'):=⟨_,_,rfl⟩
 rw [hx] at hHC same ⊢
 simp only at same ⊢
 let R:World→Prop:=fun w2=>Vn w2 p b1 b2 fn m.c g'∧Gl w2 b1 b2 fn m.c g'∧Qm w2 b.pm b.qm M' (N+1)
 have hST:Xe R b.pM b.pW ve:=fun l w1 w2 f hl ⟨a1,a2,a3⟩=>
  ⟨a1.fr f (A.away hw (.inl hpin) hl),a2.ov f (A.away hw (.inl h1in) hl) (A.away hw (.inl h2in) hl),a3.fr f (A.away hw (.inr (.inl rfl)) hl) (A.away hw (.inr (.inr (.inl rfl))) hl)⟩
 have hHC':∀w1,Fr [] w w1→Calls Tryz.prog 150 #[.pointer (some ⟨p,0,none⟩),.pointer (some ⟨b.pm,0,none⟩)] w1 fun e w2=>e=.returned (.bool (decide (g'.st=3)))∧R w2∧Fr [p,b.pm,b.qm] w1 w2:=fun w1 f=>by
  refine (hHC w1 f).mono ?_
  rintro e w2 ⟨e1,a1,a2,a3⟩
  exact ⟨e1,⟨a1,((h3.ov f Lc Lc).ov a3 (by simp only [List.mem_cons,List.not_mem_nil,or_false,not_or];exact ⟨Ne.symm nd.2.2.2.1.1,t1.1,t1.2⟩) (by simp only [List.mem_cons,List.not_mem_nil,or_false,not_or];exact ⟨Ne.symm nd.2.2.2.1.2,t2.1,t2.2⟩)).same same,a2⟩,a3⟩
 by_cases h4:g'.st=3
 · rw [decide_eq_true h4] at hHC'
   rw [if_pos h4]
   refine Xo w _ _ _ _ _ _ who _ _ _ _ _ _ _ A.mb (A.row who) hw A.ne.1 149 bt bm bw hvw (fun args wx=>Qu Tryz.func149 (by kernel_rfl) rfl args wx) (fun w2=>Goes w F b _ (N+1) w2) ?_
   refine (Q0S w _ _ _ _ _ _ who _ _ _ _ _ _ _ A.mb (A.row who) hw A.ne.1 p R _ hST (A.hD hw hSin) A.hve bt bm bw B hB hDB hHC' g'.e (if g'.e=0 then g'.stream else 0) (fun w2 ⟨a1,_⟩=>Q0y w2 p b1 b2 fn m.c g' a1 h4)).mono ?_
   rintro e w2 ⟨rfl,p2,hp2,ht,P,⟨a1,a2,a3⟩,f⟩
   exact ⟨rfl,A.Xa hw f (JR A hw hSin) rfl rfl rfl rfl rfl rfl rfl rfl rfl P a3 (Wh (pl:=none) (pr:=none) rfl rfl rfl ht trivial trivial) Lc (by simp;exact ⟨.inr hp2,Q9 ht⟩)⟩
 · rw [decide_eq_false h4] at hHC'
   rw [if_neg h4]
   refine Xo w _ _ _ _ _ _ who _ _ _ _ _ _ _ A.mb (A.row who) hw A.ne.1 149 bt bm bw hvw (fun args wx=>Qu Tryz.func149 (by kernel_rfl) rfl args wx) (fun w2=>Goes w F b _ (N+1) w2) ?_
   refine (Q2s w _ _ _ _ _ _ who _ _ _ _ _ _ _ A.mb (A.row who) hw A.ne.1 p R _ hST (A.hD hw hSin) A.hve bt bm bw B hB hDB hHC').mono ?_
   rintro e w2 ⟨rfl,P,⟨a1,a2,a3⟩,f⟩
   have hBf:=A.Q3z hw hL B f fun x hx=>by
    simp only [List.mem_cons,List.not_mem_nil,or_false] at hx ⊢;rcases hx with h|h|h<;>simp [h]
   refine ⟨rfl,A.Xa hw f (JR A hw hSin) rfl rfl rfl rfl rfl rfl rfl rfl rfl P a3 (Vv (L:=LL who) hs ⟨bt,bm,bw,p,b1,b2,fn,hvw,hBf,a1,a2,hL⟩) (A.ln who hw) fun x hx=>⟨.inl hx, ?_⟩⟩
   have:=(A.l1 who hw x hx).1.2.1;have:=f.size;omega
def Tw2.s (t:Tw2):TwS:=⟨t.r,t.l,t.n,t.d⟩
theorem Q5U (t:Tw2) (M:List Int):(QH c t M).s=t.s.step c.sl.toNat (Q6 M (c.slot t.r.length)):=by
 unfold QH TwS.step Tw2.s
 by_cases hd:t.d=true
 · rw [if_pos hd,if_pos hd]
 · rw [if_neg hd,if_neg hd]
   simp only
   by_cases h:((t.r++[Q6 M (c.slot t.r.length)]).length:Int)<c.sl
   · rw [if_pos h,if_pos Lb]
   · rw [if_neg h,if_neg Lb]
theorem Q37 (A:Qq w F b m N ve vr vv LL) (I:MInv n m) (hw:who<m.ws.length) (hN:N≤1000000000) (hn:n≤1000000000) {t:Tw2} (lv:t.live m.c n) {p:Nat} {vR vL:Value} (h:Yz w p m.c vR vL t.r t.l t.n t.d) (hp:p∈LL who) (hR:∀x,vR.ownBlock=some x→x∈LL who) (hLl:∀x,vL.ownBlock=some x→x∈LL who):
 ∀w1,Fr [] w w1→Calls Tryz.prog 76 #[.pointer (some ⟨p,0,none⟩),.pointer (some ⟨b.pm,0,none⟩)] w1 fun e w2=>e=.returned (.bool (QH m.c t m.M).d)∧
  (∃vR' vL',Yz w2 p m.c vR' vL' (QH m.c t m.M).r (QH m.c t m.M).l (QH m.c t m.M).n (QH m.c t m.M).d∧Qm w2 b.pm b.qm m.M (N+1)∧(∀x,vR'.ownBlock=some x→vR.ownBlock=some x∨w.heap.size≤x)∧(∀x,vL'.ownBlock=some x→vL.ownBlock=some x∨w.heap.size≤x))∧Fr (p::b.pm::b.qm::vR.ownBlock.toList) w1 w2:=fun w1 f=>by
 obtain ⟨tm,hM,t0,t1⟩:=A.me.fr f Lc Lc
 have tp:=A.sep2 hw hp
 have h2:=h.fr f Lc Lc Lc
 have e:=Q5U (c:=m.c) t m.M
 refine (Q64 w1 p b.pm b.qm m.c vR vL t.s m.M tm I.mem.cf h2 hM t0 Lb lv.n.1 (by have:=lv.n.2;show t.n≤1000000000;omega) I.mem.len lv.r tp ⟨fun x=>(A.sep2 hw (hR _ x)).1 rfl,fun x=>(A.sep2 hw (hR _ x)).2 rfl⟩ ⟨fun x=>(A.sep2 hw (hLl _ x)).1 rfl,fun x=>(A.sep2 hw (hLl _ x)).2 rfl⟩).mono ?_
 rintro en w2 ⟨vR',vL',e1,a1,a2,a3,a4,a5⟩
 rw [show (Q6 m.M (m.c.slot (t.s.r.length:Nat)))=Q6 m.M (m.c.slot t.r.length) from rfl,←e] at e1 a1
 refine ⟨e1,⟨vR',vL',a1,⟨_,a2,by split<;>omega,by split<;>omega⟩,fun x hx=>(a4 x hx).imp id fun z=>Nat.le_trans f.size z,fun x hx=>(a5 x hx).imp id fun z=>Nat.le_trans f.size z⟩,a3⟩
theorem tw_lt {p:Nat} {vR vL:Value} {t:Tw2} (h:Yz w p c vR vL t.r t.l t.n t.d):(∀x,vR.ownBlock=some x→x<w.heap.size)∧∀x,vL.ownBlock=some x→x<w.heap.size:=by
 have X:∀(vX:Value) (l:List Int),V4 w vX l→∀x,vX.ownBlock=some x→x<w.heap.size:=by
  intro vX l h x hx
  rcases h.2 with ⟨rfl, -⟩|⟨g,cap,cur,rfl, -,hg, -⟩
  · simp [Value.ownBlock] at hx
  · simp [Value.ownBlock] at hx;subst hx;exact Q9 hg
 exact ⟨X vR _ h.r,X vL _ h.l⟩
theorem Q8p (A:Qq w F b m N ve vr vv LL) (I:MInv n m) (hw:who<m.ws.length) (hwo:(who:Int)<m.c.wo) (hN:N≤1000000000) (hn:n≤1000000000) (hs:(m.wk who).st=2) {t:Tw2} (hk:(m.wk who).work=.stats t):
 Calls Tryz.prog 57 #[.pointer (some ⟨b.pM,0,none⟩),.int .i64 who] w (YH w F b (QM m who) (N+1)):=by
 have T:=(A.th who hw).wk hs
 rw [hk] at T
 obtain ⟨bt,bm,bw,p,vR,vL,hvw,B,h1,hL⟩:=T
 have lv:=(I.wk who hwo).wk hs
 rw [hk] at lv
 obtain ⟨ho,lv⟩:=lv
 have hpin:p∈LL who:=by rw [hL];simp
 have hRin:∀x,vR.ownBlock=some x→x∈LL who:=fun x hx=>by rw [hL];simp [hx]
 have hLin:∀x,vL.ownBlock=some x→x∈LL who:=fun x hx=>by rw [hL];simp [hx]
 have hHC:=Q37 A I hw hN hn lv h1 hpin hRin hLin
 have hSin:∀x∈p::b.pm::b.qm::vR.ownBlock.toList,x=b.pm∨x=b.qm∨x∈LL who:=fun x hx=>by
  exact Z0t
 obtain ⟨hB,hDB0⟩:=A.box hw hL
 have hDB:∀x∈p::b.pm::b.qm::vR.ownBlock.toList,x≠bt∧x≠bm∧x≠bw:=fun x hx=>hDB0 x (by simp only [List.mem_cons] at hx ⊢;rcases hx with h|h|h|h<;>simp [h])
 have eM:QM m who=m.setW who (if (QH m.c t m.M).d=true then {(m.wk who) with work:=.stats (QH m.c t m.M)}.end_ who {ev0 with cI:=Ja (QH m.c t m.M).l Gf,cL:=Ja (QH m.c t m.M).l Gd,cE:=Ja (QH m.c t m.M).l Gh,cO:=Ja (QH m.c t m.M).l Uv} else {(m.wk who) with work:=.stats (QH m.c t m.M)}):=by
  unfold QM;simp only [hk]
 rw [eM]
 clear eM
 have lv2:=lv.next I.mem
 generalize QH m.c t m.M=t' at*
 let R:World→Prop:=fun w2=>∃vR' vL',Yz w2 p m.c vR' vL' t'.r t'.l t'.n t'.d∧Qm w2 b.pm b.qm m.M (N+1)∧(∀x,vR'.ownBlock=some x→vR.ownBlock=some x∨w.heap.size≤x)∧(∀x,vL'.ownBlock=some x→vL.ownBlock=some x∨w.heap.size≤x)
 have hST:Xe R b.pM b.pW ve:=fun l w1 w2 f hl ⟨vR',vL',a1,a2,a3,a4⟩=>
  ⟨vR',vL',a1.fr f (A.away hw (.inl hpin) hl) (fun x hx=>A.away hw (by rcases a3 x hx with h|h;exact .inl (hRin x h);exact .inr (.inr (.inr h))) hl) (fun x hx=>A.away hw (by rcases a4 x hx with h|h;exact .inl (hLin x h);exact .inr (.inr (.inr h))) hl),a2.fr f (A.away hw (.inr (.inl rfl)) hl) (A.away hw (.inr (.inr (.inl rfl))) hl),a3,a4⟩
 cases hd:t'.d with
 |true=>
  rw [hd] at hHC
  rw [if_pos rfl]
  refine Xo w _ _ _ _ _ _ who _ _ _ _ _ _ _ A.mb (A.row who) hw A.ne.1 166 bt bm bw hvw (fun args wx=>Qu Tryz.func166 (by kernel_rfl) rfl args wx) (fun w2=>Goes w F b _ (N+1) w2) ?_
  have sl:=I.mem.cf.2.1
  have hll:=lv2.l
  refine (Q2t w _ _ _ _ _ _ who _ _ _ _ _ _ _ A.mb (A.row who) hw A.ne.1 p R _ hST (A.hD hw hSin) A.hve bt bm bw B hB hDB (fun w1 f=>by have:=hHC w1 f;simp only [←hd] at this ⊢;exact this) t'.l (fun x hx=>lv2.w x (.inr hx)) Lb A.fl (fun h=>by
   have:=A.sep hw (hSin 0 h);omega) (by have h1:=A.bl b.pM (by simp [Bs.l]);have h2:=A.bl b.pW (by simp [Bs.l]);omega) (fun w2 ⟨vR',vL',a1,_⟩=>by
    have:=WT w2 p m.c vR' vL' t'.r t'.l t'.n t'.d a1 lv2.d Lb
    rwa [hd,if_pos rfl] at this)).mono ?_
  rintro e w2 ⟨rfl,p2,hp2,ht,P,⟨vR',vL',a1,a2,a3,a4⟩,f⟩
  exact Z0m
 |false=>
  rw [hd] at hHC
  rw [if_neg Lc]
  refine Xo w _ _ _ _ _ _ who _ _ _ _ _ _ _ A.mb (A.row who) hw A.ne.1 166 bt bm bw hvw (fun args wx=>Qu Tryz.func166 (by kernel_rfl) rfl args wx) (fun w2=>Goes w F b _ (N+1) w2) ?_
  refine (Q4F w _ _ _ _ _ _ who _ _ _ _ _ _ _ A.mb (A.row who) hw A.ne.1 p R _ hST (A.hD hw hSin) A.hve bt bm bw B hB hDB (fun w1 f=>by have:=hHC w1 f;simp only [←hd] at this ⊢;exact this)).mono ?_
  rintro e w2 ⟨rfl,P,⟨vR',vL',a1,a2,a3,a4⟩,f⟩
  have hBf:=A.Q3z hw hL B f fun x hx=>by
   simp only [List.mem_cons] at hx ⊢;rcases hx with h|h|h|h<;>simp [h]
  obtain ⟨q1,q2⟩:=tw_lt (t:=t') a1
  obtain ⟨z1,z2⟩:=A.now hw (l:=[bt,bm,bw,p]) (pl:=vR.ownBlock) (pr:=vL.ownBlock) (pl':=vR'.ownBlock) (pr':=vL'.ownBlock) (by rw [hL];rfl) f.size a3 a4 a1.hrl q1 q2
  exact ⟨rfl,A.Xa hw f (JR A hw hSin) rfl rfl rfl rfl rfl rfl rfl rfl rfl P a2 (Vv hs ⟨bt,bm,bw,p,vR',vL',hvw,hBf,a1,rfl⟩) z1 z2⟩
end
section
open Go.RowKit Go.Shelf Go.Lib
variable {w w':World} {b:Bs} {c:Q0} {who:Nat} {k:Q8} {v:Je} {L S:List Nat} {F:List Nat} {m:Qa} {N n:Int} {ve vr:Value} {vv:Nat→Je} {LL:Nat→List Nat}
theorem EW (q:QSt):q.fn.isNone=q.isDone:=by cases q<;>rfl
theorem Q2i (A:Qq w F b m N ve vr vv LL) (I:MInv n m) (hw:who<m.ws.length) (hN:N≤1000000000) {q:QuS} (lv:q.live m.c) {p:Nat} (h:Jd w p m.c q) (hp:p∈LL who):
 ∀w1,Fr [] w w1→Calls Tryz.prog 82 #[.pointer (some ⟨p,0,none⟩),.pointer (some ⟨b.pm,0,none⟩)] w1 fun e w2=>e=.returned (.bool (Qo m.c q m.M).1.nx.isDone)∧
  (Jd w2 p m.c (Qo m.c q m.M).1∧Qm w2 b.pm b.qm (Qo m.c q m.M).2 (N+1))∧Fr [p,b.pm,b.qm] w1 w2:=fun w1 f=>by
 obtain ⟨tm,hM,t0,t1⟩:=A.me.fr f Lc Lc
 have tp:=A.sep2 hw hp
 have len:=I.mem.len;have sl:=I.mem.cf.2.1
 refine (Q6p w1 p b.pm b.qm m.c q m.M tm (f.at h Lc) hM t0 Lb tp I.mem.cf lv.ok I.mem.mOk (by unfold Q0.cells at len;omega)).mono ?_
 rintro e w2 ⟨e1,a1,a2,a3⟩
 rw [EW] at e1
 have q01:0≤qT q∧qT q≤1:=by unfold qT;split<;>omega
 exact ⟨e1,⟨a1,⟨_,a2,Lb,Lb⟩⟩,a3⟩
def QR (b:Bs) (c:Q0) (p:Nat) (q':QuS) (M':List Int) (N:Int) (w2:World):Prop:=Jd w2 p c q'∧Qm w2 b.pm b.qm M' (N+1)
theorem QR.stays (A:Qq w F b m N ve vr vv LL) (hw:who<m.ws.length) {p:Nat} (hp:p∈LL who) {q':QuS} {M':List Int}:Xe (QR b m.c p q' M' N) b.pM b.pW ve:=fun l w1 w2 f hl ⟨a1,a2⟩=>
 ⟨f.at a1 (A.away hw (.inl hp) hl),a2.fr f (A.away hw (.inr (.inl rfl)) hl) (A.away hw (.inr (.inr (.inl rfl))) hl)⟩
theorem qin (A:Qq w F b m N ve vr vv LL) {p:Nat} (hp:p∈LL who):∀x∈[p,b.pm,b.qm],x=b.pm∨x=b.qm∨x∈LL who:=fun x hx=>by
 simp only [List.mem_cons,List.not_mem_nil,or_false] at hx;rcases hx with rfl|h|h
 · exact .inr (.inr hp)
 · exact .inl h
 · exact .inr (.inl h)
theorem Z09 {P:Prop} (h:P:=by
 rintro e w2 ⟨rfl,p2,hp2,ht,P,⟨a1,a2⟩,f⟩
 exact ⟨rfl,A.Xa hw f (JR A hw (qin A hpin)) rfl rfl rfl rfl rfl rfl rfl rfl rfl P a2 (Wh (pl:=none) (pr:=none) rfl rfl rfl ht trivial trivial) Lc (by simp;exact ⟨.inr hp2,Q9 ht⟩)⟩):P:=h
theorem Q6m (A:Qq w F b m N ve vr vv LL) (I:MInv n m) (hw:who<m.ws.length) (hwo:(who:Int)<m.c.wo) (hN:N≤1000000000) (hs:(m.wk who).st=4):
 Calls Tryz.prog 59 #[.pointer (some ⟨b.pM,0,none⟩),.int .i64 who] w (YH w F b (Xc m who) (N+1)):=by
 obtain ⟨q,p,e1,hv,h1,hL⟩:=(A.th who hw).qu (.inl hs)
 obtain ⟨q0,e2,lv⟩:=(I.wk who hwo).en hs
 rw [e1] at e2;cases e2
 have hpin:p∈LL who:=by rw [hL];simp
 have hHC:=Q2i A I hw hN lv h1 hpin
 have eM:Xc m who={m with M:=(Qo m.c q m.M).2}.setW who (if (Qo m.c q m.M).1.nx.isDone=true then (if (Qo m.c q m.M).1.e≠0∧(Qo m.c q m.M).1.e≠8 then {(m.wk who) with qu:=some (Qo m.c q m.M).1}.end_ who {ev0 with e:=(Qo m.c q m.M).1.e} else {{(m.wk who) with qu:=some (Qo m.c q m.M).1} with timed:=decide ((Qo m.c q m.M).1.e=0)}.QT who true) else {(m.wk who) with qu:=some (Qo m.c q m.M).1}):=by
  unfold Xc;simp only [e1,Option.getD_some]
 rw [eM]
 clear eM
 obtain ⟨q',M',hx⟩:∃q' M',Qo m.c q m.M=(q',M'):=⟨_,_,rfl⟩
 rw [hx] at hHC ⊢
 simp only at hHC ⊢
 have hST:=QR.stays A hw hpin (q':=q') (M':=M')
 have hA:∀w2,QR b m.c p q' M' N w2→q'.nx.isDone=true→Calls Tryz.prog 83 #[.pointer (some ⟨p,0,none⟩)] w2 fun e w3=>e=.returned (.tuple #[.int .i64 q'.e,.bool true])∧Fr [] w2 w3:=fun w2 h hd=>by
  have:=UA w2 p m.c q' h.1
  rwa [EW,hd] at this
 by_cases hd:q'.nx.isDone=true
 · rw [if_pos hd]
   have hHC':=fun w1 f=>by have:=hHC w1 f;rw [hd] at this;exact this
   by_cases he:q'.e≠0∧q'.e≠8
   · rw [if_pos he]
     refine (Q11 w _ _ _ _ _ _ who _ _ _ _ _ _ _ A.mb (A.row who) hw A.ne.1 p (QR b m.c p q' M' N) _ hST (A.hD hw (qin A hpin)) A.hve hHC' hv q'.e he (fun w2 h=>hA w2 h hd)).mono ?_
     exact Z09
   · rw [if_neg he]
     refine (ED w _ _ _ _ _ _ who _ _ _ _ _ _ _ A.mb (A.row who) hw A.ne.1 p (QR b m.c p q' M' N) _ hST (A.hD hw (qin A hpin)) A.hve hHC' hv q'.e Lb (fun w2 h=>hA w2 h hd)).mono ?_
     exact Z09
 · rw [if_neg hd]
   have hHC':=fun w1 f=>by have:=hHC w1 f;rw [show q'.nx.isDone=false by simpa using hd] at this;exact this
   refine (Q2D w _ _ _ _ _ _ who _ _ _ _ _ _ _ A.mb (A.row who) hw A.ne.1 p (QR b m.c p q' M' N) _ hST (A.hD hw (qin A hpin)) A.hve hHC' hv).mono ?_
   rintro e w2 ⟨rfl,P,⟨a1,a2⟩,f⟩
   exact ⟨rfl,A.Xa hw f (JR A hw (qin A hpin)) rfl rfl rfl rfl rfl rfl rfl rfl rfl P a2 (Q7R (.inl (by exact hs)) rfl hv a1) Lc (by simp;exact ⟨.inl hpin,Q9 a1⟩)⟩
theorem Q0C (A:Qq w F b m N ve vr vv LL) (I:MInv n m) (hw:who<m.ws.length) (hwo:(who:Int)<m.c.wo) (hN:N≤1000000000) (hs:(m.wk who).st=8):
 Calls Tryz.prog 63 #[.pointer (some ⟨b.pM,0,none⟩),.int .i64 who] w (YH w F b (Jo m who) (N+1)):=by
 obtain ⟨q,p,e1,hv,h1,hL⟩:=(A.th who hw).qu (.inr hs)
 obtain ⟨q0,e2,lv, -⟩:=(I.wk who hwo).le hs
 rw [e1] at e2;cases e2
 have hpin:p∈LL who:=by rw [hL];simp
 have hHC:=Q2i A I hw hN lv h1 hpin
 have eM:Jo m who={m with M:=(Qo m.c q m.M).2}.setW who (if (Qo m.c q m.M).1.nx.isDone=true then (if (Qo m.c q m.M).1.e=8 then {(m.wk who) with qu:=some (Qo m.c q m.M).1,timed:=false,st:=6} else {(m.wk who) with qu:=some (Qo m.c q m.M).1}.end_ who {ev0 with e:=(Qo m.c q m.M).1.e}) else {(m.wk who) with qu:=some (Qo m.c q m.M).1}):=by
  unfold Jo;simp only [e1,Option.getD_some]
 rw [eM]
 clear eM
 obtain ⟨q',M',hx⟩:∃q' M',Qo m.c q m.M=(q',M'):=⟨_,_,rfl⟩
 rw [hx] at hHC ⊢
 simp only at hHC ⊢
 have hST:=QR.stays A hw hpin (q':=q') (M':=M')
 have hA:∀w2,QR b m.c p q' M' N w2→q'.nx.isDone=true→Calls Tryz.prog 83 #[.pointer (some ⟨p,0,none⟩)] w2 fun e w3=>e=.returned (.tuple #[.int .i64 q'.e,.bool true])∧Fr [] w2 w3:=fun w2 h hd=>by
  have:=UA w2 p m.c q' h.1
  rwa [EW,hd] at this
 by_cases hd:q'.nx.isDone=true
 · rw [if_pos hd]
   have hHC':=fun w1 f=>by have:=hHC w1 f;rw [hd] at this;exact this
   by_cases he:q'.e=8
   · rw [if_pos he]
     refine (EA w _ _ _ _ _ _ who _ _ _ _ _ _ _ A.mb (A.row who) hw A.ne.1 p (QR b m.c p q' M' N) _ hST (A.hD hw (qin A hpin)) A.hve hHC' hv (fun w2 h=>by have:=hA w2 h hd;rwa [he] at this)).mono ?_
     rintro e w2 ⟨rfl,P,⟨a1,a2⟩,f⟩
     exact ⟨rfl,A.Xa hw f (JR A hw (qin A hpin)) rfl rfl rfl rfl rfl rfl rfl rfl rfl P a2 (Ed Lc) Lc Lc⟩
   · rw [if_neg he]
     refine (Q0Z w _ _ _ _ _ _ who _ _ _ _ _ _ _ A.mb (A.row who) hw A.ne.1 p (QR b m.c p q' M' N) _ hST (A.hD hw (qin A hpin)) A.hve hHC' hv q'.e he (fun w2 h=>hA w2 h hd)).mono ?_
     exact Z09
 · rw [if_neg hd]
   have hHC':=fun w1 f=>by have:=hHC w1 f;rw [show q'.nx.isDone=false by simpa using hd] at this;exact this
   refine (Q2B w _ _ _ _ _ _ who _ _ _ _ _ _ _ A.mb (A.row who) hw A.ne.1 p (QR b m.c p q' M' N) _ hST (A.hD hw (qin A hpin)) A.hve hHC' hv).mono ?_
   rintro e w2 ⟨rfl,P,⟨a1,a2⟩,f⟩
   exact ⟨rfl,A.Xa hw f (JR A hw (qin A hpin)) rfl rfl rfl rfl rfl rfl rfl rfl rfl P a2 (Q7R (.inr (by exact hs)) rfl hv a1) Lc (by simp;exact ⟨.inl hpin,Q9 a1⟩)⟩
theorem Q8q (A:Qq w F b m N ve vr vv LL) (I:MInv n m) (hw:who<m.ws.length) (hwo:(who:Int)<m.c.wo) (hN:N≤1000000000) (hs:(m.wk who).st=2) {fc:Bool} {d:Option QuS} (hk:(m.wk who).work=.close fc d):
 Calls Tryz.prog 57 #[.pointer (some ⟨b.pM,0,none⟩),.int .i64 who] w (YH w F b (QM m who) (N+1)):=by
 have T:=(A.th who hw).wk hs
 rw [hk] at T
 obtain ⟨bt,bm,bw,bf,p,hvw,B,h1,hL⟩:=T
 have lv:=(I.wk who hwo).wk hs
 rw [hk] at lv
 obtain ⟨ho,lv⟩:=lv
 have II:∀x∈[bt,bm,bw,bf],x∈LL who:=fun x hx=>by rw [hL];simp at hx ⊢;rcases hx with h|h|h|h<;>simp [h]
 have s1:=A.sep hw (.inr (.inr (II bt Lc)));have s2:=A.sep hw (.inr (.inr (II bm Lc)));have s3:=A.sep hw (.inr (.inr (II bw Lc)));have s4:=A.sep hw (.inr (.inr (II bf Lc)))
 have t1:=A.sep2 hw (II bt Lc);have t2:=A.sep2 hw (II bm Lc);have t3:=A.sep2 hw (II bw Lc);have t4:=A.sep2 hw (II bf Lc)
 have hB:(bt≠b.pM∧bt≠b.pW)∧(bm≠b.pM∧bm≠b.pW)∧(bw≠b.pM∧bw≠b.pW)∧(bf≠b.pM∧bf≠b.pW):=⟨⟨s1.1,s1.2.1⟩,⟨s2.1,s2.2.1⟩,⟨s3.1,s3.2.1⟩,⟨s4.1,s4.2.1⟩⟩
 have nd:=A.ln who hw
 rw [hL] at nd
 cases d with
 |none=>
  cases p with
  |some p=>exact h1.elim
  |none=>
   simp only [Option.toList_none,List.nodup_cons,List.mem_cons,List.not_mem_nil,or_false,not_or,List.nodup_nil,and_true,not_false_eq_true] at nd
   have eM:QM m who={m with M:=if fc then Qp m.M 0 2 else QI m.M 0 0 1}.setW who {(m.wk who) with work:=.close fc (some XT)}:=by
    unfold QM;simp only [hk]
   rw [eM]
   clear eM
   have hX:∀M' w2,(∃q,w.heap.size≤q∧w2.heap[bt]?=some (.cells #[.pointer (some ⟨q,0,none⟩)] 77 (0,0))∧Jd w2 q m.c XT∧QZ w2 b.pM b.pW b.pm b.pc b.pw m.ws.length who ve m.c m.entries m.at_ (fun k=>(m.wk k).cells (vv k)) (m.wk who) (vv who)∧Qm w2 b.pm b.qm M' (N+1)∧Fr [bt,b.pm,b.qm] w w2)→Goes w F b ({m with M:=M'}.setW who {(m.wk who) with work:=.close fc (some XT)}) (N+1) w2:=by
    rintro M' w2 ⟨q,hq,a1,a2,P,a3,f⟩
    have BC:Wu w2 bt bm bw bf b.pM who fc (Xu (some q)):=⟨a1,f.at B.fm (by simp only [List.mem_cons,List.not_mem_nil,or_false,not_or];exact ⟨Ne.symm nd.1.1,t2.1,t2.2⟩),f.at B.fw (by simp only [List.mem_cons,List.not_mem_nil,or_false,not_or];exact ⟨Ne.symm nd.1.2.1,t3.1,t3.2⟩),f.at B.ff (by simp only [List.mem_cons,List.not_mem_nil,or_false,not_or];exact ⟨Ne.symm nd.1.2.2,t4.1,t4.2⟩),B.ne⟩
    have hsz:=f.size
    have hql:=Q9 a2
    refine A.Xa hw f (fun x hx=> ?_) rfl rfl rfl rfl rfl rfl rfl rfl rfl P a3 (L':=[bt,bm,bw,bf,q]) (Vv hs ⟨bt,bm,bw,bf,some q,hvw,BC,a2,rfl⟩) ?_ fun x hx=> ?_
    · simp only [List.mem_cons,List.not_mem_nil,or_false] at hx
      rcases hx with rfl|h|h
      · exact .inr (.inr (.inr (.inr (.inl (II _ Lc)))))
      · exact .inr (.inr (.inl h))
      · exact .inr (.inr (.inr (.inl h)))
    · have e1:=s1.2.2.2.2.2.2.2.2;have e2:=s2.2.2.2.2.2.2.2.2;have e3:=s3.2.2.2.2.2.2.2.2;have e4:=s4.2.2.2.2.2.2.2.2
      simp only [List.nodup_cons,List.mem_cons,List.not_mem_nil,or_false,not_or,List.nodup_nil,and_true,not_false_eq_true]
      exact ⟨⟨nd.1.1,nd.1.2.1,nd.1.2.2,Lb⟩,⟨nd.2.1.1,nd.2.1.2,Lb⟩,⟨nd.2.2,Lb⟩,Lb⟩
    · have hx':x∈[bt,bm,bw,bf]∨x=q:=by simp at hx ⊢;omega
      rcases hx' with h|rfl
      · have:=(A.l1 who hw x (II x h)).1.2.1;exact ⟨.inl (II x h),Lb⟩
      · exact ⟨.inr hq,hql⟩
   refine GA w _ _ _ _ _ _ who _ _ _ _ _ _ _ A.mb (A.row who) hw A.ne.1 163 bt bm bw bf hvw (fun args wx=>Qu Tryz.func163 (by kernel_rfl) rfl args wx) (fun w2=>Goes w F b _ (N+1) w2) ?_
   cases fc with
   |true=>
    refine (EG w _ _ _ _ _ _ who _ _ _ _ _ _ _ A.mb (A.row who) hw A.ne.1 bt bm bw bf true B hB _ m.M N A.me hN ⟨A.ne.2.1,t1.1,t1.2,t2.1,t2.2⟩ rfl).mono ?_
    rintro e w2 ⟨rfl,h⟩
    exact ⟨rfl,hX _ w2 h⟩
   |false=>
    refine (Q12 w _ _ _ _ _ _ who _ _ _ _ _ _ _ A.mb (A.row who) hw A.ne.1 bt bm bw bf false B hB _ m.M N A.me hN ⟨A.ne.2.1,t1.1,t1.2,t2.1,t2.2⟩ rfl).mono ?_
    rintro e w2 ⟨rfl,h⟩
    exact ⟨rfl,hX _ w2 h⟩
 |some q=>
  cases p with
  |none=>exact h1.elim
  |some p=>
   have hpin:p∈LL who:=by rw [hL];simp
   have hHC:=Q2i A I hw hN (lv q rfl).1 h1 hpin
   simp only [Option.toList_some,List.nodup_cons,List.mem_cons,List.not_mem_nil,or_false,not_or,List.nodup_nil,and_true,not_false_eq_true] at nd
   have hDB:∀x∈[p,b.pm,b.qm],x≠bt∧x≠bm∧x≠bw∧x≠bf:=fun x hx=>by
    simp only [List.mem_cons,List.not_mem_nil,or_false] at hx;rcases hx with rfl|rfl|rfl
    · exact ⟨Ne.symm nd.1.2.2.2,Ne.symm nd.2.1.2.2,Ne.symm nd.2.2.1.2,Ne.symm nd.2.2.2⟩
    · exact ⟨Ne.symm t1.1,Ne.symm t2.1,Ne.symm t3.1,Ne.symm t4.1⟩
    · exact ⟨Ne.symm t1.2,Ne.symm t2.2,Ne.symm t3.2,Ne.symm t4.2⟩
   have eM:QM m who={m with M:=(Qo m.c q m.M).2}.setW who (if (Qo m.c q m.M).1.nx.isDone=true then {(m.wk who) with work:=.close fc (some (Qo m.c q m.M).1)}.end_ who ev0 else {(m.wk who) with work:=.close fc (some (Qo m.c q m.M).1)}):=by
    unfold QM;simp only [hk]
   rw [eM]
   clear eM
   obtain ⟨q',M',hx⟩:∃q' M',Qo m.c q m.M=(q',M'):=⟨_,_,rfl⟩
   rw [hx] at hHC ⊢
   simp only at hHC ⊢
   have hST:=QR.stays A hw hpin (q':=q') (M':=M')
   refine GA w _ _ _ _ _ _ who _ _ _ _ _ _ _ A.mb (A.row who) hw A.ne.1 163 bt bm bw bf hvw (fun args wx=>Qu Tryz.func163 (by kernel_rfl) rfl args wx) (fun w2=>Goes w F b _ (N+1) w2) ?_
   by_cases hd:q'.nx.isDone=true
   · rw [if_pos hd]
     have hHC':=fun w1 f=>by have:=hHC w1 f;rw [hd] at this;exact this
     refine (Q2G w _ _ _ _ _ _ who _ _ _ _ _ _ _ A.mb (A.row who) hw A.ne.1 p (QR b m.c p q' M' N) _ hST (A.hD hw (qin A hpin)) A.hve bt bm bw bf fc B hB hDB hHC').mono ?_
     exact Z09
   · rw [if_neg hd]
     have hHC':=fun w1 f=>by have:=hHC w1 f;rw [show q'.nx.isDone=false by simpa using hd] at this;exact this
     refine (Q4V w _ _ _ _ _ _ who _ _ _ _ _ _ _ A.mb (A.row who) hw A.ne.1 p (QR b m.c p q' M' N) _ hST (A.hD hw (qin A hpin)) A.hve bt bm bw bf fc B hB hDB hHC').mono ?_
     rintro e w2 ⟨rfl,P,⟨a1,a2⟩,f⟩
     have X:∀y,(y≠b.pM∧y≠b.pW)→(∀x∈[p,b.pm,b.qm],x≠y)→y∉b.pM::b.pW::[p,b.pm,b.qm]:=fun y h1 h2 h=>by
      simp only [List.mem_cons (a:=y) (b:=b.pM),List.mem_cons (a:=y) (b:=b.pW)] at h
      rcases h with h|h|h
      · exact h1.1 h
      · exact h1.2 h
      · exact h2 y h rfl
     have BC:=B.ov f (X bt hB.1 fun x hx=>(hDB x hx).1) (X bm hB.2.1 fun x hx=>(hDB x hx).2.1) (X bw hB.2.2.1 fun x hx=>(hDB x hx).2.2.1) (X bf hB.2.2.2 fun x hx=>(hDB x hx).2.2.2)
     refine ⟨rfl,A.Xa hw f (JR A hw (qin A hpin)) rfl rfl rfl rfl rfl rfl rfl rfl rfl P a2 (Vv (L:=LL who) hs ⟨bt,bm,bw,bf,some p,hvw,BC,a1,hL⟩) (A.ln who hw) fun x hx=>⟨.inl hx, ?_⟩⟩
     have:=(A.l1 who hw x hx).1.2.1;have:=f.size;omega
theorem Z0F {P:Prop} (h:P:=by
 refine (hHC0 w1 f).mono ?_
 rintro e w2 ⟨e1,pl',pr',a1,a2,a3,a4,a5⟩
 exact ⟨e1,⟨pl',pr',a1,a2,fun x hx=>(a4 x hx).imp id fun h=>Nat.le_trans f.size h,fun x hx=>(a5 x hx).imp id fun h=>Nat.le_trans f.size h⟩,a3⟩):P:=h
theorem Q6j (A:Qq w F b m N ve vr vv LL) (I:MInv n m) (hw:who<m.ws.length) (hwo:(who:Int)<m.c.wo) (hN:N≤1000000000) (hn:n≤1000000000) (hs:(m.wk who).st=5):
 Calls Tryz.prog 60 #[.pointer (some ⟨b.pM,0,none⟩),.int .i64 who] w (YH w F b (QK m who) (N+1)):=by
 obtain ⟨t,p,pl,pr,e1,hv,h1,h2,h3,hL⟩:=(A.th who hw).ti hs
 obtain ⟨t0,e2,lv⟩:=(I.wk who hwo).ti hs
 rw [e1] at e2;cases e2
 have hGt:Jw w p b.pm b.qm pl pr m.c t:=⟨h1,h2,h3,A.foot hw (l0:=[]) (by rw [hL];rfl)⟩
 have hpin:p∈LL who:=by rw [hL];simp
 have hlin:∀x,pl=some x→x∈LL who:=fun x hx=>by rw [hL];simp [hx]
 have hrin:∀x,pr=some x→x∈LL who:=fun x hx=>by rw [hL];simp [hx]
 have sl:=I.mem.cf.2.1
 have hok:t.ok m.c:=by
  have FO:∀f:Qi,0≤f.at_∧f.at_≤m.c.sl→(f.kind=3∨f.kind=4∨f.kind=5)→f.ok m.c:=fun f ha hk=>⟨Lb,Lb,ha.1,Lb⟩
  have KD:∀st:Int,Xr st=3∨Xr st=4∨Xr st=5:=fun st=>by unfold Xr;split<;>(try split)<;>simp
  refine ⟨lv.s0,by have:=lv.s1;omega,by rw [lv.tw];omega,by rw [lv.tw];exact hwo,fun _=>by have:=lv.ep;omega,fun e=> ?_,fun e=> ?_,fun e=> ?_,lv.ot,fun e=>(lv.hd Lb).1,fun e=>(lv.hd Lb).2.1,fun e=>lv.i Lb,fun e=>by obtain ⟨s,a,d, -⟩:=lv.wd e;exact ⟨s,a,d⟩⟩
  · obtain ⟨f,a1,a2,a3,a4,a5,a6,a7⟩:=lv.lk e
    exact ⟨f,a1,FO f ⟨a3,a4⟩ (by rw [a6];exact KD _)⟩
  · obtain ⟨f,s,a1,a2,a3,a4,a5,a6,a7,a8⟩:=lv.fd Lb
    have hi:=lv.i Lb
    exact ⟨f,s,a1,FO f ⟨Lb,Lb⟩ (by rw [a7];split<;>(try split)<;>simp),a4,a5⟩
  · obtain ⟨f,s,a1,a2,a3,a4,a5,a6,a7,a8⟩:=lv.fd Lb
    obtain ⟨r,b1,⟨⟨s',d1,d2, -⟩,d3,d4, -, -⟩⟩:=lv.rt e
    have hi:=lv.i Lb
    exact ⟨f,r,a1,FO f ⟨Lb,Lb⟩ (by rw [a7];split<;>(try split)<;>simp),b1,⟨⟨s',d1,d2⟩,fun _=>d4,fun x=>absurd x d3⟩⟩
 have hSin:∀x∈p::b.pm::b.qm::(pl.toList++pr.toList),x=b.pm∨x=b.qm∨x∈LL who:=fun x hx=>by
  exact Z0t
 have hHC0:∀w1,Fr [] w w1→Calls Tryz.prog 85 #[.pointer (some ⟨p,0,none⟩),.pointer (some ⟨b.pm,0,none⟩)] w1 (Q00 w1 p b.pm b.qm pl pr m.c N (Ql m.c t m.M)):=fun w1 f=>
  Q3J w1 p b.pm b.qm pl pr m.c t m.M N (yd_fr hGt f) (A.me.fr f Lc Lc) hN hok (Z5 I) I.mem.mOk (fun k a d=>by have:=I.mem.pins k a d;omega) I.mem.cf (A.fl.fr f Lc)
 have eM:QK m who=(if (Ql m.c t m.M).1.st=17 then
  (if (m.wk who).parks then {m with M:=(Ql m.c t m.M).2}.setW who {(m.wk who) with ti:=some (Ql m.c t m.M).1,st:=6}
  else {m with M:=(Ql m.c t m.M).2,evs:=m.evs++[{(m.wk who).ans with ended:=true,who:=who,at_:=m.at_,ask:=(m.wk who).ask}]}.setW who {(m.wk who) with ti:=some (Ql m.c t m.M).1,st:=0})
  else {m with M:=(Ql m.c t m.M).2}.setW who {(m.wk who) with ti:=some (Ql m.c t m.M).1}):=by
  unfold QK;simp only [e1,Option.getD_some]
 rw [eM]
 clear eM
 obtain ⟨t',M',hx⟩:∃t' M',Ql m.c t m.M=(t',M'):=⟨_,_,rfl⟩
 rw [hx] at hHC0 ⊢
 simp only
 let R:World→Prop:=fun w2=>∃pl' pr',Jw w2 p b.pm b.qm pl' pr' m.c t'∧Qm w2 b.pm b.qm M' (N+1)∧(∀x,pl'=some x→pl=some x∨w.heap.size≤x)∧∀x,pr'=some x→pr=some x∨w.heap.size≤x
 have hST:Xe R b.pM b.pW ve:=fun l w1 w2 f hl ⟨pl',pr',a1,a2,a3,a4⟩=>
  ⟨pl',pr',⟨a1.blk.fr f (A.away hw (.inl hpin) hl),a1.lk.fr f (fun x hx=>A.away hw (by rcases a3 x hx with h|h;exact .inl (hlin x h);exact .inr (.inr (.inr h))) hl),a1.rt.fr f (fun x hx=>A.away hw (by rcases a4 x hx with h|h;exact .inl (hrin x h);exact .inr (.inr (.inr h))) hl),a1.ft.grow f.size⟩,
    a2.fr f (A.away hw (.inr (.inl rfl)) hl) (A.away hw (.inr (.inr (.inl rfl))) hl),a3,a4⟩
 have hHC:∀w1,Fr [] w w1→Calls Tryz.prog 85 #[.pointer (some ⟨p,0,none⟩),.pointer (some ⟨b.pm,0,none⟩)] w1 fun e w2=>e=.returned (.bool (decide (t'.st=17)))∧R w2∧Fr (p::b.pm::b.qm::(pl.toList++pr.toList)) w1 w2:=fun w1 f=>by
  exact Z0F
 by_cases h17:t'.st=17
 · rw [decide_eq_true h17] at hHC
   rw [if_pos h17]
   rcases Bool.eq_false_or_eq_true (m.wk who).parks with hpk|hpk
   · rw [if_pos hpk]
     refine (Ew w _ _ _ _ _ _ who _ _ _ _ _ _ _ A.mb (A.row who) hw A.ne.1 p R _ hST (A.hD hw hSin) A.hve hv hHC hpk).mono ?_
     rintro e w2 ⟨rfl,P,⟨pl',pr',a1,a2,a3,a4⟩,f⟩
     exact ⟨rfl,A.Xa hw f (JR A hw hSin) rfl rfl rfl rfl rfl rfl rfl rfl rfl P a2 (Ed Lc) Lc Lc⟩
   · rw [if_neg (by rw [hpk];simp)]
     have hel:m.evs.length≤100000:=by have:=I.ev;have:=Z8 m.ws;omega
     refine (Q0R w _ _ _ _ _ _ who _ _ _ _ _ _ _ A.mb (A.row who) hw A.ne.1 p R _ hST (A.hD hw hSin) A.hve hv hHC m.evs A.ev hel hpk).mono ?_
     rintro e w2 ⟨rfl,ve',P,hE,⟨pl',pr',a1,a2,a3,a4⟩,hve',f⟩
     obtain ⟨n1,⟨n2,n3,n4,n5⟩,n6,⟨n7,n8,n9,n10⟩,⟨n11,n12,n13,n14,n15,n16⟩,⟨n17,n18,n19,n20⟩⟩:=A.ne
     have X:∀x,(x∈b.l∧x≠b.pM∧x≠b.pW∧x≠b.pm∧x≠b.qm)∨vr.ownBlock=some x→x∉b.pM::b.pW::(ve.ownBlock.toList++p::b.pm::b.qm::(pl.toList++pr.toList)):=by
      intro x hx hxs
      have hx':Base b ve vr x:=by rcases hx with ⟨a, -⟩|a;exact .inl a;exact .inr (.inr a)
      have NB:∀y∈b.l,vr.ownBlock≠some y:=fun y hy e=>(A.e2 y e).2.1 hy
      rw [List.mem_cons,List.mem_cons,List.mem_append] at hxs
      rcases hxs with h|h|h|h
      · rcases hx with ⟨-,a, -⟩|a
        · exact a h
        · exact NB _ (by simp [Bs.l,h]) a
      · rcases hx with ⟨-, -,a, -⟩|a
        · exact a h
        · exact NB _ (by simp [Bs.l,h]) a
      · simp only [Option.mem_toList,Option.mem_def] at h
        rcases hx with ⟨a, -⟩|a
        · exact (A.e1 x h).2 a
        · exact (A.e2 x a).2.2 h
      · rcases hSin x h with h|h|h
        · rcases hx with ⟨-, -, -,a, -⟩|a
          · exact a h
          · exact NB _ (by simp [Bs.l,h]) a
        · rcases hx with ⟨-, -, -, -,a⟩|a
          · exact a h
          · exact NB _ (by simp [Bs.l,h]) a
        · exact A.apart hw hx' h
     refine ⟨rfl,A.next hw f (fun x hx=> ?_) rfl rfl P.mb P.wr a2 (A.ck.fr f (X _ (.inl ⟨by simp [Bs.l],n11,n12,n13,n14⟩))) (A.wl.ov f (X _ (.inl ⟨by simp [Bs.l],n7,n8,n17,n18⟩)) (X _ (.inl ⟨by simp [Bs.l],n9,n10,n19,n20⟩)) fun x hx=>X x (.inr hx)) hE hve' (fun x hx=>hx) (Ed Lc) Lc Lc⟩
     rw [List.mem_cons,List.mem_cons,List.mem_append] at hx
     rcases hx with h|h|h|h
     · exact .inl (.inl (by simp [Bs.l,h]))
     · exact .inl (.inl (by simp [Bs.l,h]))
     · exact .inl (.inr (.inl (by simpa using h)))
     · rcases hSin x h with h|h|h
       · exact .inl (.inl (by simp [Bs.l,h]))
       · exact .inl (.inl (by simp [Bs.l,h]))
       · exact .inr (.inl h)
 · rw [decide_eq_false h17] at hHC
   rw [if_neg h17]
   refine (Q2r w _ _ _ _ _ _ who _ _ _ _ _ _ _ A.mb (A.row who) hw A.ne.1 p R _ hST (A.hD hw hSin) A.hve hv hHC).mono ?_
   rintro e w2 ⟨rfl,P,⟨pl',pr',a1,a2,a3,a4⟩,f⟩
   obtain ⟨z1,z2⟩:=A.now hw (l:=[p]) (pl:=pl) (pr:=pr) (pl':=pl') (pr':=pr') (by rw [hL];rfl) f.size a3 a4 a1.ft.lr a1.lk.lt a1.rt.lt
   exact ⟨rfl,A.Xa hw f (JR A hw hSin) rfl rfl rfl rfl rfl rfl rfl rfl rfl P a2 (Wh (by exact hs) rfl hv a1.blk a1.lk a1.rt) z1 z2⟩
end
end Go.Proofs.YtgjklfmnmljilaaGreatDoor
