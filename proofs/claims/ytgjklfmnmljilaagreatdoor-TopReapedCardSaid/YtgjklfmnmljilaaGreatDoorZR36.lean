/- A part of the proof. -/
import Derived.Test.YtgjklfmnmljilaaGreatDoorZR35
namespace Go.Proofs.YtgjklfmnmljilaaGreatDoor
set_option linter.unusedVariables false
set_option linter.unusedSimpArgs false
set_option linter.unusedSectionVars false
set_option linter.unnecessarySimpa false
set_option maxRecDepth 100000
set_option maxHeartbeats 8000000
section
open Go.RowKit Go.Shelf Go.Lib
variable {w w':World} {b:Bs} {c:Q0} {who:Nat} {k:Q8} {v:Je} {L S:List Nat} {F:List Nat} {m:Qa} {N n:Int} {ve vr:Value} {vv:Nat→Je} {LL:Nat→List Nat}
theorem Q6n (A:Qq w F b m N ve vr vv LL) (I:MInv n m) (hw:who<m.ws.length) (hwo:(who:Int)<m.c.wo) (hN:N≤1000000000) (hn:n≤1000000000) (hs:(m.wk who).st=3):
 Calls Tryz.prog 58 #[.pointer (some ⟨b.pM,0,none⟩),.int .i64 who] w (YH w F b (Xd m who) (N+1)):=by
 obtain ⟨t,p,vR,vL,e1,hv,h1,hL⟩:=(A.th who hw).tw hs
 obtain ⟨t0,e2,lv⟩:=(I.wk who hwo).tw hs
 rw [e1] at e2;cases e2
 have hpin:p∈LL who:=by rw [hL];simp
 have hRin:∀x,vR.ownBlock=some x→x∈LL who:=fun x hx=>by rw [hL];simp [hx]
 have hLin:∀x,vL.ownBlock=some x→x∈LL who:=fun x hx=>by rw [hL];simp [hx]
 have hHC:=Q37 A I hw hN hn lv h1 hpin hRin hLin
 have hSin:∀x∈p::b.pm::b.qm::vR.ownBlock.toList,x=b.pm∨x=b.qm∨x∈LL who:=fun x hx=>by
  exact Z0t
 have eM:Xd m who=(if (QH m.c t m.M).d then
  (if (QH m.c t m.M).l.any (fun x=>JC x 3 who) then m.setW who {(m.wk who) with tw:=some (QH m.c t m.M),work:=.get (Jc who),st:=2} else m.setW who ({(m.wk who) with tw:=some (QH m.c t m.M)}.end_ who {ev0 with e:=3}))
  else m.setW who {(m.wk who) with tw:=some (QH m.c t m.M)}):=by
  unfold Xd;simp only [e1,Option.getD_some]
 rw [eM]
 clear eM
 have lv2:=lv.next I.mem
 generalize QH m.c t m.M=t' at*
 let R:World→Prop:=fun w2=>∃vR' vL',Yz w2 p m.c vR' vL' t'.r t'.l t'.n t'.d∧Qm w2 b.pm b.qm m.M (N+1)∧(∀x,vR'.ownBlock=some x→vR.ownBlock=some x∨w.heap.size≤x)∧(∀x,vL'.ownBlock=some x→vL.ownBlock=some x∨w.heap.size≤x)
 have hST:Xe R b.pM b.pW ve:=fun l w1 w2 f hl ⟨vR',vL',a1,a2,a3,a4⟩=>
  ⟨vR',vL',a1.fr f (A.away hw (.inl hpin) hl) (fun x hx=>A.away hw (by rcases a3 x hx with h|h;exact .inl (hRin x h);exact .inr (.inr (.inr h))) hl) (fun x hx=>A.away hw (by rcases a4 x hx with h|h;exact .inl (hLin x h);exact .inr (.inr (.inr h))) hl),a2.fr f (A.away hw (.inr (.inl rfl)) hl) (A.away hw (.inr (.inr (.inl rfl))) hl),a3,a4⟩
 rcases Bool.eq_false_or_eq_true t'.d with hd|hd
 · rw [if_pos hd]
   have sl:=I.mem.cf.2.1
   have hll:=lv2.l
   refine (EF w _ _ _ _ _ _ who _ _ _ _ _ _ _ A.mb (A.row who) hw A.ne.1 p R _ hST (A.hD hw hSin) A.hve (fun w1 f=>by have:=hHC w1 f;rw [hd] at this;simp only [←hd] at this ⊢;exact this) hv t'.l (fun x hx=>lv2.w x (.inr hx)) Lb A.fl (fun h=>by
    have:=A.sep hw (hSin 0 h);omega) (by have h1:=A.bl b.pM (by simp [Bs.l]);have h2:=A.bl b.pW (by simp [Bs.l]);omega) (fun w2 ⟨vR',vL',a1,_⟩=>by
     have:=WT w2 p m.c vR' vL' t'.r t'.l t'.n t'.d a1 lv2.d Lb
     rwa [if_pos hd] at this)).mono ?_
   rintro e w2 ⟨rfl,hco,⟨vR',vL',a1,a2,a3,a4⟩,f⟩
   by_cases ha:t'.l.any (fun x=>JC x 3 who)=true
   · rw [if_pos ha]
     unfold UJ at hco
     rw [if_pos ha] at hco
     obtain ⟨p2,bt,bm,bw,⟨q1,q2,q3,q4⟩,⟨n1,n2,n3⟩,ht,hbx,P⟩:=hco
     have hl1:=Q9 ht;have hl2:=Q9 hbx.ft;have hl3:=Q9 hbx.fm;have hl4:=Q9 hbx.fw
     obtain ⟨d1,d2,d3⟩:=hbx.ne
     refine ⟨rfl,A.Xa hw f (JR A hw hSin) rfl rfl rfl rfl rfl rfl rfl rfl rfl P a2 (L':=[bt,bm,bw,p2]) (Vv rfl ⟨bt,bm,bw,p2,none,none,rfl,hbx,ht,trivial,trivial,rfl⟩) ?_ fun x hx=> ?_⟩
     · simp only [List.nodup_cons,List.mem_cons,List.not_mem_nil,or_false,not_or,List.nodup_nil,and_true,not_false_eq_true]
       exact ⟨⟨d1,d2,Ne.symm n1⟩,⟨d3,Ne.symm n2⟩,Ne.symm n3⟩
     · simp only [List.mem_cons,List.not_mem_nil,or_false] at hx
       rcases hx with rfl|rfl|rfl|rfl
       · exact ⟨.inr q2,hl2⟩
       · exact ⟨.inr q3,hl3⟩
       · exact ⟨.inr q4,hl4⟩
       · exact ⟨.inr q1,hl1⟩
   · rw [if_neg ha]
     unfold UJ at hco
     rw [if_neg ha] at hco
     obtain ⟨p2,hp2,ht,P⟩:=hco
     exact Z0m
 · rw [if_neg (by rw [hd];simp)]
   refine (Q2E w _ _ _ _ _ _ who _ _ _ _ _ _ _ A.mb (A.row who) hw A.ne.1 p R _ hST (A.hD hw hSin) A.hve (fun w1 f=>by have:=hHC w1 f;rw [hd] at this;simp only [←hd] at this ⊢;exact this) hv).mono ?_
   rintro e w2 ⟨rfl,P,⟨vR',vL',a1,a2,a3,a4⟩,f⟩
   obtain ⟨q1,q2⟩:=tw_lt (t:=t') a1
   obtain ⟨z1,z2⟩:=A.now hw (l:=[p]) (pl:=vR.ownBlock) (pr:=vL.ownBlock) (pl':=vR'.ownBlock) (pr':=vL'.ownBlock) (by rw [hL];rfl) f.size a3 a4 a1.hrl q1 q2
   exact ⟨rfl,A.Xa hw f (JR A hw hSin) rfl rfl rfl rfl rfl rfl rfl rfl rfl P a2 (wkTw (by exact hs) rfl hv a1) z1 z2⟩
theorem Uc (A:Qq w F b m N ve vr vv LL):∀x∈[b.pW,b.pm,b.qm],x=b.pM∨x=b.pW∨x=b.pm∨x=b.qm∨x∈LL who∨w.heap.size≤x:=fun x hx=>by
 simp only [List.mem_cons,List.not_mem_nil,or_false] at hx
 rcases hx with h|h|h<;>simp [h]
theorem Q3j (A:Qq w F b m N ve vr vv LL) (I:MInv n m) (hw:who<m.ws.length) (hwo:(who:Int)<m.c.wo) (hN:N≤1000000000) (hs:(m.wk who).st=7):
 Calls Tryz.prog 62 #[.pointer (some ⟨b.pM,0,none⟩),.int .i64 who] w (YH w F b (J7 m who) (N+1)):=by
 rcases Bool.eq_false_or_eq_true (m.wk who).half with hh|hh
 · by_cases hk:(m.wk who).word<0
   · have eM:J7 m who={m with M:=Qp m.M (3+m.c.wo+(who:Int)) 0}.setW who ({(m.wk who) with half:=false}.end_ who {ev0 with e:=5}):=by
      unfold J7;simp only;rw [if_neg (by rw [hh];simp),if_pos hk]
     rw [eM]
     refine (Q0P w _ _ _ _ _ _ who _ _ _ _ _ _ _ A.mb (A.row who) hw A.ne.1 _ _ _ A.me hN I.mem.cf hwo A.ne.2.1 hh hk).mono ?_
     rintro e w2 ⟨rfl,p2,hp2,ht,P,a2,f⟩
     exact ⟨rfl,A.Xa hw f (Uc A) rfl rfl rfl rfl rfl rfl rfl rfl rfl P a2 (Wh (pl:=none) (pr:=none) rfl rfl rfl ht trivial trivial) Lc (by simp;exact ⟨.inr hp2,Q9 ht⟩)⟩
   · have eM:J7 m who={m with M:=Qp m.M (3+m.c.wo+(who:Int)) 0}.setW who {(m.wk who) with half:=false,grant:=(m.wk who).word,st:=1}:=by
      unfold J7;simp only;rw [if_neg (by rw [hh];simp),if_neg hk]
     rw [eM]
     refine (Q2q w _ _ _ _ _ _ who _ _ _ _ _ _ _ A.mb (A.row who) hw A.ne.1 _ _ _ A.me hN I.mem.cf hwo A.ne.2.1 hh Lb).mono ?_
     rintro e w2 ⟨rfl,P,a2,f⟩
     exact ⟨rfl,A.Xa hw f (Uc A) rfl rfl rfl rfl rfl rfl rfl rfl rfl P a2 (Ed Lc) Lc Lc⟩
 · have eM:J7 m who=m.setW who {(m.wk who) with word:=Q6 m.M (3+m.c.wo+(who:Int)),half:=true}:=by
    unfold J7;simp only;rw [if_pos hh]
   rw [eM]
   refine (Q0Q w _ _ _ _ _ _ who _ _ _ _ _ _ _ A.mb (A.row who) hw A.ne.1 _ _ _ A.me hN I.mem.cf hwo A.ne.2.1 hh).mono ?_
   rintro e w2 ⟨rfl,P,a2,f⟩
   exact ⟨rfl,A.Xa hw f (Uc A) rfl rfl rfl rfl rfl rfl rfl rfl rfl P a2 (Ed (.inr (.inr (.inr (by exact hs))))) Lc Lc⟩
theorem Uo (A:Qq w F b m N ve vr vv LL) (I:MInv n m) (hwo:(who:Int)<m.c.wo) (w1:World) (f:Fr [] w w1):Calls Tryz.prog 53 #[.pointer (some ⟨b.pM,0,none⟩),.int .i64 who] w1 fun e w2=>e=.returned (.bool (XZ m who))∧Fr [] w1 w2:=by
 have len:=I.mem.len;have wo:=I.mem.cf.1;have sl:=I.mem.cf.2.1
 exact EC w1 b.pM b.pW b.pm b.pc b.pw m.ws.length who b.qm ve m.c m.entries m.at_ m.M N (f.at A.mb Lc) (A.me.fr f Lc Lc) I.mem.cf hwo len (by unfold Q0.cells at len;omega)
theorem Goes.pre {F F2:List Nat} {m':Qa} {w1 w2:World} (h:Goes w1 F2 b m' N w2) (f:Fr F w w1) (hF:∀x∈F2,x∈F∨w.heap.size≤x):Goes w F b m' N w2:=by
 obtain ⟨F',M,g,h1⟩:=h
 exact ⟨F',M,f.then g hF,fun x hx=>by
  rcases h1 x hx with a|a
  · exact hF x a
  · exact .inr (Nat.le_trans f.size a)⟩
theorem Q6k (A:Qq w F b m N ve vr vv LL) (I:MInv n m) (hw:who<m.ws.length) (hwo:(who:Int)<m.c.wo) (hN:N≤1000000000) (hs:(m.wk who).st=6):
 Calls Tryz.prog 61 #[.pointer (some ⟨b.pM,0,none⟩),.int .i64 who] w (YH w F b (XB m who) (N+1)):=by
 have Lv:=I.wk who hwo
 have hh:=Lv.half Lb Lb
 have hop:=Lv.op Lb
 have ho:=Lv.op0 Lb
 have hG:=Uo A I hwo w (Fr.refl _ _)
 unfold XB
 simp only
 rcases Bool.eq_false_or_eq_true (XZ m who) with hg|hg
 · rw [if_pos hg]
   rw [hg] at hG
   have l0:({(m.wk who) with st:=7}:Q8).live m.c who n (Jz m.M):=⟨Lc,Lc,fun _=>hop,fun _=>ho,Lc,by simp [hh],Lv.gr,Lc,Lc,Lc,Lc,Lc,Lc,Lc⟩
   have I2:=I.setW hwo l0 (.inl (by unfold runs;simp;omega))
   refine UR w _ _ _ _ _ _ who _ _ _ _ _ _ _ A.mb (A.row who) hw A.ne.1 hG (fun w2=>Goes w F b _ (N+1) w2) fun w1 mb wr f=> ?_
   obtain ⟨F2,⟨ve2,vr2,vv2,LL2,A2⟩,g,hF⟩:=A.Xa hw f (m':=m.setW who {(m.wk who) with st:=7}) (N':=N) (fun x hx=>by simp at hx;simp [hx]) rfl rfl rfl rfl rfl rfl rfl rfl rfl ⟨mb,wr⟩ (A.me.fr f (by simpa using A.ne.2.1.2.1) (by simpa using A.ne.2.1.2.2.2)) (Ed Lc) Lc Lc
   refine (Q3j A2 I2 (by unfold Qa.setW;simpa using hw) hwo hN (by rw [Jg hw])).mono ?_
   rintro e w2 ⟨rfl,G⟩
   exact ⟨rfl,G.pre g hF⟩
 · rw [if_neg (by rw [hg];simp)]
   rw [hg] at hG
   have l0:({(m.wk who) with qu:=some (QX who),st:=8}:Q8).live m.c who n (Jz m.M):=
    ⟨Lc,Lc,fun _=>hop,fun _=>ho,Lc,Lc,Lv.gr,fun _ _=>hh,Lc,Lc,Lc,fun _=>⟨_,rfl,⟨⟨⟨by simp [QX],by simp [QX]⟩,by simp [QX],by simp [QX],by simp [QX]⟩,by simp [QX],by simp [QX],hwo,by simp [QX]⟩,.inl rfl,rfl⟩,Lc,Lc⟩
   have I2:=I.setW hwo l0 (.inl (by unfold runs;simp;omega))
   refine Ug w _ _ _ _ _ _ who _ _ _ _ _ _ _ A.mb (A.row who) hw A.ne.1 hG (fun w2=>Goes w F b _ (N+1) w2) fun w1 q hq hqa mb wr f=> ?_
   obtain ⟨F2,⟨ve2,vr2,vv2,LL2,A2⟩,g,hF⟩:=A.Xa hw f (m':=m.setW who {(m.wk who) with qu:=some (QX who),st:=8}) (N':=N) (fun x hx=>by simp at hx;simp [hx]) rfl rfl rfl rfl rfl rfl rfl rfl rfl ⟨mb,wr⟩ (A.me.fr f (by simpa using A.ne.2.1.2.1) (by simpa using A.ne.2.1.2.2.2)) (Q7R (.inr rfl) rfl rfl hqa) Lc (by simp;exact ⟨.inr hq,Q9 hqa⟩)
   refine (Q0C A2 I2 (by unfold Qa.setW;simpa using hw) hwo hN (by rw [Jg hw])).mono ?_
   rintro e w2 ⟨rfl,G⟩
   exact ⟨rfl,G.pre g hF⟩
theorem Zt.fr' {p pm qm:Nat} {pl pr:Option Nat} {t:Qd} (h:Zt w p pm qm pl pr c t) (f:Fr S w w') (hp:p∉S) (hl:∀x,pl=some x→x∉S) (hr:∀x,pr=some x→x∉S):Zt w' p pm qm pl pr c t:=⟨h.blk.fr f hp,h.lk.fr f hl,h.rt.fr f hr,h.ft.grow f.size⟩
theorem Qd.live.ok {t:Qd} (l:t.live c who) (hc:c.fits) (hwo:(who:Int)<c.wo):t.ok c:=by
 have sl:=hc.2.1;have wo:=hc.1
 have KD:∀st:Int,ZU st=0∨ZU st=1∨ZU st=2:=fun st=>by unfold ZU;split<;>(try split)<;>simp
 have FO:∀f:Qi,0≤f.at_∧f.at_≤c.sl→(f.kind=0∨f.kind=1∨f.kind=2)→f.ok c:=fun f ha hk=>⟨Lb,Lb,ha.1,Lb⟩
 refine ⟨l.s0,by have:=l.s1;omega,by rw [l.tw];omega,by rw [l.tw];omega,fun e=> ?_,fun e=> ?_,l.wd,fun e=>l.i Lb,fun e=> ?_⟩
 · obtain ⟨f,a1,a2,a3,a4,a5,a6⟩:=l.lk e;exact ⟨f,a1,FO f ⟨a3,a4⟩ (by rw [a6];exact KD _)⟩
 · obtain ⟨f,s,a1,a2,a3,a4,a5,a6,a7,a8⟩:=l.fd e;exact ⟨f,s,a1,FO f ⟨a3,Lb⟩ (by rw [a8];exact KD _),a2,a5,a6⟩
 · obtain ⟨r,a,⟨⟨s,d1,d2, -⟩,d3,d4, -, -⟩⟩:=l.rt e;exact ⟨r,a,⟨⟨s,d1,d2⟩,fun _=>d4,fun x=>absurd x d3⟩⟩
end
section
open Go.RowKit Go.Shelf Go.Lib
variable {w w':World} {b:Bs} {c:Q0} {who:Nat} {k:Q8} {v:Je} {L S:List Nat} {F:List Nat} {m:Qa} {N N' n:Int} {ve vr:Value} {vv:Nat→Je} {LL:Nat→List Nat}
theorem Qq.Dt (A:Qq w F b m N ve vr vv LL) (hw:who<m.ws.length) (f:Fr S w w') (hS:∀x∈S,x=b.pM∨x=b.pW∨x=b.pm∨x=b.qm∨x=b.pw∨x=b.pr∨vr.ownBlock=some x∨x∈LL who) {m':Qa} {k' k0:Q8} {v':Je} {L':List Nat} {vr':Value}
 (hc:m'.c=m.c) (hws:m'.ws=m.ws.set who k') (hen:m'.entries=m.entries) (hat:m'.at_=m.at_) (hnow:m'.now=m.now) (hev:m'.evs=m.evs)
 (P:QZ w' b.pM b.pW b.pm b.pc b.pw m.ws.length who ve m.c m.entries m.at_ (fun k=>(m.wk k).cells (vv k)) k0 v') (me:Qm w' b.pm b.qm m'.M N') (wl:Ze w' b.pw b.pr vr' m'.ahead m'.good m'.bad) (hvr:∀x,vr'.ownBlock=some x→vr.ownBlock=some x)
 (th:Ws w' b m.c who k' v' L') (ln:L'.Nodup) (l1:∀x∈L',(x∈LL who∨w.heap.size≤x)∧x<w'.heap.size) (hk0:k'.cells v'=k0.cells v':=by rfl):Goes w F b m' N' w':=by
 obtain ⟨n1,⟨n2,n3,n4,n5⟩,n6,⟨n7,n8,n9,n10⟩,⟨n11,n12,n13,n14,n15,n16⟩,⟨n17,n18,n19,n20⟩⟩:=A.ne
 have NB:∀y∈b.l,ve.ownBlock≠some y:=fun y hy e=>(A.e1 y e).2 hy
 have X:∀x,x=b.pc∨ve.ownBlock=some x→x∉S:=by
  intro x hx hxs
  have hb:Base b ve vr x:=by rcases hx with rfl|h;exact .inl (by simp [Bs.l]);exact .inr (.inl h)
  rcases hS x hxs with e|e|e|e|e|e|e|e
  · rcases hx with h|h
    · exact n11 (h.symm.trans e)
    · exact NB b.pM (by simp [Bs.l]) (e▸h)
  · rcases hx with h|h
    · exact n12 (h.symm.trans e)
    · exact NB b.pW (by simp [Bs.l]) (e▸h)
  · rcases hx with h|h
    · exact n13 (h.symm.trans e)
    · exact NB b.pm (by simp [Bs.l]) (e▸h)
  · rcases hx with h|h
    · exact n14 (h.symm.trans e)
    · exact NB b.qm (by simp [Bs.l]) (e▸h)
  · rcases hx with h|h
    · exact n15 (h.symm.trans e)
    · exact NB b.pw (by simp [Bs.l]) (e▸h)
  · rcases hx with h|h
    · exact n16 (h.symm.trans e)
    · exact NB b.pr (by simp [Bs.l]) (e▸h)
  · have:=A.e2 x e
    rcases hx with h|h
    · exact this.2.1 (by simp [Bs.l,h])
    · exact this.2.2 h
  · exact A.apart hw hb e
 refine A.next hw f (fun x hx=> ?_) hc hws (by rw [hen,hat];exact P.mb) (by rw [hk0];exact P.wr) me (by rw [hnow];exact A.ck.fr f (X _ (.inl rfl))) wl
  (by rw [hev];exact J3.fr A.ev f fun x hx=>X x (.inr hx)) (fun x hx=>.inl hx) hvr th ln fun x hx=>⟨(l1 x hx).1,(l1 x hx).2,fun e=> ?_⟩
 · rcases hS x hx with e|e|e|e|e|e|e|e
   · exact .inl (.inl (by simp [Bs.l,e]))
   · exact .inl (.inl (by simp [Bs.l,e]))
   · exact .inl (.inl (by simp [Bs.l,e]))
   · exact .inl (.inl (by simp [Bs.l,e]))
   · exact .inl (.inl (by simp [Bs.l,e]))
   · exact .inl (.inl (by simp [Bs.l,e]))
   · exact .inl (.inr (.inr e))
   · exact .inr (.inl e)
 · rcases (l1 x hx).1 with a|a
   · exact (A.l1 who hw x a).2.2.1 e
   · have:=(A.e1 x e).1;omega
def UC (b:Bs) (vr:Value) (m1:Qa) (w2:World):Prop:=∃vr',Ze w2 b.pw b.pr vr' m1.ahead m1.good m1.bad∧∀x,vr'.ownBlock=some x→vr.ownBlock=some x
theorem E9 (A:Qq w F b m N ve vr vv LL) (I:MInv n m) (hn:n≤1000000000):∀w1,Fr [] w w1→Calls Tryz.prog 115 #[.pointer (some ⟨b.pw,0,none⟩)] w1 fun e w2=>e=.returned (.bool m.Qr.2)∧UC b vr m.Qr.1 w2∧Fr (b.pw::b.pr::vr.ownBlock.toList) w1 w2:=fun w1 f=>by
 have g1:=I.gd;have g2:=I.bd
 refine (Q3U w1 b.pw b.pr vr m.ahead m.good m.bad (A.wl.ov f Lc Lc Lc) g1.1 Lb g2.1 Lb).mono ?_
 rintro e w2 ⟨v',rfl,h1,h2,h3⟩
 exact ⟨rfl,⟨v',h1,h3⟩,h2⟩
theorem r_get (A:Qq w F b m N ve vr vv LL) (I:MInv n m) (hw:who<m.ws.length) (hwo:(who:Int)<m.c.wo) (hN:N≤1000000000) (hn:n≤1000000000) (hs:(m.wk who).st=2) {t:Qd} (hk:(m.wk who).work=.get t):
 Calls Tryz.prog 57 #[.pointer (some ⟨b.pM,0,none⟩),.int .i64 who] w (YH w F b (QM m who) (N+1)):=by
 have T:=(A.th who hw).wk hs
 rw [hk] at T
 obtain ⟨bt,bm,bw,p,pl,pr,hvw,B,h1,h2,h3,hL⟩:=T
 have lv:=(I.wk who hwo).wk hs
 rw [hk] at lv
 obtain ⟨ho,lv⟩:=lv
 have hGt:Zt w p b.pm b.qm pl pr m.c t:=⟨h1,h2,h3,A.foot hw (l0:=[bt,bm,bw]) (by rw [hL];rfl)⟩
 have hok:=lv.ok I.mem.cf hwo
 have hpin:p∈LL who:=by rw [hL];simp
 have hlin:∀x,pl=some x→x∈LL who:=fun x hx=>by rw [hL];simp [hx]
 have hrin:∀x,pr=some x→x∈LL who:=fun x hx=>by rw [hL];simp [hx]
 have hSin:∀x∈p::b.pm::b.qm::(pl.toList++pr.toList),x=b.pm∨x=b.qm∨x∈LL who:=fun x hx=>by
  exact Z0t
 obtain ⟨hB,hDB0⟩:=A.box hw hL
 have hDB:∀x∈p::b.pm::b.qm::(pl.toList++pr.toList),x≠bt∧x≠bm∧x≠bw:=fun x hx=>hDB0 x (by simp only [List.mem_cons] at hx ⊢;rcases hx with h|h|h|h<;>simp [h])
 have Lin:∀x∈[bt,bm,bw],x∈LL who:=fun x hx=>by rw [hL];simp at hx ⊢;rcases hx with h|h|h<;>simp [h]
 have hne:=A.ne
 -- what is outside
 have WI:∀x∈b.pw::b.pr::vr.ownBlock.toList,x=b.pw∨x=b.pr∨vr.ownBlock=some x:=fun x hx=>by simpa using hx
 have WA:∀x,x∈LL who∨x=b.pm∨x=b.qm∨x=b.pM∨x=b.pW∨x=0→x∉b.pw::b.pr::vr.ownBlock.toList:=fun x hx hm=>by
  have NV:∀y∈b.l,vr.ownBlock≠some y:=fun y hy e=>(A.e2 y e).2.1 hy
  have q1:=A.bl b.pw (by simp [Bs.l]);have q2:=A.bl b.pr (by simp [Bs.l])
  rcases hx with h|h|h|h|h|h
  · have s:=A.sep hw (.inr (.inr h))
    rcases WI x hm with e|e|e
    · exact s.2.2.2.1 e
    · exact s.2.2.2.2.1 e
    · exact s.2.2.2.2.2.1 e
  · rcases WI x hm with e|e|e
    · exact hne.2.2.2.2.2.1 (e.symm.trans h)
    · exact hne.2.2.2.2.2.2.2.1 (e.symm.trans h)
    · exact NV b.pm (by simp [Bs.l]) (h▸e)
  · rcases WI x hm with e|e|e
    · exact hne.2.2.2.2.2.2.1 (e.symm.trans h)
    · exact hne.2.2.2.2.2.2.2.2 (e.symm.trans h)
    · exact NV b.qm (by simp [Bs.l]) (h▸e)
  · rcases WI x hm with e|e|e
    · exact hne.2.2.2.1.1 (e.symm.trans h)
    · exact hne.2.2.2.1.2.2.1 (e.symm.trans h)
    · exact NV b.pM (by simp [Bs.l]) (h▸e)
  · rcases WI x hm with e|e|e
    · exact hne.2.2.2.1.2.1 (e.symm.trans h)
    · exact hne.2.2.2.1.2.2.2 (e.symm.trans h)
    · exact NV b.pW (by simp [Bs.l]) (h▸e)
  · rcases WI x hm with e|e|e
    · omega
    · omega
    · have:=(A.e2 x e).1;omega
 obtain ⟨m1,good,em⟩:∃m1 good,(if t.st=9 then m.Qr else (m,false))=(m1,good):=⟨_,_,rfl⟩
 have emm:m1.c=m.c∧m1.ws=m.ws∧m1.evs=m.evs∧m1.at_=m.at_∧m1.entries=m.entries∧m1.now=m.now:=by
  split at em
  · have e2:m1=m.Qr.1:=(congrArg Prod.fst em).symm
    rw [e2];exact ⟨rfl,rfl,rfl,rfl,rfl,rfl⟩
  · have e2:m1=m:=(congrArg Prod.fst em).symm
    rw [e2];exact ⟨rfl,rfl,rfl,rfl,rfl,rfl⟩
 have hSW:∀(l:List Nat) (w1 w2:World),Fr l w1 w2→(∀x∈l,x∈p::b.pm::b.qm::(pl.toList++pr.toList)∨x=b.pM∨x=b.pW)→UC b vr m1 w1→UC b vr m1 w2:=fun l w1 w2 f hl ⟨vr',a1,a2⟩=>by
  have Z:∀x,x∈b.pw::b.pr::vr.ownBlock.toList→x∉l:=fun x hx hxl=>by
   rcases hl x hxl with h|h|h
   · rcases hSin x h with h|h|h
     · exact WA x (.inr (.inl h)) hx
     · exact WA x (.inr (.inr (.inl h))) hx
     · exact WA x (.inl h) hx
   · exact WA x (.inr (.inr (.inr (.inl h)))) hx
   · exact WA x (.inr (.inr (.inr (.inr (.inl h))))) hx
  exact ⟨vr',a1.ov f (Z _ Lc) (Z _ Lc) (fun x hx=>Z x (by simp [a2 x hx])),a2⟩
 have hDW:∀x∈b.pw::b.pr::vr.ownBlock.toList,x≠b.pM∧x≠b.pW∧x≠bt∧x≠bm∧x≠bw:=fun x hx=>
  ⟨fun e=>WA x (.inr (.inr (.inr (.inl e)))) hx,fun e=>WA x (.inr (.inr (.inr (.inr (.inl e))))) hx,fun e=>WA x (.inl (e▸Lin bt Lc)) hx,fun e=>WA x (.inl (e▸Lin bm Lc)) hx,fun e=>WA x (.inl (e▸Lin bw Lc)) hx⟩
 have hnd:decide (t.st=9)=false→good=false∧UC b vr m1 w:=fun hd=>by
  rw [if_neg (of_decide_eq_false hd)] at em
  cases em
  exact ⟨rfl,vr,A.wl,fun x hx=>hx⟩
 have hDI:=Q1Y w p pl pr m.c t h1
 have hWN:decide (t.st=9)=true→∀w1,Fr [] w w1→Calls Tryz.prog 115 #[.pointer (some ⟨b.pw,0,none⟩)] w1 fun e w2=>e=.returned (.bool good)∧UC b vr m1 w2∧Fr (b.pw::b.pr::vr.ownBlock.toList) w1 w2:=fun hd w1 f=>by
  rw [if_pos (of_decide_eq_true hd)] at em
  have:=E9 A I hn w1 f
  rw [show m.Qr.1=m1 from congrArg Prod.fst em,show m.Qr.2=good from congrArg Prod.snd em] at this
  exact this
 have hHC0:∀w1,Fr (b.pw::b.pr::vr.ownBlock.toList) w w1→Calls Tryz.prog 116 #[.pointer (some ⟨p,0,none⟩),.pointer (some ⟨b.pm,0,none⟩),.bool good] w1 (Q3D w1 p b.pm b.qm pl pr m.c N (Qg m.c t m.M good)):=fun w1 f=>
  Q3Y w1 p b.pm b.qm pl pr m.c t m.M N good (hGt.fr' f (WA _ (.inl hpin)) (fun x hx=>WA x (.inl (hlin x hx))) fun x hx=>WA x (.inl (hrin x hx))) (A.me.fr f (WA _ (.inr (.inl rfl))) (WA _ (.inr (.inr (.inl rfl))))) hN hok (Z5 I) I.mem.cf (A.fl.fr f (WA 0 Lc))
 have eM:QM m who=(if (Qg m.c t m.M good).1.st=15 then
  (if (Qg m.c t m.M good).1.e=3 then
    (if (m.wk who).ask.wait then {m1 with M:=(Qg m.c t m.M good).2}.setW who {(m.wk who) with work:=.get (Qg m.c t m.M good).1,qu:=some (XR who),st:=4} else {m1 with M:=(Qg m.c t m.M good).2}.setW who {(m.wk who) with work:=.get (Qg m.c t m.M good).1,tw:=some Y7,st:=3})
  else {m1 with M:=(Qg m.c t m.M good).2}.setW who ({(m.wk who) with work:=.get (Qg m.c t m.M good).1}.end_ who (if (Qg m.c t m.M good).1.e=0 then {ev0 with slot:=(Qg m.c t m.M good).1.i,gen:=(Qg m.c t m.M good).1.gen} else {ev0 with e:=(Qg m.c t m.M good).1.e})))
  else {m1 with M:=(Qg m.c t m.M good).2}.setW who {(m.wk who) with work:=.get (Qg m.c t m.M good).1}):=by
  unfold QM;simp only [hk];unfold Xi;simp only [em]
 rw [eM]
 clear eM
 obtain ⟨t',M',hx⟩:∃t' M',Qg m.c t m.M good=(t',M'):=⟨_,_,rfl⟩
 rw [hx] at hHC0 ⊢
 simp only
 let R:World→Prop:=fun w2=>∃pl' pr',Zt w2 p b.pm b.qm pl' pr' m.c t'∧Qm w2 b.pm b.qm M' (N+1)∧(∀x,pl'=some x→pl=some x∨w.heap.size≤x)∧∀x,pr'=some x→pr=some x∨w.heap.size≤x
 have hST:Xe R b.pM b.pW ve:=fun l w1 w2 f hl ⟨pl',pr',a1,a2,a3,a4⟩=>
  ⟨pl',pr',a1.fr' f (A.away hw (.inl hpin) hl) (fun x hx=>A.away hw (by rcases a3 x hx with h|h;exact .inl (hlin x h);exact .inr (.inr (.inr h))) hl) (fun x hx=>A.away hw (by rcases a4 x hx with h|h;exact .inl (hrin x h);exact .inr (.inr (.inr h))) hl),
    a2.fr f (A.away hw (.inr (.inl rfl)) hl) (A.away hw (.inr (.inr (.inl rfl))) hl),a3,a4⟩
 have hHC:∀w1,Fr (b.pw::b.pr::vr.ownBlock.toList) w w1→Calls Tryz.prog 116 #[.pointer (some ⟨p,0,none⟩),.pointer (some ⟨b.pm,0,none⟩),.bool good] w1 fun e w2=>e=.returned (.bool (decide (t'.st=15)))∧R w2∧Fr (p::b.pm::b.qm::(pl.toList++pr.toList)) w1 w2:=fun w1 f=>by
  exact Z0F
 have hA:t'.st=15→∀w2,R w2→Calls Tryz.prog 117 #[.pointer (some ⟨p,0,none⟩)] w2 fun e w3=>e=.returned (.tuple #[.int .i64 t'.e,.int .i64 (if t'.e=0 then t'.i else 0),.int .i64 (if t'.e=0 then t'.gen else 0)])∧Fr [] w2 w3:=fun h15 w2 ⟨pl',pr',a1,_⟩=>by
  refine (Q0o w2 p pl' pr' m.c t' a1.blk h15).mono ?_
  rintro e w3 ⟨rfl,f⟩
  refine ⟨?_,f⟩
  by_cases h0:t'.e=0
  · rw [if_pos h0,if_pos h0,if_pos h0,h0]
  · rw [if_neg h0,if_neg h0,if_neg h0]
 have hSn:∀x∈b.pM::b.pW::(p::b.pm::b.qm::(pl.toList++pr.toList)++b.pw::b.pr::vr.ownBlock.toList),x=b.pM∨x=b.pW∨x=b.pm∨x=b.qm∨x=b.pw∨x=b.pr∨vr.ownBlock=some x∨x∈LL who:=fun x hx=>by
  rw [List.mem_cons,List.mem_cons,List.mem_append] at hx
  rcases hx with h|h|h|h
  · exact .inl h
  · exact .inr (.inl h)
  · rcases hSin x h with h|h|h
    · exact .inr (.inr (.inl h))
    · exact .inr (.inr (.inr (.inl h)))
    · exact .inr (.inr (.inr (.inr (.inr (.inr (.inr h))))))
  · rcases WI x h with h|h|h
    · exact .inr (.inr (.inr (.inr (.inl h))))
    · exact .inr (.inr (.inr (.inr (.inr (.inl h)))))
    · exact .inr (.inr (.inr (.inr (.inr (.inr (.inl h))))))
 obtain ⟨m1c,m1w,m1e,m1a,m1n,m1t⟩:=emm
 refine Xo w _ _ _ _ _ _ who _ _ _ _ _ _ _ A.mb (A.row who) hw A.ne.1 113 bt bm bw hvw (fun args wx=>Qu Tryz.func113 (by kernel_rfl) rfl args wx) (fun w2=>Goes w F b _ (N+1) w2) ?_
 by_cases h15:t'.st=15
 · rw [decide_eq_true h15] at hHC
   rw [if_pos h15]
   by_cases he3:t'.e=3
   · rw [if_pos he3]
     have hA3:=fun w2 h=>hA h15 w2 h
     rw [he3] at hA3
     rcases Bool.eq_false_or_eq_true (m.wk who).ask.wait with hwt|hwt
     · rw [if_pos hwt]
       refine (Q4T (Q1F.mk A.mb (A.row who) hw A.ne.1 hST (A.hD hw hSin) B hB hDB hSW hDW hnd hDI hWN hHC) _ _ hA3 hwt).mono ?_
       rintro e w2 ⟨rfl,p2,hp2,hq,P,⟨pl',pr',a1,a2,a3,a4⟩,⟨vr',z1,z2⟩,f⟩
       exact ⟨rfl,A.Dt hw f hSn m1c (by rw [←m1w];rfl) m1n m1a m1t m1e P a2 z1 z2 (Q7R (.inl rfl) rfl rfl hq) Lc (by simp;exact ⟨.inr hp2,Q9 hq⟩)⟩
     · rw [if_neg (by rw [hwt];simp)]
       refine (Q2C (Q1F.mk A.mb (A.row who) hw A.ne.1 hST (A.hD hw hSin) B hB hDB hSW hDW hnd hDI hWN hHC) _ _ hA3 hwt).mono ?_
       rintro e w2 ⟨rfl,p2,hp2,hq,P,⟨pl',pr',a1,a2,a3,a4⟩,⟨vr',z1,z2⟩,f⟩
       exact ⟨rfl,A.Dt hw f hSn m1c (by rw [←m1w];rfl) m1n m1a m1t m1e P a2 z1 z2 (wkTw (t:=Y7) rfl rfl rfl hq) (by simp [Value.ownBlock]) (by simp [Value.ownBlock];exact ⟨.inr hp2,Q9 hq.b⟩)⟩
   · rw [if_neg he3]
     refine (Q6I (Q1F.mk A.mb (A.row who) hw A.ne.1 hST (A.hD hw hSin) B hB hDB hSW hDW hnd hDI hWN hHC) _ _ _ (hA h15) he3).mono ?_
     rintro e w2 ⟨rfl,p2,hp2,ht,P,⟨pl',pr',a1,a2,a3,a4⟩,⟨vr',z1,z2⟩,f⟩
     refine ⟨rfl,A.Dt hw f hSn m1c (by rw [←m1w];rfl) m1n m1a m1t m1e P a2 z1 z2 (Wh (pl:=none) (pr:=none) rfl rfl rfl ht trivial trivial) Lc (by simp;exact ⟨.inr hp2,Q9 ht⟩) ?_⟩
     by_cases h0:t'.e=0
     · rw [if_pos h0,if_pos h0,if_pos h0,h0];rfl
     · rw [if_neg h0,if_neg h0,if_neg h0];rfl
 · rw [decide_eq_false h15] at hHC
   rw [if_neg h15]
   refine (Q8O (Q1F.mk A.mb (A.row who) hw A.ne.1 hST (A.hD hw hSin) B hB hDB hSW hDW hnd hDI hWN hHC)).mono ?_
   rintro e w2 ⟨rfl,P,⟨pl',pr',a1,a2,a3,a4⟩,⟨vr',z1,z2⟩,f⟩
   have hBf:=A.Q3z hw hL B f fun x hx=>by
    rw [List.mem_append] at hx
    rcases hx with h|h
    · simp only [List.mem_cons] at h ⊢;rcases h with h|h|h|h<;>simp [h]
    · rcases WI x h with h|h|h<;>simp [h]
   obtain ⟨y1,y2⟩:=A.now hw (l:=[bt,bm,bw,p]) (pl:=pl) (pr:=pr) (pl':=pl') (pr':=pr') (by rw [hL];rfl) f.size a3 a4 a1.ft.lr a1.lk.lt a1.rt.lt
   exact ⟨rfl,A.Dt hw f hSn (L':=[bt,bm,bw,p]++(pl'.toList++pr'.toList)) m1c (by rw [←m1w];rfl) m1n m1a m1t m1e P a2 z1 z2 (by refine Vv ?_ ?_;(exact hs);exact ⟨bt,bm,bw,p,pl',pr',hvw,hBf,a1.blk,a1.lk,a1.rt,rfl⟩) y1 y2⟩
end
end Go.Proofs.YtgjklfmnmljilaaGreatDoor
