/- A part of the proof. -/
import Derived.Test.YtgjklfmnmljilaaGreatDoorZR37
import Derived.Deep.DeepCutAuto
namespace Go.Proofs.YtgjklfmnmljilaaGreatDoor
set_option linter.unusedVariables false
set_option linter.unusedSimpArgs false
set_option linter.unusedSectionVars false
set_option linter.unnecessarySimpa false
set_option maxRecDepth 100000
set_option maxHeartbeats 8000000
section
open Go.RowKit Go.Shelf Go.Lib
theorem Q2A (w:World) (pM pW pm pc pw n:Nat) (ve:Value) (c:Q0) (ent mat:Int) (hMB:QG w pM pW pm pc pw n ve c ent mat) (x:Int) (hh:(decide (0≤x)&&decide (x<n))=false):
 Calls Tryz.prog 26 #[.pointer (some ⟨pM,0,none⟩),.int .i64 x] w fun e w'=>e=.returned (.bool false)∧Fr [] w w':=by
 have HNE:=hid (Q9 hMB)
 have HHA:=hid (Zm w pM pW pm pc pw n ve c ent mat hMB x)
 rw [hh] at HHA
 clear hMB hh
 go_in
 go_wp2_with fail
 refine (HHA.out).mono ?_
 rintro e w1 ⟨rfl,f1⟩
 go_wp2
 go_ret
 exact ⟨rfl,f1⟩
variable {w w':World} {b:Bs} {c:Q0} {who:Nat} {k:Q8} {v:Je} {L S:List Nat} {F:List Nat} {m:Qa} {N N' n:Int} {ve vr:Value} {vv:Nat→Je} {LL:Nat→List Nat}
theorem Qq.keep (A:Qq w F b m N ve vr vv LL) (f:Fr S w w') (hS:∀x∈S,Base b ve vr x) {m':Qa} {vr':Value} (hc:m'.c=m.c) (hws:m'.ws=m.ws) (mb:QG w' b.pM b.pW b.pm b.pc b.pw m.ws.length ve m.c m'.entries m'.at_)
 (wr:QL w' b.pW m.ws.length (fun k=>(m.wk k).cells (vv k))) (me:Qm w' b.pm b.qm m'.M N') (ck:Y6 w' b.pc m'.now) (wl:Ze w' b.pw b.pr vr' m'.ahead m'.good m'.bad) (ev:Xn w' ve m'.evs)
 (hvr:∀x,vr'.ownBlock=some x→vr.ownBlock=some x∨(w.heap.size≤x∧x<w'.heap.size)):Qq w' (F++vr'.ownBlock.toList) b m' N' ve vr' vv LL:=by
 have hs:=f.size
 have h2:∀x∈S,2<x:=fun x hx=>(A.base (hS x hx)).1
 have hM:=A.bl b.pM (by simp [Bs.l])
 have W:∀k,m'.wk k=m.wk k:=fun k=>by unfold Qa.wk;rw [hws]
 refine ⟨by rw [hws,hc];exact mb,by rw [hws];simp only [W];exact wr,me,ck,wl,ev,A.fl.fr f fun h=>by have:=h2 0 h;omega,A.db.fr f fun h=>by have:=h2 2 h;omega,A.nd, ?_, ?_, ?_, ?_, ?_, ?_, ?_⟩
 · intro x hx;have:=A.bl x hx;exact ⟨this.1,Lb,by simp [this.2.2]⟩
 · intro x hx;have:=A.e1 x hx;exact ⟨⟨this.1.1,Lb,by simp [this.1.2.2]⟩,this.2⟩
 · intro x hx
   rcases hvr x hx with h|h
   · have h3:=A.e2 x h
     exact ⟨⟨h3.1.1,Lb,by simp [h3.1.2.2]⟩,h3.2⟩
   · exact ⟨⟨Lb,h.2,by simp [hx]⟩,fun hb=>by have:=A.bl x hb;omega,fun he=>by have:=(A.e1 x he).1;omega⟩
 · intro j hj
   rw [hws] at hj
   rw [W,hc]
   exact (A.th j hj).fr f fun x hx hxs=>A.apart hj (hS x hxs) hx
 · intro j hj;rw [hws] at hj;exact A.ln j hj
 · intro j hj x hx
   rw [hws] at hj
   have h3:=A.l1 j hj x hx
   refine ⟨⟨h3.1.1,Lb,by simp [h3.1.2.2]⟩,h3.2.1,h3.2.2.1,fun h=> ?_⟩
   rcases hvr x h with a|a
   · exact h3.2.2.2 a
   · omega
 · intro j i hj hi;rw [hws] at hj hi;exact A.l2 j i hj hi
theorem Qq.goes (A:Qq w F b m N ve vr vv LL) (f:Fr S w w') (hS:∀x∈S,Base b ve vr x) {m':Qa} {vr':Value} (hc:m'.c=m.c) (hws:m'.ws=m.ws) (mb:QG w' b.pM b.pW b.pm b.pc b.pw m.ws.length ve m.c m'.entries m'.at_)
 (wr:QL w' b.pW m.ws.length (fun k=>(m.wk k).cells (vv k))) (me:Qm w' b.pm b.qm m'.M N') (ck:Y6 w' b.pc m'.now) (wl:Ze w' b.pw b.pr vr' m'.ahead m'.good m'.bad) (ev:Xn w' ve m'.evs)
 (hvr:∀x,vr'.ownBlock=some x→vr.ownBlock=some x∨(w.heap.size≤x∧x<w'.heap.size)):Goes w F b m' N' w':=
 ⟨_,⟨_,_,_,_,A.keep f hS hc hws mb wr me ck wl ev hvr⟩,f.drop fun x hx=>.inl (A.base (hS x hx)).2.2,fun x hx=>by
   simp only [List.mem_append,Option.mem_toList,Option.mem_def] at hx
   rcases hx with a|a
   · exact .inl a
   · rcases hvr x a with d|d
     · exact .inl (A.e2 x d).1.2.2
     · exact .inr d.1⟩
theorem Qq.same (A:Qq w F b m N ve vr vv LL) (f:Fr [] w w') (hN:N≤N'):Goes w F b m N' w':=
 A.goes f Lc rfl rfl (A.mb.fr f Lc) (A.wr.fr f Lc) ((A.me.fr f Lc Lc).mono hN) (A.ck.fr f Lc) (A.wl.ov f Lc Lc Lc) (J3.fr A.ev f Lc) fun x hx=>.inl hx
theorem Qq.less (A:Qq w F b m N ve vr vv LL) {F':List Nat} (h:∀x∈F,x∈F'):Qq w F' b m N ve vr vv LL:=
 ⟨A.mb,A.wr,A.me,A.ck,A.wl,A.ev,A.fl,A.db,A.nd,fun x hx=>by have:=A.bl x hx;exact ⟨this.1,this.2.1,h x this.2.2⟩,fun x hx=>by have:=A.e1 x hx;exact ⟨⟨this.1.1,this.1.2.1,h x this.1.2.2⟩,this.2⟩,
   fun x hx=>by have:=A.e2 x hx;exact ⟨⟨this.1.1,this.1.2.1,h x this.1.2.2⟩,this.2⟩,A.th,A.ln,fun k hk x hx=>by have:=A.l1 k hk x hx;exact ⟨⟨this.1.1,this.1.2.1,h x this.1.2.2⟩,this.2⟩,A.l2⟩
def Qa.entered (m:Qa):Qa:={m with at_:=m.entries,entries:=m.entries+1}
theorem Qq.entered (A:Qq w F b m N ve vr vv LL) (mb:QG w' b.pM b.pW b.pm b.pc b.pw m.ws.length ve m.c (m.entries+1) m.entries) (f:Fr [b.pM] w w'):Qq w' F b m.entered N ve vr vv LL:=by
 have d:=A.nd
 have X:∀x,Base b ve vr x→x≠b.pM→x∉[b.pM]:=fun x _ hx h=>hx (by simpa using h)
 obtain ⟨n1,⟨n2,n3,n4,n5⟩,n6,⟨n7,n8,n9,n10⟩,⟨n11,n12,n13,n14,n15,n16⟩,⟨n17,n18,n19,n20⟩⟩:=A.ne
 refine (A.keep f (fun x hx=>.inl (by simp at hx;simp [Bs.l,hx])) (m':=m.entered) (vr':=vr) rfl rfl mb (A.wr.fr f (by simp;exact Ne.symm n1)) (A.me.fr f (by simp;exact n2) (by simp;exact n4)) (A.ck.fr f (by simp;exact n11)) (A.wl.ov f (by simp;exact n7) (by simp;exact n9) (fun x hx h=> ?_)) (J3.fr A.ev f fun x hx h=> ?_) fun x hx=>.inl hx).less ?_
 · simp at h;exact (A.e2 x hx).2.1 (by simp [Bs.l,h])
 · simp at h;exact (A.e1 x hx).2 (by simp [Bs.l,h])
 · intro x hx
   simp only [List.mem_append,Option.mem_toList,Option.mem_def] at hx
   exact hx.elim id fun h=>(A.e2 x h).1.2.2
theorem MInv.entered (I:MInv n m):MInv n m.entered:=⟨I.mem,I.gd,I.bd,I.ah,I.nw,I.ev,I.wl,I.wk⟩
theorem Goes.grow {m':Qa} (h:Goes w F b m' N w') (hN:N≤N'):Goes w F b m' N' w':=by
 obtain ⟨F',⟨ve,vr,v,L,A⟩,g,h1⟩:=h
 exact ⟨F',⟨ve,vr,v,L,⟨A.mb,A.wr,A.me.mono hN,A.ck,A.wl,A.ev,A.fl,A.db,A.nd,A.bl,A.e1,A.e2,A.th,A.ln,A.l1,A.l2⟩⟩,g,h1⟩
def Q1H (w:World) (F:List Nat) (b:Bs) (r:Qa×Bool) (N:Int) (e:Ending) (w':World):Prop:=e=.returned (.bool r.2)∧Goes w F b r.1 N w'
theorem r_pick (A:Qq w F b m N ve vr vv LL) (I:MInv n m) (hN:N≤1000000000) (hn:n≤1000000000) (x:Int):
 Calls Tryz.prog 26 #[.pointer (some ⟨b.pM,0,none⟩),.int .i64 x] w (Q1H w F b (Ud m x) (N+2)):=by
 unfold Ud
 rcases Bool.eq_false_or_eq_true (m.has x) with hh|hh
 · rw [if_pos hh]
   unfold Qa.has at hh
   rw [Bool.and_eq_true,decide_eq_true_eq,decide_eq_true_eq] at hh
   obtain ⟨who,rfl⟩:∃who:Nat,x=(who:Int):=⟨x.toNat,Lb⟩
   rw [Int.toNat_natCast]
   have hw:who<m.ws.length:=Lb
   have hwo:(who:Int)<m.c.wo:=by have:=I.wl;omega
   have Lv:=I.wk who hwo
   have hmw:(m.wk who).st=6→∀w',Fr [] w w'→Calls Tryz.prog 39 #[.pointer (some ⟨b.pM,0,none⟩),.int .i64 who] w' fun e w2=>e=.returned (.bool (JG m who))∧Fr [] w' w2:=by
    intro h6 w1 f1
    have hg:∀w',Fr [] w1 w'→Calls Tryz.prog 53 #[.pointer (some ⟨b.pM,0,none⟩),.int .i64 who] w' fun e w2=>e=.returned (.bool (XZ m who))∧Fr [] w' w2:=fun w' f'=>Uo A I hwo w' (f1.trans f')
    have hp:∀w',Fr [] w1 w'→Calls Tryz.prog 54 #[.pointer (some ⟨b.pc,0,none⟩),.int .i64 (m.wk who).ask.dl] w' fun e w2=>e=.returned (.bool (decide ((m.wk who).ask.dl≤m.now)))∧Fr [] w' w2:=fun w' f'=>Q5r w' b.pc m.now _ (A.ck.fr (f1.trans f') Lc)
    have mb1:=A.mb.fr f1 Lc;have wr1:=(A.row who).fr f1 Lc
    unfold JG
    rcases Bool.eq_false_or_eq_true (XZ m who) with g|g
    · rw [g,Bool.true_or]
      exact Ez w1 _ _ _ _ _ _ who _ _ _ _ _ _ _ mb1 wr1 hw A.ne.1 _ _ hg hp g
    · rw [g,Bool.false_or]
      rcases Bool.eq_false_or_eq_true (m.wk who).timed with t|t
      · rw [t,Bool.true_and]
        exact UU w1 _ _ _ _ _ _ who _ _ _ _ _ _ _ mb1 wr1 hw A.ne.1 _ _ hg hp g t
      · rw [t,Bool.false_and]
        exact Q0Y w1 _ _ _ _ _ _ who _ _ _ _ _ _ _ mb1 wr1 hw A.ne.1 _ _ hg hp g t
   by_cases h0:(m.wk who).st=0
   · rw [if_pos (.inl h0)]
     exact (Q0X w _ _ _ _ _ _ who _ _ _ _ _ _ _ A.mb (A.row who) hw A.ne.1 h0).mono fun e w2 ⟨e1,f⟩=>⟨e1,A.same f Lb⟩
   · have hk9:(m.wk who).st.toNat<9:=by have:=Lv.s0;have:=Lv.s1;omega
     have hst:(((m.wk who).st.toNat:Nat):Int)=(m.wk who).st:=by have:=Lv.s0;omega
     have hix:=Q8Q (m.wk who).st.toNat hk9
     rw [hst] at hix
     have hHC:∀w',Fr [] w w'→Calls Tryz.prog (Uj.getD (m.wk who).st.toNat 0) #[.pointer (some ⟨b.pM,0,none⟩),.int .i64 who] w' fun e w2=>e=.returned (.tuple #[])∧Goes w F b (Qs m who) (N+2) w2:=fun w' f'=>by
      have g:=A.same f' (Int.le_refl N)
      obtain ⟨F',⟨ve',vr',v',L',A'⟩,g2,g3⟩:=g
      refine (r_step A' I hw hwo hN hn h0).mono ?_
      rintro e w2 ⟨rfl,h⟩
      exact ⟨rfl,(h.grow Lb).pre (f'.drop Lc) g3⟩
     by_cases h6:(m.wk who).st=6
     · rcases Bool.eq_false_or_eq_true (JG m who) with g|g
       · rw [if_neg (fun e=>e.elim h0 fun e=>by rw [g] at e;exact absurd e.2 Lc)]
         refine Q0W w _ _ _ _ _ _ who _ _ _ _ _ _ _ A.mb (A.row who) hw A.ne.1 h6 ?_ _ _ GJ hix (fun args wx=>Ui _ hk9 args wx) _ hHC
         have:=hmw h6;rw [g] at this;exact this
       · rw [if_pos (.inr ⟨h6,g⟩)]
         refine (Ey w _ _ _ _ _ _ who _ _ _ _ _ _ _ A.mb (A.row who) hw A.ne.1 h6 ?_).mono fun e w2 ⟨e1,f⟩=>⟨e1,A.same f Lb⟩
         have:=hmw h6;rw [g] at this;exact this
     · rw [if_neg (fun e=>e.elim h0 fun e=>h6 e.1)]
       exact Q2z w _ _ _ _ _ _ who _ _ _ _ _ _ _ A.mb (A.row who) hw A.ne.1 ⟨h0,h6⟩ _ _ GJ hix (fun args wx=>Ui _ hk9 args wx) _ hHC
 · rw [if_neg (by rw [hh];simp)]
   exact (Q2A w _ _ _ _ _ _ _ _ _ _ A.mb x hh).mono fun e w2 ⟨e1,f⟩=>⟨e1,A.same f Lb⟩
theorem Q6l (A:Qq w F b m N ve vr vv LL) (I:MInv n m) (hN:N≤1000000000) (x:QD):
 Calls Tryz.prog 25 #[.pointer (some ⟨b.pM,0,none⟩),x.val] w (Q1H w F b (Vi m x) (N+2)):=by
 unfold Vi
 rcases Bool.eq_false_or_eq_true (m.has x.who) with hh|hh
 · have hh':=hh
   unfold Qa.has at hh
   rw [Bool.and_eq_true,decide_eq_true_eq,decide_eq_true_eq] at hh
   obtain ⟨who,hx⟩:∃who:Nat,x.who=(who:Int):=⟨x.who.toNat,Lb⟩
   have hw:who<m.ws.length:=Lb
   have hwt:x.who.toNat=who:=Lb
   have hel:m.evs.length≤100000:=by
    have h1:=I.ev;have h2:=Z8 m.ws;omega
   rw [hwt,hh']
   by_cases h0:(m.wk who).st=0
   · by_cases h1:1999≤m.evs.length
     · rw [if_neg (fun e=>Lb)]
       exact (Ve w _ _ _ _ _ _ who _ _ _ _ _ _ _ A.mb (A.row who) hw A.ne.1 _ A.ev hel A.hve x hx (.inr ⟨h0,.inl h1⟩)).mono fun e w2 ⟨e1,f⟩=>⟨e1,A.same f Lb⟩
     · by_cases h2:x.ask.op<0
       · rw [if_neg (fun e=>Lb)]
         exact (Ve w _ _ _ _ _ _ who _ _ _ _ _ _ _ A.mb (A.row who) hw A.ne.1 _ A.ev hel A.hve x hx (.inr ⟨h0,.inr ⟨h1,.inl h2⟩⟩)).mono fun e w2 ⟨e1,f⟩=>⟨e1,A.same f Lb⟩
       · by_cases h3:8≤x.ask.op
         · rw [if_neg (fun e=>Lb)]
           exact (Ve w _ _ _ _ _ _ who _ _ _ _ _ _ _ A.mb (A.row who) hw A.ne.1 _ A.ev hel A.hve x hx (.inr ⟨h0,.inr ⟨h1,.inr ⟨h2,h3⟩⟩⟩)).mono fun e w2 ⟨e1,f⟩=>⟨e1,A.same f Lb⟩
         · rw [if_pos ⟨rfl,h0,Lb,Lb,Lb⟩]
           refine (Q10 w _ _ _ _ _ _ who _ _ _ _ _ _ _ A.mb (A.row who) hw A.ne.1 _ A.ev hel A.hve x hx h0 h1 Lb h3).mono ?_
           rintro e w2 ⟨rfl,ve',P,ev,hve,f⟩
           obtain ⟨n1,⟨n2,n3,n4,n5⟩,n6,⟨n7,n8,n9,n10⟩,⟨n11,n12,n13,n14,n15,n16⟩,⟨n17,n18,n19,n20⟩⟩:=A.ne
           have X:∀y,Base b ve vr y→y≠b.pM→y≠b.pW→ve.ownBlock≠some y→y∉b.pM::b.pW::ve.ownBlock.toList:=fun y _ h1 h2 h3 h=>by
            simp only [List.mem_cons,Option.mem_toList,Option.mem_def] at h
            exact h.elim h1 fun h=>h.elim h2 h3
           have Y:∀y∈b.l,ve.ownBlock≠some y:=fun y hy e=>(A.e1 y e).2 hy
           refine ⟨rfl,A.next hw f (fun y hy=> ?_) rfl rfl P.mb P.wr ((A.me.fr f (X _ (.inl (by simp [Bs.l])) n2 n3 (Y _ (by simp [Bs.l]))) (X _ (.inl (by simp [Bs.l])) n4 n5 (Y _ (by simp [Bs.l])))).mono Lb) (A.ck.fr f (X _ (.inl (by simp [Bs.l])) n11 n12 (Y _ (by simp [Bs.l]))))
            (A.wl.ov f (X _ (.inl (by simp [Bs.l])) n7 n8 (Y _ (by simp [Bs.l]))) (X _ (.inl (by simp [Bs.l])) n9 n10 (Y _ (by simp [Bs.l]))) fun y hy=> ?_) ev hve (fun y hy=>hy) (Ed (.inr (.inl rfl))) Lc Lc⟩
           · simp only [List.mem_cons,Option.mem_toList,Option.mem_def] at hy
             rcases hy with rfl|rfl|hy
             · exact .inl (.inl (by simp [Bs.l]))
             · exact .inl (.inl (by simp [Bs.l]))
             · exact .inl (.inr (.inl hy))
           · have h4:=A.e2 y hy
             exact X y (.inr (.inr hy)) (fun e=>h4.2.1 (by simp [Bs.l,e])) (fun e=>h4.2.1 (by simp [Bs.l,e])) h4.2.2
   · rw [if_neg (fun e=>h0 e.2.1)]
     exact (Ve w _ _ _ _ _ _ who _ _ _ _ _ _ _ A.mb (A.row who) hw A.ne.1 _ A.ev hel A.hve x hx (.inl h0)).mono fun e w2 ⟨e1,f⟩=>⟨e1,A.same f Lb⟩
 · rw [if_neg (by rw [hh];simp)]
   exact (EB w _ _ _ _ _ _ _ _ _ _ A.mb x hh).mono fun e w2 ⟨e1,f⟩=>⟨e1,A.same f Lb⟩
theorem Q6o (A:Qq w F b m N ve vr vv LL) (I:MInv n m) (hN:N≤100000000) (i:Int):
 Calls Tryz.prog 29 #[.pointer (some ⟨b.pM,0,none⟩),.int .i64 i] w (Q1H w F b (K9 m i) (N+2)):=by
 obtain ⟨n1,⟨n2,n3,n4,n5⟩,n6,⟨n7,n8,n9,n10⟩,⟨n11,n12,n13,n14,n15,n16⟩,⟨n17,n18,n19,n20⟩⟩:=A.ne
 have z1:=A.bl b.pM (by simp [Bs.l]);have z2:=A.bl b.pm (by simp [Bs.l]);have z3:=A.bl b.qm (by simp [Bs.l])
 have hne:b.pm≠b.pM∧b.qm≠b.pM∧0<b.pM∧0<b.pm∧0<b.qm:=⟨n2,n4,Lb,Lb,Lb⟩
 have X:∀y∈b.l,y≠b.pm→y≠b.qm→y∉[b.pm,b.qm]:=fun y _ h1 h2 h=>by simp at h;exact h.elim h1 h2
 have G:∀{M':List Int} {w2:World},Fr [b.pm,b.qm] w w2→Qm w2 b.pm b.qm M' (N+2)→Goes w F b {m with M:=M'} (N+2) w2:=fun {M' w2} f me=>by
  refine A.goes f (fun y hy=>.inl (by simp at hy;rcases hy with rfl|rfl<;>simp [Bs.l])) rfl rfl (A.mb.fr f (X _ (by simp [Bs.l]) (Ne.symm n2) (Ne.symm n4))) (A.wr.fr f (X _ (by simp [Bs.l]) (Ne.symm n3) (Ne.symm n5))) me (A.ck.fr f (X _ (by simp [Bs.l]) n13 n14)) (A.wl.ov f (X _ (by simp [Bs.l]) n17 n18) (X _ (by simp [Bs.l]) n19 n20) fun y hy h=> ?_) (J3.fr A.ev f fun y hy h=> ?_) fun y hy=>.inl hy
  · simp at h;exact (A.e2 y hy).2.1 (by rcases h with rfl|rfl<;>simp [Bs.l])
  · simp at h;exact (A.e1 y hy).2 (by rcases h with rfl|rfl<;>simp [Bs.l])
 unfold K9
 by_cases hn:Q5 m.c i<0
 · rw [if_pos hn]
   exact (Q2I w _ _ _ _ _ _ _ _ _ _ _ _ _ A.mb A.me hN I.mem.cf A.fl hne i hn).mono fun e w2 ⟨e1,me,f⟩=>⟨e1,G f me⟩
 · rw [if_neg hn]
   have hi:0≤i∧i<m.c.sl:=by
    refine Decidable.byContradiction fun h=>hn ?_
    unfold Q5;rw [if_neg h];decide
   obtain ⟨s,hs,hl⟩:=I.mem.sl i hi.1 hi.2
   have hlen:Q5 m.c i<(m.M.length:Int):=by
    have:=I.mem.len;unfold Q5;rw [if_pos hi];unfold Q0.cells at this;unfold Q0.slot;omega
   rw [hl,XK hs]
   cases hx:Qk s 13 0 0 with
   |none=>exact (Q14 w _ _ _ _ _ _ _ _ _ _ _ _ _ A.mb A.me hN I.mem.cf A.fl hne i s Lb hs hl hx).mono fun e w2 ⟨e1,me,f⟩=>⟨e1,G f me⟩
   |some u=>exact (Q13 w _ _ _ _ _ _ _ _ _ _ _ _ _ A.mb A.me hN I.mem.cf A.fl hne i s Lb hs hl u hlen hx).mono fun e w2 ⟨e1,me,f⟩=>⟨e1,G f me⟩
theorem r_do (A:Qq w F b m N ve vr vv LL) (I:MInv n m) (hN:N≤100000000) (hn:n≤1000000000) (h0:0≤m.entries) (h1:m.entries≤1000000000) (x:QD):
 Calls Tryz.prog 11 #[.pointer (some ⟨b.pM,0,none⟩),x.val] w (Q1H w F b (doV m x) (N+2)):=by
 have E:∀w1,QG w1 b.pM b.pW b.pm b.pc b.pw m.ws.length ve m.c (m.entries+1) m.entries→Fr [b.pM] w w1→Qq w1 F b m.entered N ve vr vv LL:=fun w1 mb f=>A.entered mb f
 have P:∀{w1 w2:World} {m':Qa},Fr [b.pM] w w1→Goes w1 F b m' (N+2) w2→Goes w F b m' (N+2) w2:=fun f h=>
  h.pre (f.drop fun x hx=>.inl (by simp at hx;rw [hx];exact (A.bl b.pM (by simp [Bs.l])).2.2)) fun x hx=>.inl hx
 have I':=I.entered
 obtain ⟨n1,⟨n2,n3,n4,n5⟩,n6,⟨n7,n8,n9,n10⟩,⟨n11,n12,n13,n14,n15,n16⟩,⟨n17,n18,n19,n20⟩⟩:=A.ne
 have eD:doV m x=(if x.kind=0 then Vi m.entered x else if x.kind=1 then Ud m.entered x.who else if x.kind=2 then ({m.entered with now:=m.now+min (max x.n 0) (1099511627776 - m.now)},true)
  else if x.kind=3 then (if m.ahead.length<1000 then ({m.entered with ahead:=m.ahead++[x.good]},true) else (m.entered,false)) else if x.kind=4 then K9 m.entered x.ask.slot else (m.entered,false)):=rfl
 rw [eD]
 by_cases k0:x.kind=0
 · rw [if_pos k0]
   exact Q2L w _ _ _ _ _ _ _ _ _ _ A.mb h0 h1 x k0 _ _ fun w1 mb f=>(Q6l (E w1 mb f) I' Lb x).mono fun e w2 ⟨e1,g⟩=>⟨e1,P f g⟩
 rw [if_neg k0]
 by_cases k1:x.kind=1
 · rw [if_pos k1]
   exact Q6N w _ _ _ _ _ _ _ _ _ _ A.mb h0 h1 x k1 _ _ fun w1 mb f=>(r_pick (E w1 mb f) I' Lb hn x.who).mono fun e w2 ⟨e1,g⟩=>⟨e1,P f g⟩
 rw [if_neg k1]
 by_cases k2:x.kind=2
 · rw [if_pos k2]
   refine Q6M w _ _ _ _ _ _ _ _ _ _ A.mb h0 h1 x k2 (Gs m.now x.n) _ [b.pc] (fun w1 mb f=> ?_) (by simp;exact Ne.symm n11) (by simp;exact (A.bl b.pc (by simp [Bs.l])).2.1)
   have A1:=E w1 mb f
   refine (Q5n w1 b.pc m.now x.n A1.ck I.nw.1 I.nw.2).mono ?_
   rintro e w2 ⟨e1,ck,g⟩
   refine ⟨e1,P f (A1.goes g (fun y hy=>.inl (by simp at hy;simp [Bs.l,hy])) rfl rfl (A1.mb.fr g (by simp;exact Ne.symm n11)) (A1.wr.fr g (by simp;exact Ne.symm n12)) ((A1.me.fr g (by simp;exact Ne.symm n13) (by simp;exact Ne.symm n14)).mono Lb) ck (A1.wl.ov g (by simp;exact Ne.symm n15) (by simp;exact Ne.symm n16) fun y hy h=> ?_) (J3.fr A1.ev g fun y hy h=> ?_) fun y hy=>.inl hy),g⟩
   · simp at h;exact (A1.e2 y hy).2.1 (by simp [Bs.l,h])
   · simp at h;exact (A1.e1 y hy).2 (by simp [Bs.l,h])
 rw [if_neg k2]
 by_cases k3:x.kind=3
 · rw [if_pos k3]
   have hb:(if m.ahead.length<1000 then ({m.entered with ahead:=m.ahead++[x.good]},true) else (m.entered,false))=({m.entered with ahead:=if m.ahead.length<1000 then m.ahead++[x.good] else m.ahead},decide (m.ahead.length<1000)):=by
    by_cases h:m.ahead.length<1000
    · rw [if_pos h,if_pos h,decide_eq_true h]
    · rw [if_neg h,if_neg h,decide_eq_false h];rfl
   rw [hb]
   have z:=A.bl b.pr (by simp [Bs.l])
   refine Q6P w _ _ _ _ _ _ _ _ _ _ A.mb h0 h1 x k3 _ _ (b.pr::vr.ownBlock.toList) (fun w1 mb f=> ?_) (fun h=> ?_) (fun y hy=> ?_)
   · have A1:=E w1 mb f
     refine (Q3V w1 b.pw b.pr vr m.ahead m.good m.bad x.good A1.wl I.ah).mono ?_
     rintro e w2 ⟨v',e1,wl,g,hv⟩
     have Y:∀y∈b.l,y≠b.pr→y∉b.pr::vr.ownBlock.toList:=fun y hy h1 h=>by
      simp only [List.mem_cons,Option.mem_toList,Option.mem_def] at h
      exact h.elim h1 fun h=>(A1.e2 y h).2.1 hy
     have hlt:∀y,v'.ownBlock=some y→y<w2.heap.size:=wl.r.2.lt
     refine ⟨e1,P f (A1.goes g (fun y hy=> ?_) rfl rfl (A1.mb.fr g (Y _ (by simp [Bs.l]) (Ne.symm n9))) (A1.wr.fr g (Y _ (by simp [Bs.l]) (Ne.symm n10))) ((A1.me.fr g (Y _ (by simp [Bs.l]) (Ne.symm n19)) (Y _ (by simp [Bs.l]) (Ne.symm n20))).mono Lb) (A1.ck.fr g (Y _ (by simp [Bs.l]) n16)) wl (J3.fr A1.ev g fun y hy h=> ?_) fun y hy=>(hv y hy).imp id fun h=>⟨h,hlt y hy⟩),g⟩
     · simp only [List.mem_cons,Option.mem_toList,Option.mem_def] at hy
       rcases hy with rfl|hy
       · exact .inl (by simp [Bs.l])
       · exact .inr (.inr hy)
     · simp only [List.mem_cons,Option.mem_toList,Option.mem_def] at h
       rcases h with rfl|h
       · exact (A1.e1 _ hy).2 (by simp [Bs.l])
       · exact (A1.e2 y h).2.2 hy
   · simp only [List.mem_cons,Option.mem_toList,Option.mem_def] at h
     rcases h with h|h
     · exact n9 h.symm
     · exact (A.e2 _ h).2.1 (by simp [Bs.l])
   · simp only [List.mem_cons,Option.mem_toList,Option.mem_def] at hy
     rcases hy with rfl|hy
     · exact z.2.1
     · exact (A.e2 y hy).1.2.1
 rw [if_neg k3]
 by_cases k4:x.kind=4
 · rw [if_pos k4]
   exact Q2M w _ _ _ _ _ _ _ _ _ _ A.mb h0 h1 x k4 _ _ fun w1 mb f=>(Q6o (E w1 mb f) I' Lb x.ask.slot).mono fun e w2 ⟨e1,g⟩=>⟨e1,P f g⟩
 rw [if_neg k4]
 refine (Q6O w _ _ _ _ _ _ _ _ _ _ A.mb h0 h1 x ⟨k0,k1,k2,k3,k4⟩).mono fun e w2 ⟨e1,mb,f⟩=>⟨e1,P f ?_⟩
 have A1:=E w2 mb f
 exact A1.same (Fr.refl _ _) Lb
end
section
open Go.RowKit Go.Shelf Go.Lib
theorem XQ (x:EvV):x.cells.length=18:=rfl
theorem Q3r:∀l:List EvV,(l.flatMap EvV.cells).length=l.length*18
 |[]=>rfl
 |x::t=>by rw [List.flatMap_cons,List.length_append,Q3r t,XQ,List.length_cons];omega
theorem Q97 (l:List EvV):∀u∈l.flatMap EvV.cells,u.oneCell'=true:=by
 intro u hu
 obtain ⟨x, -,h⟩:=List.mem_flatMap.1 hu
 unfold EvV.cells at h
 simp only [List.mem_cons,List.not_mem_nil,or_false] at h
 rcases h with h|h|h|h|h|h|h|h|h|h|h|h|h|h|h|h|h|h<;>rw [h]<;>rfl
theorem Dr {w:World} {base:Nat} {e:TypeId} {k:Nat} {v:Value} {n:Nat} {C:List Value} (h:w.ownsRow base e k v n C) (hC:C.length=n*k):J3 e k w v n C∧∀b,v.ownBlock=some b→base≤b:=by
 refine ⟨⟨hC, ?_⟩,fun b hb=>(h.lt b hb).1⟩
 rcases h.2 with ⟨h',h0⟩|⟨g,cap,cur,h',_,hg,hl,hm,hs,htake⟩
 · exact .inl ⟨h',h0⟩
 · refine .inr ⟨g,0,cap,cur,h',hg,hl,hm,Lb,fun j u hj=> ?_⟩
   have hjl:j<n*k:=by rw [←hC];exact (List.getElem?_eq_some_iff.1 hj).1
   rw [Nat.zero_add,←Array.getElem?_toList,←hj,←htake,List.getElem?_take,if_pos hjl]
def Q7L (w:World) (evs:List EvV) (e:Ending) (w':World):Prop:=∃v',e=.returned v'∧Xn w' v' evs∧(∀b,v'.ownBlock=some b→w.heap.size≤b)∧Fr [] w w'
theorem Q1l (w:World) (ve:Value) (evs:List EvV) (hE:Xn w ve evs) (hn:evs.length≤100000):Calls Tryz.prog 36 #[ve] w (Q7L w evs):=by
 obtain ⟨i0,hi,hz0,hz1,hz2⟩:=info_parts Q3s
 obtain ⟨n,hL⟩:∃n,evs.length=n:=⟨_,rfl⟩
 obtain ⟨C,hC⟩:∃C,evs.flatMap EvV.cells=C:=⟨_,rfl⟩
 have hlen:=Q3r evs
 have hone:=Q97 evs
 have hE':=hE
 unfold Xn at hE'
 rw [hC] at hlen hone hE'
 rw [hL] at hlen hE' hn
 rcases hE'.2 with ⟨rfl,h0⟩|⟨q,off,cap,cur,rfl,hg,h1,h2,h3,h4⟩
 · have HX:=hid hE
   have hnil0:=fun (wx:World)=>Lib.run_eql_slice_nil (P:=Tryz.prog) wx 63 50 none 0 0 0 0 Tryz.underlying63
   clear hE hE'
   go_in
   go_wp2
   go_ret
   exact ⟨_,rfl,HX.out,fun b hb=>(by cases hb),Fr.refl _ _⟩
 · have hnil:=fun (wx:World)=>Lib.run_eql_slice_nil (P:=Tryz.prog) wx 63 50 (some ⟨q,off,none⟩) n cap 0 0 Tryz.underlying63
   have hown:=World.ownsRow_lit (w:=w) (base:=w.heap.size) (e:=50) (size:=18) #[] 0 (Nat.le_refl _) (by unfold maxLen;omega) rfl
   have hnews:∀j u,C[j]?=some u→(w.alloc (.cells #[] 50)).cell? ((⟨q,off,none⟩:Addr).add j)=some u:=by
    intro j u hu
    rw [Addr.add_lit,←cell_of hg (h4 j u hu)]
    exact World.cell?_of_block (w:=w) (Below.heap_alloc _ _ _ (Q9 hg))
   have Hn':=hid hnews;clear hnews
   have HL:=hid hlen;clear hlen
   have HO:=hid hone;clear hone
   have HCC:=hid hC
   have HEL:=hid hL
   clear hE hE' hL hC h4 hg h3 h1 h2
   go_in
   go_wp2_with (first|(at_builtin;refine wpList_append_own _ rfl _ _ 63 rfl w.heap.size 50 i0 _ 18 136 Tryz.underlying63 hi hz0 hz1 hz2 rfl (by decide) _ _ _ rfl hown ⟨q,off,none⟩ n cap C rfl ?c0 Hn'.out HO.out ?c3 ?c4 ?c5 ?c6))
   case c0=>exact HL.out
   case c3=>unfold maxLen;omega
   case c4=>omega
   case c6=>
    intro v' w1 hown1 hgrow hnl
    have hfr:Fr [] w w1:=((Fr.refl [] w).alloc (.cells #[] 50)).grown hgrow (fun k hk=>by simp [Value.ownBlock] at hk;right;omega)
    have hlen:=HL.out
    have hC:=HCC.out
    have hL:=HEL.out
    obtain ⟨r1,r2⟩:=Dr hown1 hlen
    have HR:=hid r1;have HR2:=hid r2;have HFR:=hid hfr
    clear hnl hgrow hown1 r1 r2 hlen hC hL hfr
    obtain ⟨z,hz⟩:∃z,v'=z:=⟨_,rfl⟩
    go_wp2
    go_ret
    refine ⟨_,rfl, ?_,HR2.out,HFR.out⟩
    unfold Xn
    rw [HEL.out,HCC.out]
    have:=HR.out
    simpa using this
theorem Q18 (w:World) (pM pW pm pc pw n:Nat) (ve:Value) (c:Q0) (ent mat:Int) (hMB:QG w pM pW pm pc pw n ve c ent mat) (evs:List EvV) (hE:Xn w ve evs) (hn:evs.length≤100000):
 Calls Tryz.prog 19 #[.pointer (some ⟨pM,0,none⟩)] w (Q7L w evs):=by
 have HC:=hid (Q1l w ve evs hE hn)
 have q:=cl 8 hMB
 clear hMB hE
 go_in
 go_wp2_with fail
 refine HC.out.mono ?_
 rintro e w1 ⟨v',rfl,a1,a2,a3⟩
 have H1:=hid a1;have H2:=hid a2;have H3:=hid a3
 clear a1 a2 a3
 go_wp2
 go_ret
 exact ⟨_,rfl,H1.out,H2.out,H3.out⟩
variable {w w':World} {b:Bs} {c:Q0} {who:Nat} {S:List Nat} {F:List Nat} {m:Qa} {N N' n:Int}
theorem MAt.fr (A:MAt w F b m N) (f:Fr S w w') (hF:∀x∈F,x∉S) (h0:0∉S) (h2:2∉S):MAt w' F b m N:=by
 obtain ⟨ve,vr,v,L,A⟩:=A
 have hs:=f.size
 have B:∀x∈b.l,x∉S:=fun x hx=>hF x (A.bl x hx).2.2
 refine ⟨ve,vr,v,L,A.mb.fr f (B _ (by simp [Bs.l])),A.wr.fr f (B _ (by simp [Bs.l])),A.me.fr f (B _ (by simp [Bs.l])) (B _ (by simp [Bs.l])),A.ck.fr f (B _ (by simp [Bs.l])),A.wl.ov f (B _ (by simp [Bs.l])) (B _ (by simp [Bs.l])) fun x hx=>hF x (A.e2 x hx).1.2.2,J3.fr A.ev f fun x hx=>hF x (A.e1 x hx).1.2.2,
  A.fl.fr f h0,A.db.fr f h2,A.nd,fun x hx=> ?_,fun x hx=> ?_,fun x hx=> ?_,fun k hk=>(A.th k hk).fr f fun x hx=>hF x (A.l1 k hk x hx).1.2.2,A.ln,fun k hk x hx=> ?_,A.l2⟩
 · have:=A.bl x hx;exact ⟨this.1,Lb,this.2.2⟩
 · have:=A.e1 x hx;exact ⟨⟨this.1.1,Lb,this.1.2.2⟩,this.2⟩
 · have:=A.e2 x hx;exact ⟨⟨this.1.1,Lb,this.1.2.2⟩,this.2⟩
 · have:=A.l1 k hk x hx;exact ⟨⟨this.1.1,Lb,this.1.2.2⟩,this.2⟩
theorem MAt.do_ (A:MAt w F b m N) (I:MInv n m) (hN:N≤100000000) (hn:n≤1000000000) (h0:0≤m.entries) (h1:m.entries≤1000000000) (x:QD):
 Calls Tryz.prog 11 #[pt b.pM,x.val] w (Q1H w F b (doV m x) (N+2)):=by
 obtain ⟨ve,vr,v,L,A⟩:=A
 exact r_do A I hN hn h0 h1 x
theorem MAt.state (A:MAt w F b m N) (hw:who<m.ws.length):Calls Tryz.prog 10 #[pt b.pM,.int .i64 who] w fun e w'=>e=.returned (.int .i64 (m.wk who).st)∧Fr [] w w':=by
 obtain ⟨ve,vr,v,L,A⟩:=A
 exact Q2K w _ _ _ _ _ _ who _ _ _ _ _ _ _ A.mb (A.row who) hw A.ne.1
theorem MAt.words (A:MAt w F b m N) (I:MInv n m):Calls Tryz.prog 14 #[pt b.pM] w fun e w'=>∃g cp,e=.returned (.slice (some ⟨g,0,none⟩) m.M.length cp)∧w'.ownsRow w.heap.size 3 1 (.slice (some ⟨g,0,none⟩) m.M.length cp) m.M.length (m.M.map (Value.int .i64))∧Fr [] w w':=by
 obtain ⟨ve,vr,v,L,A⟩:=A
 have len:=I.mem.len;have wo:=I.mem.cf.1;have sl:=I.mem.cf.2.1
 exact Q2J w _ _ _ _ _ _ _ _ _ _ _ _ _ A.mb A.me (by unfold Q0.cells at len;omega)
theorem MAt.events (A:MAt w F b m N) (I:MInv n m):Calls Tryz.prog 19 #[pt b.pM] w (Q7L w m.evs):=by
 obtain ⟨ve,vr,v,L,A⟩:=A
 have h1:=I.ev;have h2:=Z8 m.ws
 exact Q18 w _ _ _ _ _ _ _ _ _ _ A.mb _ A.ev Lb
def Q3G (w:World) (c:Q0) (e:Ending) (w':World):Prop:=∃b F,e=.returned (.tuple #[pt b.pM,.int .i64 0])∧MAt w' F b (J5 c) 0∧(∀x∈F,w.heap.size≤x)∧Fr [] w w'
theorem r_new (w:World) (c:Q0) (hc:c.fits) (h3:3≤w.heap.size) (hfl:Qe w 0 Qc) (hdb:Yj w):Calls Tryz.prog 17 #[c.val] w (Q3G w c):=by
 refine (Q6G w c hc).mono ?_
 rintro e w' ⟨pM,pW,pm,pc,pw,pr,qm,rfl,⟨z1,z2,z3,z4,z5,z6,z7⟩,nd,mb,wr,me,ck,wl,f⟩
 have hsz:(J5 c).ws.length=c.wo.toNat:=by simp [J5]
 have W:∀k,(J5 c).wk k=Ju:=WE c
 have l1:=Q9 mb;have l2:=wr.lt;have l3:=me.plt;have l4:=me.qlt;have l5:=Q9 ck;have l6:=Q9 wl.b;have l7:=Q9 wl.r.1
 refine ⟨⟨pM,pW,pm,qm,pc,pw,pr⟩,[pM,pW,pm,qm,pc,pw,pr],rfl,⟨.slice none 0 0,.slice none 0 0,fun _=>Q8z,fun _=>[], ?_⟩,fun x hx=> ?_,f⟩
 · refine ⟨by rw [hsz];exact mb,by rw [hsz];simp only [W];exact wr,me,ck,wl,J3.nil _ _ _,hfl.fr f Lc,hdb.fr f Lc,nd,fun x hx=> ?_,fun x hx=>(by cases hx),fun x hx=>(by cases hx),fun k hk=>by rw [W];exact Ed (.inl rfl),fun k hk=>Lc,fun k hk x hx=>(by cases hx),fun j k _ _ _ x hx=>(by cases hx)⟩
   simp only [Bs.l,List.mem_cons,List.not_mem_nil,or_false] at hx
   rcases hx with rfl|rfl|rfl|rfl|rfl|rfl|rfl<;>refine ⟨Lb,by assumption,Lc⟩
 · simp only [List.mem_cons,List.not_mem_nil,or_false] at hx
   rcases hx with rfl|rfl|rfl|rfl|rfl|rfl|rfl<;>assumption
end
section
open Go.RowKit Go.Shelf Go.Lib
attribute [local go_sem] Oper.semAt_some
def rowI (b n:Nat):Value:=.slice (some ⟨b,0,none⟩) n n
structure HB (w:World) (p g1 g2 g3 n:Nat) (W G:List Int) (C:List Value):Prop where
 b:w.heap[p]?=some (.cells #[rowI g1 n,rowI g2 n,rowI g3 n] 73 (0,0))
 b1:w.heap[g1]?=some (.cells (W.map (Value.int .i64)).toArray 3 (0,0))
 b2:w.heap[g2]?=some (.cells (G.map (Value.int .i64)).toArray 3 (0,0))
 b3:w.heap[g3]?=some (.cells C.toArray 59 (0,0))
 l1:W.length=n
 l2:G.length=n
 l3:C.length=n
 ne:(p≠g1∧p≠g2∧p≠g3)∧(g1≠g2∧g1≠g3)∧g2≠g3
def objI (n:Nat):Obj:=.cells ((List.replicate n (0:Int)).map (Value.int .i64)).toArray 3 (0,0)
theorem made1 (z:Value) (hz:z.cells=#[z]) (n:Nat):madeCells z.cells (n*1)=(List.replicate n z).toArray:=by
 refine Array.ext (by simp [madeCells]) fun i h1 h2=> ?_
 simp [madeCells,hz,Nat.mod_one]
theorem mkI (n:Nat) (hn:n≤1000) (wx:World):(Instr.makeSlice 44 (.int .i64 n) (.int .i64 n)).run Tryz.prog wx=.ok (.slice (some ⟨wx.heap.size,0,none⟩) n n) (wx.alloc (objI n)):=by
 obtain ⟨i0,hi0,hz0,hz1,hz2⟩:=info_parts VO
 have h:=run_make (P:=Tryz.prog) wx 44 3 i0 _ Tryz.underlying44 hi0 hz0 .i64 .i64 (n:Int) (n:Int) Lb Lb (by rw [hz2];omega) Lb
 rw [hz1,Int.toNat_natCast,made1 _ (by simp [Value.cells])] at h
 unfold objI
 rw [List.map_replicate]
 exact h
theorem ER:∀(l:List EvV) (k j:Nat) (x:EvV),l[k]?=some x→j<18→(l.flatMap EvV.cells)[k*18+j]?=x.cells[j]?
 |[],k,j,x,h,_=>by simp at h
 |a::t,0,j,x,h,hj=>by
  simp only [List.getElem?_cons_zero,Option.some.injEq] at h
  subst h
  rw [List.flatMap_cons,Nat.zero_mul,Nat.zero_add,List.getElem?_append_left (by rw [XQ];exact hj)]
 |a::t,k+1,j,x,h,hj=>by
  rw [List.getElem?_cons_succ] at h
  rw [List.flatMap_cons,List.getElem?_append_right (by rw [XQ];omega),XQ,show (k+1)*18+j - 18=k*18+j by omega]
  exact ER t k j x h hj
theorem run_ev {w:World} {g off cap:Nat} {evs:List EvV} (h:Xn w (.slice (some ⟨g,off,none⟩) evs.length cap) evs) {k:Nat} {x:EvV} (hx:evs[k]?=some x):(loadVar 50 ⟨g,off+k*18,none⟩).run Tryz.prog w=.ok x.val w:=by
 obtain ⟨ie,hie,hsz⟩:∃ie,Tryz.prog.info? 50=some ie∧x.cells.length=ie.size:=⟨_,rfl,rfl⟩
 refine Lib.rl_loadVar_cells _ ie hie (fun w=> ?_) g (off+k*18) x.cells hsz w ?_
 · simp [go_sem]
 · intro j v hj
   have hjl:j<18:=by have:=(List.getElem?_eq_some_iff.1 hj).1;rwa [XQ] at this
   have h2:=J3.cell h (j:=k*18+j) (u:=v) (by rw [ER evs k j x hx hjl];exact hj)
   rw [←Nat.add_assoc] at h2
   exact h2
end
end Go.Proofs.YtgjklfmnmljilaaGreatDoor
