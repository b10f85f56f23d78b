/- A part of the proof: TrI to TrI. -/
import Derived.Test.YtgjklfmnmljilaaGreatDoorZT41
namespace Go.Proofs.YtgjklfmnmljilaaGreatDoor
set_option linter.unusedVariables false
set_option linter.unusedSimpArgs false
set_option linter.unusedSectionVars false
set_option linter.unnecessarySimpa false
set_option maxRecDepth 100000
set_option maxHeartbeats 8000000
section
open Go.RowKit Go.Shelf Go.Lib
theorem Q2O (w:World) (pM pW pm pc pw n:Nat) (ve:Value) (c:Q0) (ent mat:Int) (hMB:QB w pM pW pm pc pw n ve c ent mat) (x:Int) (hh:(decide (0≤x)&&decide (x<n))=false):
 Calls Tryz.prog 26 #[.pointer (some ⟨pM,0,none⟩),.int .i64 x] w fun e w'=>e=.returned (.bool false)∧Fr [] w w':=by
 have HNE:=hid (Q6 hMB)
 have HHA:=hid (Zm w pM pW pm pc pw n ve c ent mat hMB x)
 rw [hh] at HHA
 clear hMB hh
 go_in
 go_wp2_with fail
 refine (HHA.out).mono ?_
 rintro e w1 ⟨rfl,f1⟩
 go_wp2
 go_ret
 exact ⟨rfl,f1⟩
variable {w w':World} {b:Bs} {c:Q0} {who:Nat} {k:Qa} {v:Ja} {L S:List Nat} {F:List Nat} {m:Qb} {N N' n:Int} {ve vr:Value} {vv:Nat→Ja} {LL:Nat→List Nat}
theorem Qo.keep (A:Qo w F b m N ve vr vv LL) (f:Fr S w w') (hS:∀x∈S,Base b ve vr x) {m':Qb} {vr':Value} (hc:m'.c=m.c) (hws:m'.ws=m.ws) (mb:QB w' b.pM b.pW b.pm b.pc b.pw m.ws.length ve m.c m'.entries m'.at_)
 (wr:QA w' b.pW m.ws.length (fun k=>(m.wk k).cells (vv k))) (me:Ql w' b.pm b.qm m'.M N') (ck:Y3 w' b.pc m'.now) (wl:Ze w' b.pw b.pr vr' m'.ahead m'.good m'.bad) (ev:Xn w' ve m'.evs)
 (hvr:∀x,vr'.ownBlock=some x→vr.ownBlock=some x∨(w.heap.size≤x∧x<w'.heap.size)):Qo w' (F++vr'.ownBlock.toList) b m' N' ve vr' vv LL:=by
 have hs:=f.size
 have h2:∀x∈S,2<x:=fun x hx=>(A.base (hS x hx)).1
 have hM:=A.bl b.pM (by simp [Bs.l])
 have W:∀k,m'.wk k=m.wk k:=fun k=>by unfold Qb.wk;rw [hws]
 refine ⟨by rw [hws,hc];exact mb,by rw [hws];simp only [W];exact wr,me,ck,wl,ev,A.fl.fr f fun h=>by have:=h2 0 h;omega,A.db.fr f fun h=>by have:=h2 2 h;omega,A.nd, ?_, ?_, ?_, ?_, ?_, ?_, ?_⟩
 · intro x hx;have:=A.bl x hx;exact ⟨this.1,by omega,by simp [this.2.2]⟩
 · intro x hx;have:=A.e1 x hx;exact ⟨⟨this.1.1,by omega,by simp [this.1.2.2]⟩,this.2⟩
 · intro x hx
   rcases hvr x hx with h|h
   · have h3:=A.e2 x h
     exact ⟨⟨h3.1.1,by omega,by simp [h3.1.2.2]⟩,h3.2⟩
   · exact ⟨⟨by omega,h.2,by simp [hx]⟩,fun hb=>by have:=A.bl x hb;omega,fun he=>by have:=(A.e1 x he).1;omega⟩
 · intro j hj
   rw [hws] at hj
   rw [W,hc]
   exact (A.th j hj).fr f fun x hx hxs=>A.apart hj (hS x hxs) hx
 · intro j hj;rw [hws] at hj;exact A.ln j hj
 · intro j hj x hx
   rw [hws] at hj
   have h3:=A.l1 j hj x hx
   refine ⟨⟨h3.1.1,by omega,by simp [h3.1.2.2]⟩,h3.2.1,h3.2.2.1,fun h=> ?_⟩
   rcases hvr x h with a|a
   · exact h3.2.2.2 a
   · omega
 · intro j i hj hi;rw [hws] at hj hi;exact A.l2 j i hj hi
theorem Qo.goes (A:Qo w F b m N ve vr vv LL) (f:Fr S w w') (hS:∀x∈S,Base b ve vr x) {m':Qb} {vr':Value} (hc:m'.c=m.c) (hws:m'.ws=m.ws) (mb:QB w' b.pM b.pW b.pm b.pc b.pw m.ws.length ve m.c m'.entries m'.at_)
 (wr:QA w' b.pW m.ws.length (fun k=>(m.wk k).cells (vv k))) (me:Ql w' b.pm b.qm m'.M N') (ck:Y3 w' b.pc m'.now) (wl:Ze w' b.pw b.pr vr' m'.ahead m'.good m'.bad) (ev:Xn w' ve m'.evs)
 (hvr:∀x,vr'.ownBlock=some x→vr.ownBlock=some x∨(w.heap.size≤x∧x<w'.heap.size)):Goes w F b m' N' w':=
 ⟨_,⟨_,_,_,_,A.keep f hS hc hws mb wr me ck wl ev hvr⟩,f.drop fun x hx=>.inl (A.base (hS x hx)).2.2,fun x hx=>by
   simp only [List.mem_append,Option.mem_toList,Option.mem_def] at hx
   rcases hx with a|a
   · exact .inl a
   · rcases hvr x a with d|d
     · exact .inl (A.e2 x d).1.2.2
     · exact .inr d.1⟩
theorem Qo.same (A:Qo w F b m N ve vr vv LL) (f:Fr [] w w') (hN:N≤N'):Goes w F b m N' w':=
 A.goes f (by simp) rfl rfl (A.mb.fr f (by simp)) (A.wr.fr f (by simp)) ((A.me.fr f (by simp) (by simp)).mono hN) (A.ck.fr f (by simp)) (A.wl.ov f (by simp) (by simp) (by simp)) (QX.fr A.ev f (by simp)) fun x hx=>.inl hx
theorem Qo.less (A:Qo w F b m N ve vr vv LL) {F':List Nat} (h:∀x∈F,x∈F'):Qo w F' b m N ve vr vv LL:=
 ⟨A.mb,A.wr,A.me,A.ck,A.wl,A.ev,A.fl,A.db,A.nd,fun x hx=>by have:=A.bl x hx;exact ⟨this.1,this.2.1,h x this.2.2⟩,fun x hx=>by have:=A.e1 x hx;exact ⟨⟨this.1.1,this.1.2.1,h x this.1.2.2⟩,this.2⟩,
   fun x hx=>by have:=A.e2 x hx;exact ⟨⟨this.1.1,this.1.2.1,h x this.1.2.2⟩,this.2⟩,A.th,A.ln,fun k hk x hx=>by have:=A.l1 k hk x hx;exact ⟨⟨this.1.1,this.1.2.1,h x this.1.2.2⟩,this.2⟩,A.l2⟩
def Qb.entered (m:Qb):Qb:={m with at_:=m.entries,entries:=m.entries+1}
theorem Qo.entered (A:Qo w F b m N ve vr vv LL) (mb:QB w' b.pM b.pW b.pm b.pc b.pw m.ws.length ve m.c (m.entries+1) m.entries) (f:Fr [b.pM] w w'):Qo w' F b m.entered N ve vr vv LL:=by
 have d:=A.nd
 have X:∀x,Base b ve vr x→x≠b.pM→x∉[b.pM]:=fun x _ hx h=>hx (by simpa using h)
 obtain ⟨n1,⟨n2,n3,n4,n5⟩,n6,⟨n7,n8,n9,n10⟩,⟨n11,n12,n13,n14,n15,n16⟩,⟨n17,n18,n19,n20⟩⟩:=A.ne
 refine (A.keep f (fun x hx=>.inl (by simp at hx;simp [Bs.l,hx])) (m':=m.entered) (vr':=vr) rfl rfl mb (A.wr.fr f (by simp;exact Ne.symm n1)) (A.me.fr f (by simp;exact n2) (by simp;exact n4)) (A.ck.fr f (by simp;exact n11)) (A.wl.ov f (by simp;exact n7) (by simp;exact n9) (fun x hx h=> ?_)) (QX.fr A.ev f fun x hx h=> ?_) fun x hx=>.inl hx).less ?_
 · simp at h;exact (A.e2 x hx).2.1 (by simp [Bs.l,h])
 · simp at h;exact (A.e1 x hx).2 (by simp [Bs.l,h])
 · intro x hx
   simp only [List.mem_append,Option.mem_toList,Option.mem_def] at hx
   exact hx.elim id fun h=>(A.e2 x h).1.2.2
theorem MInv.entered (I:MInv n m):MInv n m.entered:=⟨I.mem,I.gd,I.bd,I.ah,I.nw,I.ev,I.wl,I.wk⟩
theorem Goes.grow {m':Qb} (h:Goes w F b m' N w') (hN:N≤N'):Goes w F b m' N' w':=by
 obtain ⟨F',⟨ve,vr,v,L,A⟩,g,h1⟩:=h
 exact ⟨F',⟨ve,vr,v,L,⟨A.mb,A.wr,A.me.mono hN,A.ck,A.wl,A.ev,A.fl,A.db,A.nd,A.bl,A.e1,A.e2,A.th,A.ln,A.l1,A.l2⟩⟩,g,h1⟩
def Q1V (w:World) (F:List Nat) (b:Bs) (r:Qb×Bool) (N:Int) (e:Ending) (w':World):Prop:=e=.returned (.bool r.2)∧Goes w F b r.1 N w'
theorem r_pick (A:Qo w F b m N ve vr vv LL) (I:MInv n m) (hN:N≤1000000000) (hn:n≤1000000000) (x:Int):
 Calls Tryz.prog 26 #[.pointer (some ⟨b.pM,0,none⟩),.int .i64 x] w (Q1V w F b (KW m x) (N+2)):=by
 unfold KW
 rcases Bool.eq_false_or_eq_true (m.has x) with hh|hh
 · rw [if_pos hh]
   unfold Qb.has at hh
   rw [Bool.and_eq_true,decide_eq_true_eq,decide_eq_true_eq] at hh
   obtain ⟨who,rfl⟩:∃who:Nat,x=(who:Int):=⟨x.toNat,by omega⟩
   rw [Int.toNat_natCast]
   have hw:who<m.ws.length:=by omega
   have hwo:(who:Int)<m.c.wo:=by have:=I.wl;omega
   have Lv:=I.wk who hwo
   have hmw:(m.wk who).st=6→∀w',Fr [] w w'→Calls Tryz.prog 39 #[.pointer (some ⟨b.pM,0,none⟩),.int .i64 who] w' fun e w2=>e=.returned (.bool (Xx m who))∧Fr [] w' w2:=by
    intro h6 w1 f1
    have hg:∀w',Fr [] w1 w'→Calls Tryz.prog 53 #[.pointer (some ⟨b.pM,0,none⟩),.int .i64 who] w' fun e w2=>e=.returned (.bool (ZM m who))∧Fr [] w' w2:=fun w' f'=>Uy A I hwo w' (f1.trans f')
    have hp:∀w',Fr [] w1 w'→Calls Tryz.prog 54 #[.pointer (some ⟨b.pc,0,none⟩),.int .i64 (m.wk who).ask.dl] w' fun e w2=>e=.returned (.bool (decide ((m.wk who).ask.dl≤m.now)))∧Fr [] w' w2:=fun w' f'=>Q5H w' b.pc m.now _ (A.ck.fr (f1.trans f') (by simp))
    have mb1:=A.mb.fr f1 (by simp);have wr1:=(A.row who).fr f1 (by simp)
    unfold Xx
    rcases Bool.eq_false_or_eq_true (ZM m who) with g|g
    · rw [g,Bool.true_or]
      exact EK w1 _ _ _ _ _ _ who _ _ _ _ _ _ _ mb1 wr1 hw A.ne.1 _ _ hg hp g
    · rw [g,Bool.false_or]
      rcases Bool.eq_false_or_eq_true (m.wk who).timed with t|t
      · rw [t,Bool.true_and]
        exact Dc w1 _ _ _ _ _ _ who _ _ _ _ _ _ _ mb1 wr1 hw A.ne.1 _ _ hg hp g t
      · rw [t,Bool.false_and]
        exact Q19 w1 _ _ _ _ _ _ who _ _ _ _ _ _ _ mb1 wr1 hw A.ne.1 _ _ hg hp g t
   by_cases h0:(m.wk who).st=0
   · rw [if_pos (.inl h0)]
     exact (Q18 w _ _ _ _ _ _ who _ _ _ _ _ _ _ A.mb (A.row who) hw A.ne.1 h0).mono fun e w2 ⟨e1,f⟩=>⟨e1,A.same f (by omega)⟩
   · have hk9:(m.wk who).st.toNat<9:=by have:=Lv.s0;have:=Lv.s1;omega
     have hst:(((m.wk who).st.toNat:Nat):Int)=(m.wk who).st:=by have:=Lv.s0;omega
     have hix:=Q98 (m.wk who).st.toNat hk9
     rw [hst] at hix
     have hHC:∀w',Fr [] w w'→Calls Tryz.prog (Ut.getD (m.wk who).st.toNat 0) #[.pointer (some ⟨b.pM,0,none⟩),.int .i64 who] w' fun e w2=>e=.returned (.tuple #[])∧Goes w F b (QJ m who) (N+2) w2:=fun w' f'=>by
      have g:=A.same f' (Int.le_refl N)
      obtain ⟨F',⟨ve',vr',v',L',A'⟩,g2,g3⟩:=g
      refine (r_step A' I hw hwo hN hn h0).mono ?_
      rintro e w2 ⟨rfl,h⟩
      exact ⟨rfl,(h.grow (by omega)).pre (f'.drop (by simp)) g3⟩
     by_cases h6:(m.wk who).st=6
     · rcases Bool.eq_false_or_eq_true (Xx m who) with g|g
       · rw [if_neg (fun e=>e.elim h0 fun e=>by rw [g] at e;exact absurd e.2 (by simp))]
         refine Q17 w _ _ _ _ _ _ who _ _ _ _ _ _ _ A.mb (A.row who) hw A.ne.1 h6 ?_ _ _ GY hix (fun args wx=>Us _ hk9 args wx) _ hHC
         have:=hmw h6;rw [g] at this;exact this
       · rw [if_pos (.inr ⟨h6,g⟩)]
         refine (EJ w _ _ _ _ _ _ who _ _ _ _ _ _ _ A.mb (A.row who) hw A.ne.1 h6 ?_).mono fun e w2 ⟨e1,f⟩=>⟨e1,A.same f (by omega)⟩
         have:=hmw h6;rw [g] at this;exact this
     · rw [if_neg (fun e=>e.elim h0 fun e=>h6 e.1)]
       exact Q2N w _ _ _ _ _ _ who _ _ _ _ _ _ _ A.mb (A.row who) hw A.ne.1 ⟨h0,h6⟩ _ _ GY hix (fun args wx=>Us _ hk9 args wx) _ hHC
 · rw [if_neg (by rw [hh];simp)]
   exact (Q2O w _ _ _ _ _ _ _ _ _ _ A.mb x hh).mono fun e w2 ⟨e1,f⟩=>⟨e1,A.same f (by omega)⟩
theorem Q6M (A:Qo w F b m N ve vr vv LL) (I:MInv n m) (hN:N≤1000000000) (x:QF):
 Calls Tryz.prog 25 #[.pointer (some ⟨b.pM,0,none⟩),x.val] w (Q1V w F b (YA m x) (N+2)):=by
 unfold YA
 rcases Bool.eq_false_or_eq_true (m.has x.who) with hh|hh
 · have hh':=hh
   unfold Qb.has at hh
   rw [Bool.and_eq_true,decide_eq_true_eq,decide_eq_true_eq] at hh
   obtain ⟨who,hx⟩:∃who:Nat,x.who=(who:Int):=⟨x.who.toNat,by omega⟩
   have hw:who<m.ws.length:=by omega
   have hwt:x.who.toNat=who:=by omega
   have hel:m.evs.length≤100000:=by
    have h1:=I.ev;have h2:=Yg m.ws;omega
   rw [hwt,hh']
   by_cases h0:(m.wk who).st=0
   · by_cases h1:1999≤m.evs.length
     · rw [if_neg (fun e=>by omega)]
       exact (Vb w _ _ _ _ _ _ who _ _ _ _ _ _ _ A.mb (A.row who) hw A.ne.1 _ A.ev hel A.hve x hx (.inr ⟨h0,.inl h1⟩)).mono fun e w2 ⟨e1,f⟩=>⟨e1,A.same f (by omega)⟩
     · by_cases h2:x.ask.op<0
       · rw [if_neg (fun e=>by omega)]
         exact (Vb w _ _ _ _ _ _ who _ _ _ _ _ _ _ A.mb (A.row who) hw A.ne.1 _ A.ev hel A.hve x hx (.inr ⟨h0,.inr ⟨h1,.inl h2⟩⟩)).mono fun e w2 ⟨e1,f⟩=>⟨e1,A.same f (by omega)⟩
       · by_cases h3:8≤x.ask.op
         · rw [if_neg (fun e=>by omega)]
           exact (Vb w _ _ _ _ _ _ who _ _ _ _ _ _ _ A.mb (A.row who) hw A.ne.1 _ A.ev hel A.hve x hx (.inr ⟨h0,.inr ⟨h1,.inr ⟨h2,h3⟩⟩⟩)).mono fun e w2 ⟨e1,f⟩=>⟨e1,A.same f (by omega)⟩
         · rw [if_pos ⟨rfl,h0,by omega,by omega,by omega⟩]
           refine (Q1c w _ _ _ _ _ _ who _ _ _ _ _ _ _ A.mb (A.row who) hw A.ne.1 _ A.ev hel A.hve x hx h0 h1 (by omega) h3).mono ?_
           rintro e w2 ⟨rfl,ve',P,ev,hve,f⟩
           obtain ⟨n1,⟨n2,n3,n4,n5⟩,n6,⟨n7,n8,n9,n10⟩,⟨n11,n12,n13,n14,n15,n16⟩,⟨n17,n18,n19,n20⟩⟩:=A.ne
           have X:∀y,Base b ve vr y→y≠b.pM→y≠b.pW→ve.ownBlock≠some y→y∉b.pM::b.pW::ve.ownBlock.toList:=fun y _ h1 h2 h3 h=>by
            simp only [List.mem_cons,Option.mem_toList,Option.mem_def] at h
            exact h.elim h1 fun h=>h.elim h2 h3
           have Y:∀y∈b.l,ve.ownBlock≠some y:=fun y hy e=>(A.e1 y e).2 hy
           refine ⟨rfl,A.next hw f (fun y hy=> ?_) rfl rfl P.mb P.wr ((A.me.fr f (X _ (.inl (by simp [Bs.l])) n2 n3 (Y _ (by simp [Bs.l]))) (X _ (.inl (by simp [Bs.l])) n4 n5 (Y _ (by simp [Bs.l])))).mono (by omega)) (A.ck.fr f (X _ (.inl (by simp [Bs.l])) n11 n12 (Y _ (by simp [Bs.l]))))
            (A.wl.ov f (X _ (.inl (by simp [Bs.l])) n7 n8 (Y _ (by simp [Bs.l]))) (X _ (.inl (by simp [Bs.l])) n9 n10 (Y _ (by simp [Bs.l]))) fun y hy=> ?_) ev hve (fun y hy=>hy) (Er (.inr (.inl rfl))) (by simp) (by simp)⟩
           · simp only [List.mem_cons,Option.mem_toList,Option.mem_def] at hy
             rcases hy with rfl|rfl|hy
             · exact .inl (.inl (by simp [Bs.l]))
             · exact .inl (.inl (by simp [Bs.l]))
             · exact .inl (.inr (.inl hy))
           · have h4:=A.e2 y hy
             exact X y (.inr (.inr hy)) (fun e=>h4.2.1 (by simp [Bs.l,e])) (fun e=>h4.2.1 (by simp [Bs.l,e])) h4.2.2
   · rw [if_neg (fun e=>h0 e.2.1)]
     exact (Vb w _ _ _ _ _ _ who _ _ _ _ _ _ _ A.mb (A.row who) hw A.ne.1 _ A.ev hel A.hve x hx (.inl h0)).mono fun e w2 ⟨e1,f⟩=>⟨e1,A.same f (by omega)⟩
 · rw [if_neg (by rw [hh];simp)]
   exact (EM w _ _ _ _ _ _ _ _ _ _ A.mb x hh).mono fun e w2 ⟨e1,f⟩=>⟨e1,A.same f (by omega)⟩
theorem Q6P (A:Qo w F b m N ve vr vv LL) (I:MInv n m) (hN:N≤100000000) (i:Int):
 Calls Tryz.prog 29 #[.pointer (some ⟨b.pM,0,none⟩),.int .i64 i] w (Q1V w F b (YD m i) (N+2)):=by
 obtain ⟨n1,⟨n2,n3,n4,n5⟩,n6,⟨n7,n8,n9,n10⟩,⟨n11,n12,n13,n14,n15,n16⟩,⟨n17,n18,n19,n20⟩⟩:=A.ne
 have z1:=A.bl b.pM (by simp [Bs.l]);have z2:=A.bl b.pm (by simp [Bs.l]);have z3:=A.bl b.qm (by simp [Bs.l])
 have hne:b.pm≠b.pM∧b.qm≠b.pM∧0<b.pM∧0<b.pm∧0<b.qm:=⟨n2,n4,by omega,by omega,by omega⟩
 have X:∀y∈b.l,y≠b.pm→y≠b.qm→y∉[b.pm,b.qm]:=fun y _ h1 h2 h=>by simp at h;exact h.elim h1 h2
 have G:∀{M':List Int} {w2:World},Fr [b.pm,b.qm] w w2→Ql w2 b.pm b.qm M' (N+2)→Goes w F b {m with M:=M'} (N+2) w2:=fun {M' w2} f me=>by
  refine A.goes f (fun y hy=>.inl (by simp at hy;rcases hy with rfl|rfl<;>simp [Bs.l])) rfl rfl (A.mb.fr f (X _ (by simp [Bs.l]) (Ne.symm n2) (Ne.symm n4))) (A.wr.fr f (X _ (by simp [Bs.l]) (Ne.symm n3) (Ne.symm n5))) me (A.ck.fr f (X _ (by simp [Bs.l]) n13 n14)) (A.wl.ov f (X _ (by simp [Bs.l]) n17 n18) (X _ (by simp [Bs.l]) n19 n20) fun y hy h=> ?_) (QX.fr A.ev f fun y hy h=> ?_) fun y hy=>.inl hy
  · simp at h;exact (A.e2 y hy).2.1 (by rcases h with rfl|rfl<;>simp [Bs.l])
  · simp at h;exact (A.e1 y hy).2 (by rcases h with rfl|rfl<;>simp [Bs.l])
 unfold YD
 by_cases hn:Q5 m.c i<0
 · rw [if_pos hn]
   exact (Q2X w _ _ _ _ _ _ _ _ _ _ _ _ _ A.mb A.me hN I.mem.cf A.fl hne i hn).mono fun e w2 ⟨e1,me,f⟩=>⟨e1,G f me⟩
 · rw [if_neg hn]
   have hi:0≤i∧i<m.c.sl:=by
    refine Decidable.byContradiction fun h=>hn ?_
    unfold Q5;rw [if_neg h];decide
   obtain ⟨s,hs,hl⟩:=I.mem.sl i hi.1 hi.2
   have hlen:Q5 m.c i<(m.M.length:Int):=by
    have:=I.mem.len;unfold Q5;rw [if_pos hi];unfold Q0.cells at this;unfold Q0.slot;omega
   rw [hl,XJ hs]
   cases hx:Qj s 13 0 0 with
   |none=>exact (Q1h w _ _ _ _ _ _ _ _ _ _ _ _ _ A.mb A.me hN I.mem.cf A.fl hne i s (by omega) hs hl hx).mono fun e w2 ⟨e1,me,f⟩=>⟨e1,G f me⟩
   |some u=>exact (Q1g w _ _ _ _ _ _ _ _ _ _ _ _ _ A.mb A.me hN I.mem.cf A.fl hne i s (by omega) hs hl u hlen hx).mono fun e w2 ⟨e1,me,f⟩=>⟨e1,G f me⟩
theorem r_do (A:Qo w F b m N ve vr vv LL) (I:MInv n m) (hN:N≤100000000) (hn:n≤1000000000) (h0:0≤m.entries) (h1:m.entries≤1000000000) (x:QF):
 Calls Tryz.prog 11 #[.pointer (some ⟨b.pM,0,none⟩),x.val] w (Q1V w F b (doV m x) (N+2)):=by
 have E:∀w1,QB w1 b.pM b.pW b.pm b.pc b.pw m.ws.length ve m.c (m.entries+1) m.entries→Fr [b.pM] w w1→Qo w1 F b m.entered N ve vr vv LL:=fun w1 mb f=>A.entered mb f
 have P:∀{w1 w2:World} {m':Qb},Fr [b.pM] w w1→Goes w1 F b m' (N+2) w2→Goes w F b m' (N+2) w2:=fun f h=>
  h.pre (f.drop fun x hx=>.inl (by simp at hx;rw [hx];exact (A.bl b.pM (by simp [Bs.l])).2.2)) fun x hx=>.inl hx
 have I':=I.entered
 obtain ⟨n1,⟨n2,n3,n4,n5⟩,n6,⟨n7,n8,n9,n10⟩,⟨n11,n12,n13,n14,n15,n16⟩,⟨n17,n18,n19,n20⟩⟩:=A.ne
 have eD:doV m x=(if x.kind=0 then YA m.entered x else if x.kind=1 then KW m.entered x.who else if x.kind=2 then ({m.entered with now:=m.now+min (max x.n 0) (1099511627776 - m.now)},true)
  else if x.kind=3 then (if m.ahead.length<1000 then ({m.entered with ahead:=m.ahead++[x.good]},true) else (m.entered,false)) else if x.kind=4 then YD m.entered x.ask.slot else (m.entered,false)):=rfl
 rw [eD]
 by_cases k0:x.kind=0
 · rw [if_pos k0]
   exact Q30 w _ _ _ _ _ _ _ _ _ _ A.mb h0 h1 x k0 _ _ fun w1 mb f=>(Q6M (E w1 mb f) I' (by omega) x).mono fun e w2 ⟨e1,g⟩=>⟨e1,P f g⟩
 rw [if_neg k0]
 by_cases k1:x.kind=1
 · rw [if_pos k1]
   exact Q7f w _ _ _ _ _ _ _ _ _ _ A.mb h0 h1 x k1 _ _ fun w1 mb f=>(r_pick (E w1 mb f) I' (by omega) hn x.who).mono fun e w2 ⟨e1,g⟩=>⟨e1,P f g⟩
 rw [if_neg k1]
 by_cases k2:x.kind=2
 · rw [if_pos k2]
   refine Q7e w _ _ _ _ _ _ _ _ _ _ A.mb h0 h1 x k2 (GH m.now x.n) _ [b.pc] (fun w1 mb f=> ?_) (by simp;exact Ne.symm n11) (by simp;exact (A.bl b.pc (by simp [Bs.l])).2.1)
   have A1:=E w1 mb f
   refine (Q5D w1 b.pc m.now x.n A1.ck I.nw.1 I.nw.2).mono ?_
   rintro e w2 ⟨e1,ck,g⟩
   refine ⟨e1,P f (A1.goes g (fun y hy=>.inl (by simp at hy;simp [Bs.l,hy])) rfl rfl (A1.mb.fr g (by simp;exact Ne.symm n11)) (A1.wr.fr g (by simp;exact Ne.symm n12)) ((A1.me.fr g (by simp;exact Ne.symm n13) (by simp;exact Ne.symm n14)).mono (by omega)) ck (A1.wl.ov g (by simp;exact Ne.symm n15) (by simp;exact Ne.symm n16) fun y hy h=> ?_) (QX.fr A1.ev g fun y hy h=> ?_) fun y hy=>.inl hy),g⟩
   · simp at h;exact (A1.e2 y hy).2.1 (by simp [Bs.l,h])
   · simp at h;exact (A1.e1 y hy).2 (by simp [Bs.l,h])
 rw [if_neg k2]
 by_cases k3:x.kind=3
 · rw [if_pos k3]
   have hb:(if m.ahead.length<1000 then ({m.entered with ahead:=m.ahead++[x.good]},true) else (m.entered,false))=({m.entered with ahead:=if m.ahead.length<1000 then m.ahead++[x.good] else m.ahead},decide (m.ahead.length<1000)):=by
    by_cases h:m.ahead.length<1000
    · rw [if_pos h,if_pos h,decide_eq_true h]
    · rw [if_neg h,if_neg h,decide_eq_false h];rfl
   rw [hb]
   have z:=A.bl b.pr (by simp [Bs.l])
   refine Q7h w _ _ _ _ _ _ _ _ _ _ A.mb h0 h1 x k3 _ _ (b.pr::vr.ownBlock.toList) (fun w1 mb f=> ?_) (fun h=> ?_) (fun y hy=> ?_)
   · have A1:=E w1 mb f
     refine (Q4g w1 b.pw b.pr vr m.ahead m.good m.bad x.good A1.wl I.ah).mono ?_
     rintro e w2 ⟨v',e1,wl,g,hv⟩
     have Y:∀y∈b.l,y≠b.pr→y∉b.pr::vr.ownBlock.toList:=fun y hy h1 h=>by
      simp only [List.mem_cons,Option.mem_toList,Option.mem_def] at h
      exact h.elim h1 fun h=>(A1.e2 y h).2.1 hy
     have hlt:∀y,v'.ownBlock=some y→y<w2.heap.size:=wl.r.2.lt
     refine ⟨e1,P f (A1.goes g (fun y hy=> ?_) rfl rfl (A1.mb.fr g (Y _ (by simp [Bs.l]) (Ne.symm n9))) (A1.wr.fr g (Y _ (by simp [Bs.l]) (Ne.symm n10))) ((A1.me.fr g (Y _ (by simp [Bs.l]) (Ne.symm n19)) (Y _ (by simp [Bs.l]) (Ne.symm n20))).mono (by omega)) (A1.ck.fr g (Y _ (by simp [Bs.l]) n16)) wl (QX.fr A1.ev g fun y hy h=> ?_) fun y hy=>(hv y hy).imp id fun h=>⟨h,hlt y hy⟩),g⟩
     · simp only [List.mem_cons,Option.mem_toList,Option.mem_def] at hy
       rcases hy with rfl|hy
       · exact .inl (by simp [Bs.l])
       · exact .inr (.inr hy)
     · simp only [List.mem_cons,Option.mem_toList,Option.mem_def] at h
       rcases h with rfl|h
       · exact (A1.e1 _ hy).2 (by simp [Bs.l])
       · exact (A1.e2 y h).2.2 hy
   · simp only [List.mem_cons,Option.mem_toList,Option.mem_def] at h
     rcases h with h|h
     · exact n9 h.symm
     · exact (A.e2 _ h).2.1 (by simp [Bs.l])
   · simp only [List.mem_cons,Option.mem_toList,Option.mem_def] at hy
     rcases hy with rfl|hy
     · exact z.2.1
     · exact (A.e2 y hy).1.2.1
 rw [if_neg k3]
 by_cases k4:x.kind=4
 · rw [if_pos k4]
   exact Q31 w _ _ _ _ _ _ _ _ _ _ A.mb h0 h1 x k4 _ _ fun w1 mb f=>(Q6P (E w1 mb f) I' (by omega) x.ask.slot).mono fun e w2 ⟨e1,g⟩=>⟨e1,P f g⟩
 rw [if_neg k4]
 refine (Q7g w _ _ _ _ _ _ _ _ _ _ A.mb h0 h1 x ⟨k0,k1,k2,k3,k4⟩).mono fun e w2 ⟨e1,mb,f⟩=>⟨e1,P f ?_⟩
 have A1:=E w2 mb f
 exact A1.same (Fr.refl _ _) (by omega)
end
end Go.Proofs.YtgjklfmnmljilaaGreatDoor
