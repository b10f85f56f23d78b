/- A part of the proof: TpZd to TpZe. -/
import Derived.Test.YtgjklfmnmljilaaGreatDoorZT03
import Derived.Test.YtgjklfmnmljilaaGreatDoorZT24
namespace Go.Proofs.YtgjklfmnmljilaaGreatDoor
set_option linter.unusedVariables false
set_option linter.unusedSimpArgs false
set_option linter.unusedSectionVars false
set_option linter.unnecessarySimpa false
set_option maxRecDepth 100000
set_option maxHeartbeats 8000000
section
open Go.RowKit Go.Shelf Go.Lib
attribute [local go_sem] Oper.semAt_some
variable (w:World) (pM pW pm pc pw n who:Nat) (ve:Value) (c:Q0) (ent mat:Int) (f:Nat→List Value) (k:Qa) (v:Ja)
theorem VH {S0 S:List Nat} {w0 w w':World} {pM pW n who:Nat} {f:Nat→List Value} {C:List Value} {ob:Bool} {A:Array Value} {t:TypeId} (B:Bag S0 w0 [tRo ob pM A t,tW pW n f who C] w) (g:Fr S w w') (h0:∀x∈S,x∈S0) (hD:∀b∈S,b≠pM∧b≠pW):Bag S0 w0 [tRo ob pM A t,tW pW n f who C] w':=
 B.fo g h0 fun i x hx hm=>by
  have:=hD x hm
  rcases i with _|_|i
  · simp [gt] at hx;exact this.1 hx
  · simp [gt] at hx;exact this.2 hx
  · simp [gt,Th.nil] at hx
theorem Q2F (hMB:QB w pM pW pm pc pw n ve c ent mat) (hW:QA w pW n (upd f who (k.cells v))) (hk:who<n) (hne:pM≠pW) (p:Nat) (R:World→Prop) (S:List Nat) (hST:Xa R pM pW ve) (hD:∀b∈S,b≠pM∧b≠pW∧ve.ownBlock≠some b) (hve:∀b,ve.ownBlock=some b→b≠pM∧b≠pW) (hv:v.vd=.pointer (some ⟨p,0,none⟩)) (HC:∀w',Fr [] w w'→Calls Tryz.prog 85 #[.pointer (some ⟨p,0,none⟩),.pointer (some ⟨pm,0,none⟩)] w' fun e w2=>e=.returned (.bool false)∧R w2∧Fr S w' w2):
 Calls Tryz.prog 60 #[.pointer (some ⟨pM,0,none⟩),.int .i64 who] w fun e w'=>e=.returned (.tuple #[])∧QT w' pM pW pm pc pw n who ve c ent mat f k v∧R w'∧Fr (pM::pW::S) w w':=by
 obtain ⟨vw,vt,vq,vd⟩:=v
 dsimp only at hv
 subst hv
 have HCS:=hid HC
 have B:Bag (pM::pW::S) w [tRo false pM _ _,tW pW n f who _] w:=(Zn hMB hW hne).mono (by simp)
 dsimp only [Qa.cells] at B
 clear hMB hW hne HC
 have m:=B.q 0
 go_in
 go_wp2_with fail
 clear m
 refine rgf B fun _ fc B=> ?_
 iterate 8 refine tb ?_
 refine tc 8 fun K hK=> ?_
 go_simp
 refine (HCS.out _ fc).mono ?_
 rintro e w1 ⟨rfl,hr,f1⟩
 replace B:=VH B f1 (by intro x hx;simp [hx]) (fun b hb=>⟨(hD b hb).1,(hD b hb).2.1⟩)
 go_wp2_with fail
 refine bk hK ?_
 clear hK K
 try go_frame
 refine tb ?_
 refine wpAnyH_done (by decide+kernel) ?_ _
 go_wp2
 first
  |go_end0
  |(try simp only [Exit.inBlock,Exit.then]
    refine bodyPost_ret (results_none rfl _ _ _) rfl ?_)
 exact ⟨rfl,⟨B.g 0,B.g 1⟩,hr,B.fr⟩
theorem EI (hMB:QB w pM pW pm pc pw n ve c ent mat) (hW:QA w pW n (upd f who (k.cells v))) (hk:who<n) (hne:pM≠pW) (p:Nat) (R:World→Prop) (S:List Nat) (hST:Xa R pM pW ve) (hD:∀b∈S,b≠pM∧b≠pW∧ve.ownBlock≠some b) (hve:∀b,ve.ownBlock=some b→b≠pM∧b≠pW) (hv:v.vd=.pointer (some ⟨p,0,none⟩)) (HC:∀w',Fr [] w w'→Calls Tryz.prog 85 #[.pointer (some ⟨p,0,none⟩),.pointer (some ⟨pm,0,none⟩)] w' fun e w2=>e=.returned (.bool true)∧R w2∧Fr S w' w2) (hpk:k.parks=true):
 Calls Tryz.prog 60 #[.pointer (some ⟨pM,0,none⟩),.int .i64 who] w fun e w'=>e=.returned (.tuple #[])∧QT w' pM pW pm pc pw n who ve c ent mat f {k with st:=6} v∧R w'∧Fr (pM::pW::S) w w':=by
 obtain ⟨vw,vt,vq,vd⟩:=v
 dsimp only at hv
 subst hv
 have HCS:=hid HC
 have B:Bag (pM::pW::S) w [tRo false pM _ _,tW pW n f who _] w:=(Zn hMB hW hne).mono (by simp)
 dsimp only [Qa.cells] at B
 clear hMB hW hne HC
 have m:=B.q 0
 go_in
 go_wp2_with fail
 clear m
 refine rgf B fun _ fc B=> ?_
 iterate 8 refine tb ?_
 refine tc 8 fun K hK=> ?_
 go_simp
 refine (HCS.out _ fc).mono ?_
 rintro e w1 ⟨rfl,hr,f1⟩
 replace B:=VH B f1 (by intro x hx;simp [hx]) (fun b hb=>⟨(hD b hb).1,(hD b hb).2.1⟩)
 go_wp2_with fail
 refine bk hK ?_
 clear hK K
 try go_frame
 refine tb ?_
 refine wpAnyH_done (by decide+kernel) ?_ _
 have q:=B.wq 1 hk;have q0:=B.wq0 1 hk;have u:=B.wu 1;have m:=B.q 0
 go_wp2_with fail
 clear q q0 u m
 generalize hw:World.setCell _ _ _=w2
 replace B:=((B.ws0 1 hk)).e hw
 first
  |go_end0
  |(try simp only [Exit.inBlock,Exit.then]
    refine bodyPost_ret (results_none rfl _ _ _) rfl ?_)
 exact ⟨rfl,⟨B.g 0,B.g 1⟩,hST.go hr (hw▸(Fr.refl [pW] w1).sc pW _ _),B.fr⟩
theorem Q3K:(Tryz.prog.info? 50).map (fun i=>(i.zero,i.size,i.bytes))=some (some (.agg #[.bool false,.int .i64 0,.int .i64 0,.int .i64 0,.int .i64 0,.bool false,.bool false,.int .i64 0,.int .i64 0,.int .i64 0,.int .i64 0,.int .i64 0,.int .i64 0,.int .i64 0,.int .i64 0,.int .i64 0,.int .i64 0,.int .i64 0]),18,136):=by kernel_rfl
def Xn (w:World) (ve:Value) (evs:List EvV):Prop:=QX 50 18 w ve evs.length (evs.flatMap EvV.cells)
abbrev tEv (o:Bool) (ve:Value) (N:Nat) (C:List Value):Th:=⟨o,ve.ownBlock.toList,fun w=>QX 50 18 w ve N C,fun f h k=>k.fr f fun b hb=>h b (by simp [hb])⟩
theorem mbagE {w:World} {pM pW pm pc pw n who:Nat} {ve:Value} {c:Q0} {ent mat:Int} {f:Nat→List Value} {k:Qa} {v:Ja} {evs:List EvV} (hMB:QB w pM pW pm pc pw n ve c ent mat) (hW:QA w pW n (upd f who (k.cells v))) (hne:pM≠pW) (hE:Xn w ve evs) (hve:∀b,ve.ownBlock=some b→b≠pM∧b≠pW):
 Bag (pM::pW::ve.ownBlock.toList) w [tMB pM pW pm pc pw n ve c ent mat,tW pW n f who (k.cells v),tEv true ve evs.length (evs.flatMap EvV.cells)] w:=by
 have h1:=Q6 hMB;have h2:=hW.lt;have h3:=QX.lt hE
 refine Bag.of (by simp only [List.forall_mem_cons];exact ⟨hMB,hW,hE,by simp⟩) ?_ ?_ ?_
 · cases h:ve.ownBlock with
   |none=>simp [h,hne]
   |some b=>have:=hve b h;simp [h];omega
 · cases h:ve.ownBlock with
   |none=>simp [h];omega
   |some b=>have:=h3 b h;simp [h];omega
 · simp only [List.forall_mem_cons];simp;intro x hx;simp [hx]
theorem Bag.evs {S0:List Nat} {w0 w:World} {L:List Th} (B:Bag S0 w0 L w) (i j:Nat) {ve:Value} {N:Nat} {C:List Value} {b:Nat} {t:TypeId} {o:Bool} (es:List Value) (hlen:N≤100000) (hi:gt L i=tEv true ve N C:=by exact rfl) (hj:gt L j=tRo o b es.toArray t:=by exact rfl) (hes:es.length=18:=by rfl) (h1:∀u∈es,u.oneCell'=true:=by simp [Value.oneCell'])
 (hil:i<L.length:=by exact Nat.lt_of_sub_ne_zero (by intro h;cases h)):
  ∃g off cap w',(Builtin.append_ #[63,63] 63 #[ve,.slice (some ⟨b,0,none⟩) 1 1]).run Tryz.prog w=.ok (.slice (some ⟨g,off,none⟩) (N+1) cap) w'∧(ve.ownBlock=some g∨w.heap.size≤g)∧Bag S0 w0 (L.set i (tEv true (.slice (some ⟨g,off,none⟩) (N+1) cap) (N+1) (C++es))) w':=by
 have k:=B.g i
 rw [hi] at k
 have q:=B.q j hj
 obtain ⟨i0,hi0,hz0,hz1,hz2⟩:=info_parts Q3K
 obtain ⟨g,off,cap2,w5,hrun,hr2,fa,hg,hlt⟩:=VD (P:=Tryz.prog) w 63 63 50 i0 _ 18 Tryz.underlying63 hi0 hz0 hz1 (by omega) rfl ve _ _ k ⟨b,0,none⟩ 1 es hes (fun j u hj=>by rw [Addr.add_lit,Nat.zero_add,q j];simpa using hj) h1 hlen
 refine ⟨g,off,cap2,w5,hrun,hg.imp id (fun h=>Nat.le_of_eq h.symm),B.up' i (T':=tEv true _ _ _) hr2 fa (fun x hx=>⟨by rw [hi],by rw [hi];exact hx⟩) (fun x hx=> ?_) hil⟩
 simp [Value.ownBlock] at hx
 subst hx
 refine ⟨hlt,hg.elim (fun h=>.inl ⟨fun _=>by rw [hi],by rw [hi];simp [h]⟩) (fun h=>.inr (Nat.le_of_eq h.symm))⟩
theorem Q13 (hMB:QB w pM pW pm pc pw n ve c ent mat) (hW:QA w pW n (upd f who (k.cells v))) (hk:who<n) (hne:pM≠pW) (p:Nat) (R:World→Prop) (S:List Nat) (hST:Xa R pM pW ve) (hD:∀b∈S,b≠pM∧b≠pW∧ve.ownBlock≠some b) (hve:∀b,ve.ownBlock=some b→b≠pM∧b≠pW) (hv:v.vd=.pointer (some ⟨p,0,none⟩)) (HC:∀w',Fr [] w w'→Calls Tryz.prog 85 #[.pointer (some ⟨p,0,none⟩),.pointer (some ⟨pm,0,none⟩)] w' fun e w2=>e=.returned (.bool true)∧R w2∧Fr S w' w2) (evs:List EvV) (hE:Xn w ve evs) (hlen:evs.length≤100000) (hpk:k.parks=false):
 Calls Tryz.prog 60 #[.pointer (some ⟨pM,0,none⟩),.int .i64 who] w fun e w'=>e=.returned (.tuple #[])∧∃ve',QT w' pM pW pm pc pw n who ve' c ent mat f {k with st:=0} v∧Xn w' ve' (evs++[{k.ans with ended:=true,who:=who,at_:=mat,ask:=k.ask}])∧R w'∧(∀b,ve'.ownBlock=some b→ve.ownBlock=some b∨w.heap.size≤b)∧Fr (pM::pW::(ve.ownBlock.toList++S)) w w':=by
 have HCS:=hid HC
 have hE2:QX 50 18 w ve evs.length (evs.flatMap EvV.cells):=hE
 have B:Bag (pM::pW::S) w [tRo false pM _ _,tW pW n f who _] w:=(Zn hMB hW hne).mono (by simp)
 rw [Qa.cells,hv,hpk] at B
 clear hMB hW HC
 have m:=B.q 0
 go_in
 go_wp2_with fail
 clear m
 refine rgf B fun _ fc B=> ?_
 iterate 8 refine tb ?_
 refine tc 8 fun K hK=> ?_
 go_simp
 refine (HCS.out _ fc).mono ?_
 rintro e w1 ⟨rfl,hr,f1⟩
 have F1:=(fc.mono (S':=S) (by simp)).trans f1
 replace B:=VH B f1 (by intro x hx;simp [hx]) (fun b hb=>⟨(hD b hb).1,(hD b hb).2.1⟩)
 go_wp2_with fail
 refine bk hK ?_
 clear hK K
 try go_frame
 refine tb ?_
 refine wpAnyH_done (by decide+kernel) ?_ _
 have hMB1:QB w1 pM pW pm pc pw n ve c ent mat:=B.g 0
 have hW1:=B.g 1
 have B:=mbagE (k:=k) (v:=v) hMB1 (by rw [Qa.cells,hv,hpk];exact hW1) hne (show Xn w1 ve evs from QX.fr hE F1 fun b hb hm=>(hD b hm).2.2 hb) hve
 clear hMB1 hW1 hE hE2
 have hLD:=QA.ld (P:=Tryz.prog) (B.g 1) hk 17 k.ans.cells 50
 dsimp only [Qa.cells] at B
 obtain ⟨w2,hrun,hb2,fs⟩:=Vl (P:=Tryz.prog) (heap_alloc_new w1 (.cells #[.bool false,.int .i64 0,.int .i64 0,.int .i64 0,.int .i64 0,.bool false,.bool false,.int .i64 0,.int .i64 0,.int .i64 0,.int .i64 0,.int .i64 0,.int .i64 0,.int .i64 0,.int .i64 0,.int .i64 0,.int .i64 0,.int .i64 0] 50)) k.ans.cells 50 (by kernel_rfl) rfl (by simp [Value.oneCell',EvV.cells])
 have q:=B.wq 1 hk;have m:=B.q 0
 go_wp2_with (first|(refine ZI rfl _ _ rfl _ _ rfl hLD ?_)|(refine Zf rfl _ _ _ rfl _ _ rfl rfl hrun ?_))
 clear q m hLD hrun
 dsimp only [EvV.cells] at hb2
 replace B:=B.nw (T':=tR _ _ _) hb2 (((Fr.refl [] w1).alloc _).then fs (fun x hx=>by simp at hx;exact .inr (by omega))) (fun x hx=>by simp at hx;subst hx;exact ⟨Nat.le_refl _,Q6 hb2⟩)
 replace B:=B.sel [0,1,3,2]
 clear hb2 fs
 generalize w1.heap.size=b9 at B ⊢
 have ha1:∀j:Nat,who*35+1+j=who*35+(1+j):=fun j=>Nat.add_assoc _ _ _
 have n1:=B.n2 1 2 (x:=pW) (y:=b9);have n2:=n1.symm;have n3:=B.n2 0 2 (x:=pM) (y:=b9);have n4:=n3.symm
 have q:=B.wq 1 hk;have m:=B.q 0;have r:=B.q 2;have u:=B.u 2
 try go_frame
 go_region
 clear q m r u n1 n2 n3 n4
 generalize hw:World.setCell _ _ _=w3
 replace B:=(((((((((((B.s 2).s 2).s 2).s 2).s 2).s 2).s 2).s 2).s 2).s 2).e hw).drew
 go_wp2_with fail
 refine rgci 0 8 [0,1,2] B fun _ B=> ?_
 iterate 4 refine tb ?_
 refine tl 5 (fun w' v' B=>Q33 50 (B.g 2)) ?_
 refine wpAnyH_ready (rs:=[4,6]) (by decide+kernel) (by simp) ?_
 refine AllReadyH.cons (o:=_) rfl (fun K hK=> ?_) (AllReadyH.cons (o:=_) rfl (fun K hK=> ?_) AllReadyH.nil)
 all_goals try simp only [List.getElem_toArray,List.getElem_cons_succ,List.getElem_cons_zero]
 have m:=B.q 0
 go_simp
 refine bk hK ?_
 clear hK K
 try go_frame
 clear m
 refine tc 6 fun K hK=> ?_
 go_simp
 generalize hb:(World.heap _).size=bE,hw:World.alloc _ _=w4
 replace B:=B.al hw hb
 refine bk hK ?_
 clear hK K
 try go_frame
 rotate_left
 go_simp
 generalize hb:(World.heap _).size=bE,hw:World.alloc _ _=w4
 replace B:=B.al hw hb
 refine bk hK ?_
 clear hK K
 try go_frame
 have m:=B.q 0
 refine tc 4 fun K hK=> ?_
 go_simp
 refine bk hK ?_
 clear hK K
 try go_frame
 clear m
 all_goals
  obtain ⟨g,off,cap2,w5,hrun,hg,B5⟩:=B.evs 3 4 (EvV.cells {k.ans with ended:=true,who:=who,at_:=mat,ask:=k.ask}) hlen (h1:=by simp [Value.oneCell',EvV.cells])
  refine tc 7 fun K hK=> ?_
  refine Vq _ _ _ _ rfl _ _ rfl rfl hrun ?_
  replace hg:=hg.imp id (fun h=>Nat.le_trans F1.size (Nat.le_trans B.fr.size h))
  replace B:=B5
  simp only [List.set_cons_zero,List.set_cons_succ] at B
  clear B5 hrun
  refine bk hK ?_
  clear hK K
  try go_frame
  refine tb ?_
  refine tb ?_
  have u:=B.u 0;have m:=B.q 0
  refine tc 10 fun K hK=> ?_
  go_simp
  clear u m
  generalize hw:World.setCell _ _ _=w6
  replace B:=(B.s 0).e hw
  refine bk hK ?_
  clear hK K
  try go_frame
  refine wpAnyH_done (by decide+kernel) ?_ _
  have q:=B.wq 1 hk;have q0:=B.wq0 1 hk;have u:=B.wu 1;have m:=B.q 0
  go_wp2_with fail
  clear q q0 u m
  generalize hw:World.setCell _ _ _=w7
  replace B:=(B.ws0 1 hk).e hw
  go_end0
  refine ⟨rfl,_,⟨B.g 0,B.g 1⟩, ?_,hST.go hr B.fr (by intro b hb;simpa using hb),fun b hb=>by cases hb;exact hg,(F1.mono (by intro x hx;simp [hx])).trans (B.fr.mono (by intro x hx;simp at hx ⊢;rcases hx with h|h|h<;>simp [h]))⟩
  unfold Xn
  rw [List.length_append,List.flatMap_append]
  exact B.g 3
end
section
open Go.RowKit Go.Shelf Go.Lib
attribute [local go_sem] Oper.semAt_some
variable (w:World) (pM pW pm pc pw n who:Nat) (ve:Value) (c:Q0) (ent mat:Int) (f:Nat→List Value) (k:Qa) (v:Ja)
theorem Q6Y {w:World} {B g cp n:Nat} {L:List Int} (h:w.ownsRow B 3 1 (.slice (some ⟨g,0,none⟩) n cp) n (L.map (Value.int .i64))) {j:Nat} {z:Int} (hx:L[j]?=some z):w.cell? ⟨g,j,none⟩=some (.int .i64 z):=by
 have hj:j<L.length:=(List.getElem?_eq_some_iff.1 hx).1
 rcases h.2 with ⟨h,_⟩|⟨g',cap',cur,h0,hb,hg,h1,h2,h3,h4⟩
 · cases h
 · simp only [Value.slice.injEq,Option.some.injEq,Addr.mk.injEq,and_true,true_and] at h0
   obtain ⟨rfl,rfl⟩:=h0
   have hn:n=L.length:=by simpa using h.1.symm
   refine cell_of hg ?_
   have e:=congrArg (fun l=>l[j]?) h4
   simp only [Nat.mul_one,List.getElem?_take,if_pos (show j<n by omega),List.getElem?_map,hx,Option.map_some] at e
   rw [←Array.getElem?_toList]
   exact e
theorem Q1i {w:World} {pM pW pm pc pw n who qm:Nat} {ve:Value} {c:Q0} {ent mat:Int} {f:Nat→List Value} {k:Qa} {v:Ja} {M:List Int} {N:Int} (hMB:QB w pM pW pm pc pw n ve c ent mat) (hW:QA w pW n (upd f who (k.cells v))) (hne:pM≠pW) (hM:Ql w pm qm M N) (hne2:pm≠pM∧pm≠pW∧qm≠pM∧qm≠pW):
 Bag [pW,pm,qm] w [⟨false,[pM],fun w=>QB w pM pW pm pc pw n ve c ent mat,fun f h k=>k.fr f (h _ (by simp))⟩,tW pW n f who (k.cells v),tM pm qm M N] w:=
 ((Zn hMB hW hne).mono (by simp)).add (tM pm qm M N) hM (fun x hx=>by have:=hM.plt;have:=hM.qlt;simp at hx;omega) (fun i x hx hm=>by
   rcases i with _|_|i
   · simp [gt] at hx hm;omega
   · simp [gt] at hx hm;omega
   · simp [gt,Th.nil] at hm) (fun _ x hx=>by simp at hx;rcases hx with rfl|rfl<;>simp)
abbrev tQu (p:Nat) (c:Q0) (s:QuS):Th:=⟨true,[p],fun w=>J9 w p c s,fun f h k=>k.fr f (h _ (by simp))⟩
abbrev tTw (p:Nat) (c:Q0):Th:=⟨true,[p],fun w=>Yu w p c (.slice none 0 0) (.slice none 0 0) [] [] 0 false,fun f h k=>Yu.fr k f (h _ (by simp)) (by simp [Value.ownBlock]) (by simp [Value.ownBlock])⟩
theorem Q4Y (hMB:QB w pM pW pm pc pw n ve c ent mat) (hW:QA w pW n (upd f who (k.cells v))) (hk:who<n) (hne:pM≠pW):
 Calls Tryz.prog 118 #[.pointer (some ⟨pM,0,none⟩),.int .i64 who] w fun e w'=>e=.returned (.tuple #[])∧∃p,w.heap.size≤p∧J9 w' p c ⟨who,[],0,.come,0,0⟩∧QT w' pM pW pm pc pw n who ve c ent mat f {k with qu:=some (XU who),st:=4} {v with vq:=.pointer (some ⟨p,0,none⟩)}∧Fr [pW] w w':=by
 have HY:=hid fun w'=>Q5x w' c who
 have B:Bag [pW] w [tRo false pM _ _,tW pW n f who _] w:=Zn hMB hW hne
 dsimp only [Qa.cells] at B
 clear hMB hW hne
 have m:=B.q 0
 go_in
 go_wp2_with fail
 refine (HY.out _).mono ?_
 rintro e w1 ⟨p,rfl,hp,ht,f1⟩
 replace B:=B.nw (T':=tQu p c ⟨who,[],0,.come,0,0⟩) ht f1 (fun x hx=>by simp at hx;subst hx;exact ⟨hp,Q6 ht⟩)
 clear m
 have q:=B.wq 1 hk;have q0:=B.wq0 1 hk;have u:=B.wu 1;have m:=B.q 0
 go_wp2_with fail
 clear q q0 u m
 generalize hw:World.setCell _ _ _=w2
 replace B:=(((B.ws 1 hk).ws0 1 hk)).e hw
 go_end0
 exact ⟨rfl,p,hp,B.g 2,⟨B.g 0,B.g 1⟩,B.fr⟩
theorem Q2U (hMB:QB w pM pW pm pc pw n ve c ent mat) (hW:QA w pW n (upd f who (k.cells v))) (hk:who<n) (hne:pM≠pW):
 Calls Tryz.prog 119 #[.pointer (some ⟨pM,0,none⟩),.int .i64 who] w fun e w'=>e=.returned (.tuple #[])∧∃p,w.heap.size≤p∧Yu w' p c (.slice none 0 0) (.slice none 0 0) [] [] 0 false∧QT w' pM pW pm pc pw n who ve c ent mat f {k with tw:=some Y4,st:=3} {v with vt:=.pointer (some ⟨p,0,none⟩)}∧Fr [pW] w w':=by
 have HY:=hid fun w'=>Q0t w' c
 have B:Bag [pW] w [tRo false pM _ _,tW pW n f who _] w:=Zn hMB hW hne
 dsimp only [Qa.cells] at B
 clear hMB hW hne
 have m:=B.q 0
 go_in
 go_wp2_with fail
 refine (HY.out _).mono ?_
 rintro e w1 ⟨p,rfl,hp,ht,f1⟩
 replace B:=B.nw (T':=tTw p c) ht f1 (fun x hx=>by simp at hx;subst hx;exact ⟨hp,Q6 ht.b⟩)
 clear m
 have q:=B.wq 1 hk;have q0:=B.wq0 1 hk;have u:=B.wu 1;have m:=B.q 0
 go_wp2_with fail
 clear q q0 u m
 generalize hw:World.setCell _ _ _=w2
 replace B:=(((B.ws 1 hk).ws0 1 hk)).e hw
 go_end0
 exact ⟨rfl,p,hp,B.g 2,⟨B.g 0,B.g 1⟩,B.fr⟩
theorem Q12 (hMB:QB w pM pW pm pc pw n ve c ent mat) (hW:QA w pW n (upd f who (k.cells v))) (hk:who<n) (hne:pM≠pW) (qm:Nat) (M:List Int) (N:Int) (hM:Ql w pm qm M N) (hN:N≤1000000000) (hc:c.fits) (hwo:(who:Int)<c.wo) (hne2:pm≠pM∧pm≠pW∧qm≠pM∧qm≠pW) (hhf:k.half=false):
 Calls Tryz.prog 62 #[.pointer (some ⟨pM,0,none⟩),.int .i64 who] w fun e w'=>e=.returned (.tuple #[])∧QT w' pM pW pm pc pw n who ve c ent mat f {k with word:=Q7 M (3+c.wo+(who:Int)),half:=true} v∧Ql w' pm qm M (N+1)∧Fr [pW,pm,qm] w w':=by
 have HCG:=hid fun w'=>ZB w' c who hc (by omega) hwo
 have HLD:=hid fun w' h=>Za w' pm qm M N (3+c.wo+(who:Int)) h hN
 have B:Bag [pW,pm,qm] w [tRo false pM _ _,tW pW n f who _,tM pm qm M N] w:=Q1i hMB hW hne hM hne2
 dsimp only [Qa.cells] at B
 clear hMB hW hne hM hne2 hc hwo
 have q:=B.wq 1 hk;have m:=B.q 0
 go_in
 go_wp2_with fail
 refine (HCG.out _).mono ?_
 rintro e w1 ⟨rfl,f1⟩
 replace B:=B.tm f1
 clear q m
 have q:=B.wq 1 hk;have m:=B.q 0
 go_wp2_with fail
 clear q m
 refine (HLD.out _ (B.g 2)).mono ?_
 rintro e w2 ⟨rfl,h,f2⟩
 replace B:=B.up 2 (T':=tM pm qm _ _) h f2
 have q:=B.wq 1 hk;have q0:=B.wq0 1 hk;have u:=B.wu 1;have m:=B.q 0
 go_wp2_with fail
 clear q q0 u m
 generalize hw:World.setCell _ _ _=w3
 replace B:=(((B.ws 1 hk).ws 1 hk)).e hw
 first
  |go_end0
  |(try simp only [Exit.inBlock,Exit.then]
    refine bodyPost_ret (results_none rfl _ _ _) rfl ?_)
 exact ⟨rfl,⟨B.g 0,B.g 1⟩,B.g 2,B.fr⟩
theorem Q2E (hMB:QB w pM pW pm pc pw n ve c ent mat) (hW:QA w pW n (upd f who (k.cells v))) (hk:who<n) (hne:pM≠pW) (qm:Nat) (M:List Int) (N:Int) (hM:Ql w pm qm M N) (hN:N≤1000000000) (hc:c.fits) (hwo:(who:Int)<c.wo) (hne2:pm≠pM∧pm≠pW∧qm≠pM∧qm≠pW) (hhf:k.half=true) (hkw:0≤k.word):
 Calls Tryz.prog 62 #[.pointer (some ⟨pM,0,none⟩),.int .i64 who] w fun e w'=>e=.returned (.tuple #[])∧QT w' pM pW pm pc pw n who ve c ent mat f {k with half:=false,grant:=k.word,st:=1} v∧Ql w' pm qm (Qz M (3+c.wo+(who:Int)) 0) (N+1)∧Fr [pW,pm,qm] w w':=by
 have HCG:=hid fun w'=>ZB w' c who hc (by omega) hwo
 have HLD:=hid fun w' h=>Vz w' pm qm M N (3+c.wo+(who:Int)) 0 h hN
 have hkn:¬k.word<0:=by omega
 have B:Bag [pW,pm,qm] w [tRo false pM _ _,tW pW n f who _,tM pm qm M N] w:=Q1i hMB hW hne hM hne2
 dsimp only [Qa.cells] at B
 clear hMB hW hne hM hne2 hc hwo
 have q:=B.wq 1 hk;have m:=B.q 0
 go_in
 go_wp2_with fail
 refine (HCG.out _).mono ?_
 rintro e w1 ⟨rfl,f1⟩
 replace B:=B.tm f1
 clear q m
 have q:=B.wq 1 hk;have q0:=B.wq0 1 hk;have u:=B.wu 1;have m:=B.q 0
 go_wp2_with fail
 clear q q0 u m
 generalize hw:World.setCell _ _ _=w2
 replace B:=((B.ws 1 hk)).e hw
 refine (HLD.out _ (B.g 2)).mono ?_
 rintro e w2 ⟨rfl,h,f2⟩
 replace B:=B.up 2 (T':=tM pm qm _ _) h f2
 have q:=B.wq 1 hk;have q0:=B.wq0 1 hk;have u:=B.wu 1;have m:=B.q 0
 go_wp2_with fail
 clear q q0 u m
 generalize hw:World.setCell _ _ _=w3
 replace B:=(((B.ws 1 hk).ws0 1 hk)).e hw
 first
  |go_end0
  |(try simp only [Exit.inBlock,Exit.then]
    refine bodyPost_ret (results_none rfl _ _ _) rfl ?_)
 exact ⟨rfl,⟨B.g 0,B.g 1⟩,B.g 2,B.fr⟩
theorem Q11 (hMB:QB w pM pW pm pc pw n ve c ent mat) (hW:QA w pW n (upd f who (k.cells v))) (hk:who<n) (hne:pM≠pW) (qm:Nat) (M:List Int) (N:Int) (hM:Ql w pm qm M N) (hN:N≤1000000000) (hc:c.fits) (hwo:(who:Int)<c.wo) (hne2:pm≠pM∧pm≠pW∧qm≠pM∧qm≠pW) (hhf:k.half=true) (hkw:k.word<0):
 Calls Tryz.prog 62 #[.pointer (some ⟨pM,0,none⟩),.int .i64 who] w fun e w'=>e=.returned (.tuple #[])∧∃p,w.heap.size≤p∧Jq w' p none none c (QG who)∧QT w' pM pW pm pc pw n who ve c ent mat f ({k with half:=false}.end_ who {ev0 with e:=5}) {v with vd:=.pointer (some ⟨p,0,none⟩)}∧Ql w' pm qm (Qz M (3+c.wo+(who:Int)) 0) (N+1)∧Fr [pW,pm,qm] w w':=by
 have HCG:=hid fun w'=>ZB w' c who hc (by omega) hwo
 have HLD:=hid fun w' h=>Vz w' pm qm M N (3+c.wo+(who:Int)) 0 h hN
 have HEN:=hid fun w' k' h1 h2=>Z4 w' pM pW pm pc pw n who ve c ent mat f k' v h1 h2 hk hne {ev0 with e:=5}
 have B:Bag [pW,pm,qm] w [tRo false pM _ _,tW pW n f who _,tM pm qm M N] w:=Q1i hMB hW hne hM hne2
 dsimp only [Qa.cells] at B
 clear hMB hW hne hM hne2 hc hwo
 have q:=B.wq 1 hk;have m:=B.q 0
 go_in
 go_wp2_with fail
 refine (HCG.out _).mono ?_
 rintro e w1 ⟨rfl,f1⟩
 replace B:=B.tm f1
 clear q m
 have q:=B.wq 1 hk;have q0:=B.wq0 1 hk;have u:=B.wu 1;have m:=B.q 0
 go_wp2_with fail
 clear q q0 u m
 generalize hw:World.setCell _ _ _=w2
 replace B:=((B.ws 1 hk)).e hw
 refine (HLD.out _ (B.g 2)).mono ?_
 rintro e w2 ⟨rfl,h,f2⟩
 replace B:=B.up 2 (T':=tM pm qm _ _) h f2
 have q:=B.wq 1 hk
 go_wp2_with fail
 refine (HEN.out _ {k with half:=false} (B.g 0) (B.g 1)).mono ?_
 rintro e w9 ⟨rfl,p,hp,ht,hmp,f9⟩
 replace hp:=Nat.le_trans B.fr.size hp
 have hm:=Ql.fr (B.g 2) f9 (fun h=>B.nd 2 1 (by decide) pm (by simp [gt]) (by simpa [gt] using h)) (fun h=>B.nd 2 1 (by decide) qm (by simp [gt]) (by simpa [gt] using h))
 go_wp2_with fail
 first
  |go_end0
  |(try simp only [Exit.inBlock,Exit.then]
    refine bodyPost_ret (results_none rfl _ _ _) rfl ?_)
 exact ⟨rfl,p,hp,ht,hmp,hm,B.fr.then f9 (by simp)⟩
theorem EN (w:World) (pM pW pm pc pw n who qm:Nat) (ve:Value) (c:Q0) (ent mat:Int) (M:List Int) (N:Int) (hMB:QB w pM pW pm pc pw n ve c ent mat) (hM:Ql w pm qm M N) (hc:c.fits) (hwo:(who:Int)<c.wo) (hml:(M.length:Int)=c.cells) (hmb:M.length≤10000):
 Calls Tryz.prog 53 #[.pointer (some ⟨pM,0,none⟩),.int .i64 who] w fun e w'=>e=.returned (.bool (decide (Q7 M (3+c.wo+(who:Int))≠0)))∧Fr [] w w':=by
 have HCG:=hid fun w'=>ZB w' c who hc (by omega) hwo
 have HWD:=hid fun w' (f:Fr [] w w')=>(by obtain ⟨t,h,_⟩:=hM.fr f (by simp) (by simp);exact Dr w' pm qm M t h hmb:Calls Tryz.prog 30 #[.pointer (some ⟨pm,0,none⟩)] w' _)
 have hsl:=hc.2.1
 obtain ⟨g1,g2⟩:0≤3+c.wo+(who:Int)∧3+c.wo+(who:Int)<(M.length:Int):=by unfold Q0.cells at hml;omega
 have B:=Bag.one hMB
 clear hMB hM hc hwo hml hmb hsl
 obtain ⟨cell,hcell⟩:∃x:Nat,3+c.wo+(who:Int)=(x:Int):=⟨(3+c.wo+(who:Int)).toNat,by omega⟩
 rw [hcell] at g2 HCG ⊢
 clear g1 hcell
 obtain ⟨lv,hx⟩:∃x,M[cell]?=some x:=⟨_,List.getElem?_eq_getElem (by omega)⟩
 rw [show Q7 M (cell:Int)=lv by unfold Q7;rw [if_pos (Jh (by omega) (by omega)),Int.toNat_natCast,List.getD_eq_getElem?_getD,hx];rfl]
 go_in
 go_wp2_with fail
 refine rg B fun _ B=> ?_
 iterate 4 refine tb ?_
 refine tj 5 ?_
 refine tj 6 ?_
 refine tj 7 ?_
 refine tj 8 ?_
 refine tj 9 ?_
 refine tc 4 fun K hK=> ?_
 go_simp
 refine (HWD.out _ B.fr).mono ?_
 rintro e w1 ⟨g,cp,rfl,how,f⟩
 have HQ:=hid (Q6Y how hx)
 clear how
 replace B:=B.tm f
 go_wp2_with fail
 refine bk hK ?_
 clear hK K
 try go_frame
 refine tc 10 fun K hK=> ?_
 go_simp
 refine (HCG.out _).mono ?_
 rintro e w2 ⟨rfl,f2⟩
 have q:=f2.cell HQ.out (by simp)
 replace B:=B.tm f2
 go_wp2_with fail
 refine bk hK ?_
 clear hK K
 try go_frame
 refine tj 11 ?_
 refine tc 12 fun K hK=> ?_
 go_simp
 refine bk hK ?_
 clear hK K q
 try go_frame
 refine tb ?_
 refine tb ?_
 refine wpAnyH_done (by decide+kernel) ?_ _
 go_wp2
 go_ret
 exact ⟨by simp;rfl,B.fr⟩
end
end Go.Proofs.YtgjklfmnmljilaaGreatDoor
