/- A part of the proof: TpZg to TpZi. -/
import Derived.Test.YtgjklfmnmljilaaGreatDoorZT03
import Derived.Test.YtgjklfmnmljilaaGreatDoorZT27
namespace Go.Proofs.YtgjklfmnmljilaaGreatDoor
set_option linter.unusedVariables false
set_option linter.unusedSimpArgs false
set_option linter.unusedSectionVars false
set_option linter.unnecessarySimpa false
set_option maxRecDepth 100000
set_option maxHeartbeats 8000000
section
open Go.RowKit Go.Shelf Go.Lib
attribute [local go_sem] Oper.semAt_some
variable (w:World) (pM pW pm pc pw n who:Nat) (ve:Value) (c:Q0) (ent mat:Int) (f:Nat→List Value) (k:Qa) (v:Ja)
structure ZV (w:World) (bt bm bw pM p:Nat) (who:Int) (ty:TypeId):Prop where
 ft:w.heap[bt]?=some (.cells #[.pointer (some ⟨p,0,none⟩)] ty (0,0))
 fm:w.heap[bm]?=some (.cells #[.pointer (some ⟨pM,0,none⟩)] 28 (0,0))
 fw:w.heap[bw]?=some (.cells #[.int .i64 who] 3 (0,0))
 ne:bt≠bm∧bt≠bw∧bm≠bw
theorem ZV.ov {w w':World} {bt bm bw pM p:Nat} {who:Int} {ty:TypeId} (h:ZV w bt bm bw pM p who ty) {S:List Nat} (f:Fr S w w') (h1:bt∉S) (h2:bm∉S) (h3:bw∉S):ZV w' bt bm bw pM p who ty:=⟨f.at h.ft h1,f.at h.fm h2,f.at h.fw h3,h.ne⟩
def Q0d (w:World) (fn:FuncId) (pM p:Nat) (who:Int) (ty:TypeId) (e:Ending) (w':World):Prop:=∃bt bm bw,e=.returned (.func (.func fn) #[] #[.pointer (some ⟨bt,0,none⟩),.pointer (some ⟨bm,0,none⟩),.pointer (some ⟨bw,0,none⟩)])∧w.heap.size≤bt∧w.heap.size≤bm∧w.heap.size≤bw∧ZV w' bt bm bw pM p who ty∧Fr [] w w'
theorem Q07 {w:World} {pM pW pm pc pw n who p bt bm bw:Nat} {ve:Value} {c:Q0} {ent mat:Int} {f:Nat→List Value} {k:Qa} {v:Ja} {ty:TypeId} (hMB:QB w pM pW pm pc pw n ve c ent mat) (hW:QA w pW n (upd f who (k.cells v))) (hne:pM≠pW) (X:ZV w bt bm bw pM p who ty) (hB:(bt≠pM∧bt≠pW)∧(bm≠pM∧bm≠pW)∧(bw≠pM∧bw≠pW)):
 Bag [pW] w [⟨false,[pM],fun w=>QB w pM pW pm pc pw n ve c ent mat,fun f h k=>k.fr f (h _ (by simp))⟩,tW pW n f who (k.cells v),tRo false bt #[.pointer (some ⟨p,0,none⟩)] ty,tRo false bm #[.pointer (some ⟨pM,0,none⟩)] 28,tRo false bw #[.int .i64 who] 3] w:=by
 have h1:=Q6 hMB;have h2:=hW.lt;have h3:=Q6 X.ft;have h4:=Q6 X.fm;have h5:=Q6 X.fw;have hn:=X.ne
 refine Bag.of ?_ (by simp;omega) (by simp;omega) ?_
 · simp only [List.forall_mem_cons];exact ⟨hMB,hW,X.ft,X.fm,X.fw,by simp⟩
 · intro T hT ho x hx
   simp only [List.mem_cons,List.not_mem_nil,or_false] at hT
   rcases hT with rfl|rfl|rfl|rfl|rfl
   · cases ho
   · simpa using hx
   all_goals cases ho
theorem Kc {S0 S:List Nat} {w0 w w':World} {pM pW n who bt bm bw:Nat} {f:Nat→List Value} {C:List Value} {A A2 A3 A4:Array Value} {t t2 t3 t4:TypeId} (B:Bag S0 w0 [tRo false pM A t,tW pW n f who C,tRo false bt A2 t2,tRo false bm A3 t3,tRo false bw A4 t4] w) (g:Fr S w w') (h0:∀x∈S,x∈S0) (hD:∀b∈S,b≠pM∧b≠pW) (hDB:∀b∈S,b≠bt∧b≠bm∧b≠bw):
 Bag S0 w0 [tRo false pM A t,tW pW n f who C,tRo false bt A2 t2,tRo false bm A3 t3,tRo false bw A4 t4] w':=
 B.fo g h0 fun i x hx hm=>by
  have h1:=hD x hm
  have h2:=hDB x hm
  rcases i with _|_|_|_|_|i
  · simp [gt] at hx;exact h1.1 hx
  · simp [gt] at hx;exact h1.2 hx
  · simp [gt] at hx;exact h2.1 hx
  · simp [gt] at hx;exact h2.2.1 hx
  · simp [gt] at hx;exact h2.2.2 hx
  · simp [gt,Th.nil] at hx
theorem Ur (w:World) (pM p:Nat) (who:Int):Calls Tryz.prog 79 #[.pointer (some ⟨pM,0,none⟩),.int .i64 who,.pointer (some ⟨p,0,none⟩)] w (Q0d w 113 pM p who 134):=by
 go_in
 go_wp2
 go_ret
 generalize hw:World.alloc w _=w1,hb:(World.heap w).size=b
 generalize hw2:World.alloc w1 _=w2
 generalize hw3:World.alloc w2 _=w3
 have B:=(Bag.nil [] w).al3 hw hb hw2 hw3
 exact ⟨_,_,_,rfl,by omega,by omega,by omega,⟨B.g 2,B.g 0,B.g 1,by omega⟩,B.fr⟩
theorem DR (w:World) (pM p:Nat) (who:Int):Calls Tryz.prog 96 #[.pointer (some ⟨pM,0,none⟩),.int .i64 who,.pointer (some ⟨p,0,none⟩)] w (Q0d w 146 pM p who 156):=by
 go_in
 go_wp2
 go_ret
 generalize hw:World.alloc w _=w1,hb:(World.heap w).size=b
 generalize hw2:World.alloc w1 _=w2
 generalize hw3:World.alloc w2 _=w3
 have B:=(Bag.nil [] w).al3 hw hb hw2 hw3
 exact ⟨_,_,_,rfl,by omega,by omega,by omega,⟨B.g 2,B.g 0,B.g 1,by omega⟩,B.fr⟩
theorem GX (w:World) (pM p:Nat) (who:Int):Calls Tryz.prog 100 #[.pointer (some ⟨pM,0,none⟩),.int .i64 who,.pointer (some ⟨p,0,none⟩)] w (Q0d w 149 pM p who 159):=by
 go_in
 go_wp2
 go_ret
 generalize hw:World.alloc w _=w1,hb:(World.heap w).size=b
 generalize hw2:World.alloc w1 _=w2
 generalize hw3:World.alloc w2 _=w3
 have B:=(Bag.nil [] w).al3 hw hb hw2 hw3
 exact ⟨_,_,_,rfl,by omega,by omega,by omega,⟨B.g 2,B.g 0,B.g 1,by omega⟩,B.fr⟩
theorem Q78 (hMB:QB w pM pW pm pc pw n ve c ent mat) (hW:QA w pW n (upd f who (k.cells v))) (hk:who<n) (hne:pM≠pW) (p:Nat) (R:World→Prop) (S:List Nat) (hST:Xa R pM pW ve) (hD:∀b∈S,b≠pM∧b≠pW∧ve.ownBlock≠some b) (hve:∀b,ve.ownBlock=some b→b≠pM∧b≠pW) (bt bm bw:Nat) (B:ZV w bt bm bw pM p who 156) (hB:(bt≠pM∧bt≠pW)∧(bm≠pM∧bm≠pW)∧(bw≠pM∧bw≠pW)) (hDB:∀b∈S,b≠bt∧b≠bm∧b≠bw) (HC:∀w',Fr [] w w'→Calls Tryz.prog 147 #[.pointer (some ⟨p,0,none⟩),.pointer (some ⟨pm,0,none⟩)] w' fun e w2=>e=.returned (.bool false)∧R w2∧Fr S w' w2):
 Calls Tryz.prog 146 #[.pointer (some ⟨bt,0,none⟩),.pointer (some ⟨bm,0,none⟩),.pointer (some ⟨bw,0,none⟩)] w fun e w'=>e=.returned (.tuple #[])∧QT w' pM pW pm pc pw n who ve c ent mat f k v∧R w'∧Fr (pM::pW::S) w w':=by
 obtain ⟨xt,xm,xw,xn⟩:=B
 have HCS:=hid HC
 have B:Bag (pM::pW::S) w [tRo false pM _ _,tW pW n f who _,tRo false bt _ _,tRo false bm _ _,tRo false bw _ _] w:=(Q07 hMB hW hne ⟨xt,xm,xw,xn⟩ hB).mono (by simp)
 dsimp only [Qa.cells] at B
 clear hMB hW hne HC xt xm xw xn hB
 go_in
 go_wp2_with fail
 refine rgf B fun _ fc B=> ?_
 iterate 5 refine tb ?_
 refine tc 5 fun K hK=> ?_
 go_simp
 refine (HCS.out _ fc).mono ?_
 rintro e w1 ⟨rfl,hr,f1⟩
 replace B:=Kc B f1 (by intro x hx;simp [hx]) (fun b hb=>⟨(hD b hb).1,(hD b hb).2.1⟩) hDB
 go_wp2_with fail
 refine bk hK ?_
 clear hK K
 try go_frame
 refine wpAnyH_done (by decide+kernel) ?_ _
 go_wp2
 first
  |go_end0
  |(try simp only [Exit.inBlock,Exit.then]
    refine bodyPost_ret (results_none rfl _ _ _) rfl ?_)
 exact ⟨rfl,⟨B.g 0,B.g 1⟩,hr,B.fr⟩
theorem Q5b (hMB:QB w pM pW pm pc pw n ve c ent mat) (hW:QA w pW n (upd f who (k.cells v))) (hk:who<n) (hne:pM≠pW) (p:Nat) (R:World→Prop) (S:List Nat) (hST:Xa R pM pW ve) (hD:∀b∈S,b≠pM∧b≠pW∧ve.ownBlock≠some b) (hve:∀b,ve.ownBlock=some b→b≠pM∧b≠pW) (bt bm bw:Nat) (B:ZV w bt bm bw pM p who 156) (hB:(bt≠pM∧bt≠pW)∧(bm≠pM∧bm≠pW)∧(bw≠pM∧bw≠pW)) (hDB:∀b∈S,b≠bt∧b≠bm∧b≠bw) (HC:∀w',Fr [] w w'→Calls Tryz.prog 147 #[.pointer (some ⟨p,0,none⟩),.pointer (some ⟨pm,0,none⟩)] w' fun e w2=>e=.returned (.bool true)∧R w2∧Fr S w' w2) (en sn:Int) (HA:∀w',R w'→Calls Tryz.prog 148 #[.pointer (some ⟨p,0,none⟩)] w' fun e w2=>e=.returned (.tuple #[.int .i64 en,.bool true])∧Fr [] w' w2):
 Calls Tryz.prog 146 #[.pointer (some ⟨bt,0,none⟩),.pointer (some ⟨bm,0,none⟩),.pointer (some ⟨bw,0,none⟩)] w fun e w'=>e=.returned (.tuple #[])∧∃p2,w.heap.size≤p2∧Jq w' p2 none none c (QG who)∧QT w' pM pW pm pc pw n who ve c ent mat f (k.end_ who {ev0 with e:=en}) {v with vd:=.pointer (some ⟨p2,0,none⟩)}∧R w'∧Fr (pM::pW::S) w w':=by
 have HEN:=hid fun w' k' h1 h2=>Z4 w' pM pW pm pc pw n who ve c ent mat f k' v h1 h2 hk hne {ev0 with e:=en}
 obtain ⟨xt,xm,xw,xn⟩:=B
 have HCS:=hid HC
 have B:Bag (pM::pW::S) w [tRo false pM _ _,tW pW n f who _,tRo false bt _ _,tRo false bm _ _,tRo false bw _ _] w:=(Q07 hMB hW hne ⟨xt,xm,xw,xn⟩ hB).mono (by simp)
 dsimp only [Qa.cells] at B
 clear hMB hW hne HC xt xm xw xn hB
 go_in
 go_wp2_with fail
 refine rgf B fun _ fc B=> ?_
 iterate 5 refine tb ?_
 refine tc 5 fun K hK=> ?_
 go_simp
 refine (HCS.out _ fc).mono ?_
 rintro e w1 ⟨rfl,hr,f1⟩
 replace B:=Kc B f1 (by intro x hx;simp [hx]) (fun b hb=>⟨(hD b hb).1,(hD b hb).2.1⟩) hDB
 go_wp2_with fail
 refine bk hK ?_
 clear hK K
 try go_frame
 refine wpAnyH_done (by decide+kernel) ?_ _
 have q2:=B.q 2
 go_wp2_with fail
 clear q2
 refine (HA _ hr).mono ?_
 rintro e w2 ⟨rfl,f2⟩
 replace hr:=hST.go hr f2
 replace B:=B.tm f2
 have q3:=B.q 3;have q4:=B.q 4
 go_wp2_with fail
 refine (HEN.out _ k (B.g 0) (B.g 1)).mono ?_
 rintro e w9 ⟨rfl,p2,hp,ht,hmp,f9⟩
 go_wp2_with fail
 first
  |go_end0
  |(try simp only [Exit.inBlock,Exit.then]
    refine bodyPost_ret (results_none rfl _ _ _) rfl ?_)
 exact ⟨rfl,p2,Nat.le_trans B.fr.size hp,ht,hmp,hST.go hr f9,B.fr.then f9 (fun x hx=>.inl (by simp at hx;simp [hx]))⟩
theorem Q2G (hMB:QB w pM pW pm pc pw n ve c ent mat) (hW:QA w pW n (upd f who (k.cells v))) (hk:who<n) (hne:pM≠pW) (p:Nat) (R:World→Prop) (S:List Nat) (hST:Xa R pM pW ve) (hD:∀b∈S,b≠pM∧b≠pW∧ve.ownBlock≠some b) (hve:∀b,ve.ownBlock=some b→b≠pM∧b≠pW) (bt bm bw:Nat) (B:ZV w bt bm bw pM p who 159) (hB:(bt≠pM∧bt≠pW)∧(bm≠pM∧bm≠pW)∧(bw≠pM∧bw≠pW)) (hDB:∀b∈S,b≠bt∧b≠bm∧b≠bw) (HC:∀w',Fr [] w w'→Calls Tryz.prog 150 #[.pointer (some ⟨p,0,none⟩),.pointer (some ⟨pm,0,none⟩)] w' fun e w2=>e=.returned (.bool false)∧R w2∧Fr S w' w2):
 Calls Tryz.prog 149 #[.pointer (some ⟨bt,0,none⟩),.pointer (some ⟨bm,0,none⟩),.pointer (some ⟨bw,0,none⟩)] w fun e w'=>e=.returned (.tuple #[])∧QT w' pM pW pm pc pw n who ve c ent mat f k v∧R w'∧Fr (pM::pW::S) w w':=by
 obtain ⟨xt,xm,xw,xn⟩:=B
 have HCS:=hid HC
 have B:Bag (pM::pW::S) w [tRo false pM _ _,tW pW n f who _,tRo false bt _ _,tRo false bm _ _,tRo false bw _ _] w:=(Q07 hMB hW hne ⟨xt,xm,xw,xn⟩ hB).mono (by simp)
 dsimp only [Qa.cells] at B
 clear hMB hW hne HC xt xm xw xn hB
 go_in
 go_wp2_with fail
 refine rgf B fun _ fc B=> ?_
 iterate 5 refine tb ?_
 refine tc 5 fun K hK=> ?_
 go_simp
 refine (HCS.out _ fc).mono ?_
 rintro e w1 ⟨rfl,hr,f1⟩
 replace B:=Kc B f1 (by intro x hx;simp [hx]) (fun b hb=>⟨(hD b hb).1,(hD b hb).2.1⟩) hDB
 go_wp2_with fail
 refine bk hK ?_
 clear hK K
 try go_frame
 refine wpAnyH_done (by decide+kernel) ?_ _
 go_wp2
 first
  |go_end0
  |(try simp only [Exit.inBlock,Exit.then]
    refine bodyPost_ret (results_none rfl _ _ _) rfl ?_)
 exact ⟨rfl,⟨B.g 0,B.g 1⟩,hr,B.fr⟩
theorem Q14 (hMB:QB w pM pW pm pc pw n ve c ent mat) (hW:QA w pW n (upd f who (k.cells v))) (hk:who<n) (hne:pM≠pW) (p:Nat) (R:World→Prop) (S:List Nat) (hST:Xa R pM pW ve) (hD:∀b∈S,b≠pM∧b≠pW∧ve.ownBlock≠some b) (hve:∀b,ve.ownBlock=some b→b≠pM∧b≠pW) (bt bm bw:Nat) (B:ZV w bt bm bw pM p who 159) (hB:(bt≠pM∧bt≠pW)∧(bm≠pM∧bm≠pW)∧(bw≠pM∧bw≠pW)) (hDB:∀b∈S,b≠bt∧b≠bm∧b≠bw) (HC:∀w',Fr [] w w'→Calls Tryz.prog 150 #[.pointer (some ⟨p,0,none⟩),.pointer (some ⟨pm,0,none⟩)] w' fun e w2=>e=.returned (.bool true)∧R w2∧Fr S w' w2) (en sn:Int) (HA:∀w',R w'→Calls Tryz.prog 151 #[.pointer (some ⟨p,0,none⟩)] w' fun e w2=>e=.returned (.tuple #[.int .i64 en,.int .i64 sn,.bool true])∧Fr [] w' w2):
 Calls Tryz.prog 149 #[.pointer (some ⟨bt,0,none⟩),.pointer (some ⟨bm,0,none⟩),.pointer (some ⟨bw,0,none⟩)] w fun e w'=>e=.returned (.tuple #[])∧∃p2,w.heap.size≤p2∧Jq w' p2 none none c (QG who)∧QT w' pM pW pm pc pw n who ve c ent mat f (k.end_ who {ev0 with e:=en,stream:=sn}) {v with vd:=.pointer (some ⟨p2,0,none⟩)}∧R w'∧Fr (pM::pW::S) w w':=by
 have HEN:=hid fun w' k' h1 h2=>Z4 w' pM pW pm pc pw n who ve c ent mat f k' v h1 h2 hk hne {ev0 with e:=en,stream:=sn}
 obtain ⟨xt,xm,xw,xn⟩:=B
 have HCS:=hid HC
 have B:Bag (pM::pW::S) w [tRo false pM _ _,tW pW n f who _,tRo false bt _ _,tRo false bm _ _,tRo false bw _ _] w:=(Q07 hMB hW hne ⟨xt,xm,xw,xn⟩ hB).mono (by simp)
 dsimp only [Qa.cells] at B
 clear hMB hW hne HC xt xm xw xn hB
 go_in
 go_wp2_with fail
 refine rgf B fun _ fc B=> ?_
 iterate 5 refine tb ?_
 refine tc 5 fun K hK=> ?_
 go_simp
 refine (HCS.out _ fc).mono ?_
 rintro e w1 ⟨rfl,hr,f1⟩
 replace B:=Kc B f1 (by intro x hx;simp [hx]) (fun b hb=>⟨(hD b hb).1,(hD b hb).2.1⟩) hDB
 go_wp2_with fail
 refine bk hK ?_
 clear hK K
 try go_frame
 refine wpAnyH_done (by decide+kernel) ?_ _
 have q2:=B.q 2
 go_wp2_with fail
 clear q2
 refine (HA _ hr).mono ?_
 rintro e w2 ⟨rfl,f2⟩
 replace hr:=hST.go hr f2
 replace B:=B.tm f2
 have q3:=B.q 3;have q4:=B.q 4
 go_wp2_with fail
 refine (HEN.out _ k (B.g 0) (B.g 1)).mono ?_
 rintro e w9 ⟨rfl,p2,hp,ht,hmp,f9⟩
 go_wp2_with fail
 first
  |go_end0
  |(try simp only [Exit.inBlock,Exit.then]
    refine bodyPost_ret (results_none rfl _ _ _) rfl ?_)
 exact ⟨rfl,p2,Nat.le_trans B.fr.size hp,ht,hmp,hST.go hr f9,B.fr.then f9 (fun x hx=>.inl (by simp at hx;simp [hx]))⟩
end
section
open Go.RowKit Go.Shelf Go.Lib
attribute [local go_sem] Oper.semAt_some
variable (w:World) (pM pW pm pc pw n who:Nat) (ve:Value) (c:Q0) (ent mat:Int) (f:Nat→List Value) (k:Qa) (v:Ja)
structure WJ (w:World) (bt bm bw bf pM:Nat) (who:Int) (fc:Bool) (vq:Value):Prop where
 ft:w.heap[bt]?=some (.cells #[vq] 77 (0,0))
 fm:w.heap[bm]?=some (.cells #[.pointer (some ⟨pM,0,none⟩)] 28 (0,0))
 fw:w.heap[bw]?=some (.cells #[.int .i64 who] 3 (0,0))
 ff:w.heap[bf]?=some (.cells #[.bool fc] 4 (0,0))
 ne:bt≠bm∧bt≠bw∧bm≠bw∧bf≠bt∧bf≠bm∧bf≠bw
theorem WJ.ov {w w':World} {bt bm bw bf pM:Nat} {who:Int} {fc:Bool} {vq:Value} (h:WJ w bt bm bw bf pM who fc vq) {S:List Nat} (f:Fr S w w') (h1:bt∉S) (h2:bm∉S) (h3:bw∉S) (h4:bf∉S):WJ w' bt bm bw bf pM who fc vq:=⟨f.at h.ft h1,f.at h.fm h2,f.at h.fw h3,f.at h.ff h4,h.ne⟩
theorem Q2W (w:World) (pM:Nat) (who:Int) (fc:Bool):Calls Tryz.prog 107 #[.pointer (some ⟨pM,0,none⟩),.int .i64 who,.bool fc] w fun e w'=>∃bt bm bw bf,e=.returned (.func (.func 163) #[] #[.pointer (some ⟨bt,0,none⟩),.pointer (some ⟨bm,0,none⟩),.pointer (some ⟨bw,0,none⟩),.pointer (some ⟨bf,0,none⟩)])∧
 w.heap.size≤bt∧w.heap.size≤bm∧w.heap.size≤bw∧w.heap.size≤bf∧WJ w' bt bm bw bf pM who fc (.pointer none)∧Fr [] w w':=by
 go_in
 go_wp2
 go_ret
 generalize hw:World.alloc w _=w1,hb:(World.heap w).size=b
 generalize hw2:World.alloc w1 _=w2
 generalize hw3:World.alloc w2 _=w3
 generalize hw4:World.alloc w3 _=w4
 have B:=((Bag.nil [] w).al3 hw hb hw2 hw3).al (b:=b+1+1+1) hw4 (by rw [←hw3,World.size_alloc,←hw2,World.size_alloc,←hw,World.size_alloc,hb])
 exact ⟨_,_,_,_,rfl,by omega,by omega,by omega,by omega,⟨B.g 3,B.g 0,B.g 1,B.g 2,by omega⟩,B.fr⟩
theorem Q5e (hMB:QB w pM pW pm pc pw n ve c ent mat) (hW:QA w pW n (upd f who (k.cells v))) (hk:who<n) (hne:pM≠pW) (p:Nat) (R:World→Prop) (S:List Nat) (hST:Xa R pM pW ve) (hD:∀b∈S,b≠pM∧b≠pW∧ve.ownBlock≠some b) (hve:∀b,ve.ownBlock=some b→b≠pM∧b≠pW) (bt bm bw bf:Nat) (fc:Bool) (B:WJ w bt bm bw bf pM who fc (.pointer (some ⟨p,0,none⟩))) (hB:(bt≠pM∧bt≠pW)∧(bm≠pM∧bm≠pW)∧(bw≠pM∧bw≠pW)∧(bf≠pM∧bf≠pW)) (hDB:∀b∈S,b≠bt∧b≠bm∧b≠bw∧b≠bf) (HC:∀w',Fr [] w w'→Calls Tryz.prog 82 #[.pointer (some ⟨p,0,none⟩),.pointer (some ⟨pm,0,none⟩)] w' fun e w2=>e=.returned (.bool false)∧R w2∧Fr S w' w2):
 Calls Tryz.prog 163 #[.pointer (some ⟨bt,0,none⟩),.pointer (some ⟨bm,0,none⟩),.pointer (some ⟨bw,0,none⟩),.pointer (some ⟨bf,0,none⟩)] w fun e w'=>e=.returned (.tuple #[])∧QT w' pM pW pm pc pw n who ve c ent mat f k v∧R w'∧Fr (pM::pW::S) w w':=by
 obtain ⟨xt,xm,xw,xf,xn⟩:=B
 have HCS:=hid HC
 have B:Bag (pM::pW::S) w [tRo false pM _ _,tW pW n f who _,tRo false bt _ _,tRo false bm _ _,tRo false bw _ _] w:=(Q07 hMB hW hne ⟨xt,xm,xw,⟨xn.1,xn.2.1,xn.2.2.1⟩⟩ ⟨hB.1,hB.2.1,hB.2.2.1⟩).mono (by simp)
 dsimp only [Qa.cells] at B
 clear hMB hW hne HC xt xm xw xn xf hB
 have q2:=B.q 2
 go_in
 go_wp2_with fail
 clear q2
 refine rgf B fun _ fc B=> ?_
 iterate 5 refine tb ?_
 refine tc 5 fun K hK=> ?_
 go_simp
 refine (HCS.out _ fc).mono ?_
 rintro e w1 ⟨rfl,hr,f1⟩
 replace B:=Kc B f1 (by intro x hx;simp [hx]) (fun b hb=>⟨(hD b hb).1,(hD b hb).2.1⟩) (fun b hb=>⟨(hDB b hb).1,(hDB b hb).2.1,(hDB b hb).2.2.1⟩)
 go_wp2_with fail
 refine bk hK ?_
 clear hK K
 try go_frame
 refine wpAnyH_done (by decide+kernel) ?_ _
 go_wp2
 first
  |go_end0
  |(try simp only [Exit.inBlock,Exit.then]
    refine bodyPost_ret (results_none rfl _ _ _) rfl ?_)
 exact ⟨rfl,⟨B.g 0,B.g 1⟩,hr,B.fr⟩
theorem Q2V (hMB:QB w pM pW pm pc pw n ve c ent mat) (hW:QA w pW n (upd f who (k.cells v))) (hk:who<n) (hne:pM≠pW) (p:Nat) (R:World→Prop) (S:List Nat) (hST:Xa R pM pW ve) (hD:∀b∈S,b≠pM∧b≠pW∧ve.ownBlock≠some b) (hve:∀b,ve.ownBlock=some b→b≠pM∧b≠pW) (bt bm bw bf:Nat) (fc:Bool) (B:WJ w bt bm bw bf pM who fc (.pointer (some ⟨p,0,none⟩))) (hB:(bt≠pM∧bt≠pW)∧(bm≠pM∧bm≠pW)∧(bw≠pM∧bw≠pW)∧(bf≠pM∧bf≠pW)) (hDB:∀b∈S,b≠bt∧b≠bm∧b≠bw∧b≠bf) (HC:∀w',Fr [] w w'→Calls Tryz.prog 82 #[.pointer (some ⟨p,0,none⟩),.pointer (some ⟨pm,0,none⟩)] w' fun e w2=>e=.returned (.bool true)∧R w2∧Fr S w' w2):
 Calls Tryz.prog 163 #[.pointer (some ⟨bt,0,none⟩),.pointer (some ⟨bm,0,none⟩),.pointer (some ⟨bw,0,none⟩),.pointer (some ⟨bf,0,none⟩)] w fun e w'=>e=.returned (.tuple #[])∧∃p2,w.heap.size≤p2∧Jq w' p2 none none c (QG who)∧QT w' pM pW pm pc pw n who ve c ent mat f (k.end_ who ev0) {v with vd:=.pointer (some ⟨p2,0,none⟩)}∧R w'∧Fr (pM::pW::S) w w':=by
 have HEN:=hid fun w' k' h1 h2=>Z4 w' pM pW pm pc pw n who ve c ent mat f k' v h1 h2 hk hne ev0
 obtain ⟨xt,xm,xw,xf,xn⟩:=B
 have HCS:=hid HC
 have B:Bag (pM::pW::S) w [tRo false pM _ _,tW pW n f who _,tRo false bt _ _,tRo false bm _ _,tRo false bw _ _] w:=(Q07 hMB hW hne ⟨xt,xm,xw,⟨xn.1,xn.2.1,xn.2.2.1⟩⟩ ⟨hB.1,hB.2.1,hB.2.2.1⟩).mono (by simp)
 dsimp only [Qa.cells] at B
 clear hMB hW hne HC xt xm xw xn xf hB
 have q2:=B.q 2
 go_in
 go_wp2_with fail
 clear q2
 refine rgf B fun _ fc B=> ?_
 iterate 5 refine tb ?_
 refine tc 5 fun K hK=> ?_
 go_simp
 refine (HCS.out _ fc).mono ?_
 rintro e w1 ⟨rfl,hr,f1⟩
 replace B:=Kc B f1 (by intro x hx;simp [hx]) (fun b hb=>⟨(hD b hb).1,(hD b hb).2.1⟩) (fun b hb=>⟨(hDB b hb).1,(hDB b hb).2.1,(hDB b hb).2.2.1⟩)
 go_wp2_with fail
 refine bk hK ?_
 clear hK K
 try go_frame
 refine wpAnyH_done (by decide+kernel) ?_ _
 have q3:=B.q 3;have q4:=B.q 4
 go_wp2_with fail
 refine (HEN.out _ k (B.g 0) (B.g 1)).mono ?_
 rintro e w9 ⟨rfl,p2,hp,ht,hmp,f9⟩
 go_wp2_with fail
 first
  |go_end0
  |(try simp only [Exit.inBlock,Exit.then]
    refine bodyPost_ret (results_none rfl _ _ _) rfl ?_)
 exact ⟨rfl,p2,Nat.le_trans B.fr.size hp,ht,hmp,hST.go hr f9,B.fr.then f9 (fun x hx=>.inl (by simp at hx;simp [hx]))⟩
theorem ER (hMB:QB w pM pW pm pc pw n ve c ent mat) (hW:QA w pW n (upd f who (k.cells v))) (hk:who<n) (hne:pM≠pW) (bt bm bw bf:Nat) (fc:Bool) (B:WJ w bt bm bw bf pM who fc (.pointer none)) (hB:(bt≠pM∧bt≠pW)∧(bm≠pM∧bm≠pW)∧(bw≠pM∧bw≠pW)∧(bf≠pM∧bf≠pW)) (qm:Nat) (M:List Int) (N:Int) (hM:Ql w pm qm M N) (hN:N≤1000000000) (hne2:(pm≠pM∧pm≠pW∧qm≠pM∧qm≠pW)∧(bt≠pm∧bt≠qm∧bm≠pm∧bm≠qm)) (hfc:fc=true):
 Calls Tryz.prog 163 #[.pointer (some ⟨bt,0,none⟩),.pointer (some ⟨bm,0,none⟩),.pointer (some ⟨bw,0,none⟩),.pointer (some ⟨bf,0,none⟩)] w fun e w'=>e=.returned (.tuple #[])∧∃q,w.heap.size≤q∧w'.heap[bt]?=some (.cells #[.pointer (some ⟨q,0,none⟩)] 77 (0,0))∧J9 w' q c XV∧QT w' pM pW pm pc pw n who ve c ent mat f k v∧Ql w' pm qm (Qz M 0 2) (N+1)∧Fr [bt,pm,qm] w w':=by
 subst hfc
 have HST2:=hid fun w' h=>Vz w' pm qm M N 0 2 h hN
 have HDR:=hid fun w'=>E8 w' c
 unfold Q0.val at HDR
 have B0:Bag [bt,pm,qm] w [tRo false pM _ _,tR bt _ _,tRo false bm _ _,tM pm qm M N] w:=Bag.of (by simp only [List.forall_mem_cons];exact ⟨hMB,B.ft,B.fm,hM,by simp⟩)
  (by simp;exact ⟨⟨Ne.symm hB.1.1,Ne.symm hB.2.1.1,Ne.symm hne2.1.1,Ne.symm hne2.1.2.2.1⟩,⟨B.ne.1,hne2.2.1,hne2.2.2.1⟩,⟨hne2.2.2.2.1,hne2.2.2.2.2⟩,hM.ne⟩)
  (by have:=Q6 hMB;have:=Q6 B.ft;have:=Q6 B.fm;have:=hM.plt;have:=hM.qlt;simp;omega) (by simp)
 have HP:∀{w'},QB w' pM pW pm pc pw n ve c ent mat→Fr [bt,pm,qm] w w'→QT w' pM pW pm pc pw n who ve c ent mat f k v:=fun a g=>⟨a,hW.fr g (by simp;exact ⟨Ne.symm hB.1.2,Ne.symm hne2.1.2.1,Ne.symm hne2.1.2.2.2⟩)⟩
 have qf:=(Bag.one B.ff).q 0
 replace B:=B0
 clear hMB hM hB hne2 hW B0
 have q1:=B.q 1;have q2:=B.q 2;have m:=B.q 0
 go_in
 go_wp2_with fail
 clear q1 q2 m qf
 refine (HST2.out _ (B.g 3)).mono ?_
 rintro e w1 ⟨rfl,h,f1⟩
 replace B:=B.up 3 (T':=tM pm qm _ _) h f1
 have q2:=B.q 2;have m:=B.q 0
 go_wp2_with fail
 clear q2 m
 refine (HDR.out _).mono ?_
 rintro e w2 ⟨q,rfl,hq,ht,f2⟩
 have hqs:=Nat.le_trans B.fr.size hq
 replace B:=B.nw (T':=tQu q c _) ht f2 (fun x hx=>by simp at hx;subst hx;exact ⟨hq,Q6 ht⟩)
 have q1:=B.q 1;have u:=B.u 1
 go_wp2_with fail
 clear q1 u
 generalize hw:World.setCell _ _ _=w3
 replace B:=(B.s 1).e hw
 first
  |go_end0
  |(try simp only [Exit.inBlock,Exit.then]
    refine bodyPost_ret (results_none rfl _ _ _) rfl ?_)
 exact ⟨rfl,q,hqs,B.g 1,B.g 4,HP (B.g 0) B.fr,B.g 3,B.fr⟩
theorem Q1f (hMB:QB w pM pW pm pc pw n ve c ent mat) (hW:QA w pW n (upd f who (k.cells v))) (hk:who<n) (hne:pM≠pW) (bt bm bw bf:Nat) (fc:Bool) (B:WJ w bt bm bw bf pM who fc (.pointer none)) (hB:(bt≠pM∧bt≠pW)∧(bm≠pM∧bm≠pW)∧(bw≠pM∧bw≠pW)∧(bf≠pM∧bf≠pW)) (qm:Nat) (M:List Int) (N:Int) (hM:Ql w pm qm M N) (hN:N≤1000000000) (hne2:(pm≠pM∧pm≠pW∧qm≠pM∧qm≠pW)∧(bt≠pm∧bt≠qm∧bm≠pm∧bm≠qm)) (hfc:fc=false):
 Calls Tryz.prog 163 #[.pointer (some ⟨bt,0,none⟩),.pointer (some ⟨bm,0,none⟩),.pointer (some ⟨bw,0,none⟩),.pointer (some ⟨bf,0,none⟩)] w fun e w'=>e=.returned (.tuple #[])∧∃q,w.heap.size≤q∧w'.heap[bt]?=some (.cells #[.pointer (some ⟨q,0,none⟩)] 77 (0,0))∧J9 w' q c XV∧QT w' pM pW pm pc pw n who ve c ent mat f k v∧Ql w' pm qm (QL M 0 0 1) (N+1)∧Fr [bt,pm,qm] w w':=by
 subst hfc
 have HST2:=hid fun w' h=>UH w' pm qm M N 0 0 1 h hN
 have HDR:=hid fun w'=>E8 w' c
 unfold Q0.val at HDR
 have B0:Bag [bt,pm,qm] w [tRo false pM _ _,tR bt _ _,tRo false bm _ _,tM pm qm M N] w:=Bag.of (by simp only [List.forall_mem_cons];exact ⟨hMB,B.ft,B.fm,hM,by simp⟩)
  (by simp;exact ⟨⟨Ne.symm hB.1.1,Ne.symm hB.2.1.1,Ne.symm hne2.1.1,Ne.symm hne2.1.2.2.1⟩,⟨B.ne.1,hne2.2.1,hne2.2.2.1⟩,⟨hne2.2.2.2.1,hne2.2.2.2.2⟩,hM.ne⟩)
  (by have:=Q6 hMB;have:=Q6 B.ft;have:=Q6 B.fm;have:=hM.plt;have:=hM.qlt;simp;omega) (by simp)
 have HP:∀{w'},QB w' pM pW pm pc pw n ve c ent mat→Fr [bt,pm,qm] w w'→QT w' pM pW pm pc pw n who ve c ent mat f k v:=fun a g=>⟨a,hW.fr g (by simp;exact ⟨Ne.symm hB.1.2,Ne.symm hne2.1.2.1,Ne.symm hne2.1.2.2.2⟩)⟩
 have qf:=(Bag.one B.ff).q 0
 replace B:=B0
 clear hMB hM hB hne2 hW B0
 have q1:=B.q 1;have q2:=B.q 2;have m:=B.q 0
 go_in
 go_wp2_with fail
 clear q1 q2 m qf
 refine (HST2.out _ (B.g 3)).mono ?_
 rintro e w1 ⟨rfl,h,f1⟩
 replace B:=B.up 3 (T':=tM pm qm _ _) h f1
 have q2:=B.q 2;have m:=B.q 0
 go_wp2_with fail
 clear q2 m
 refine (HDR.out _).mono ?_
 rintro e w2 ⟨q,rfl,hq,ht,f2⟩
 have hqs:=Nat.le_trans B.fr.size hq
 replace B:=B.nw (T':=tQu q c _) ht f2 (fun x hx=>by simp at hx;subst hx;exact ⟨hq,Q6 ht⟩)
 have q1:=B.q 1;have u:=B.u 1
 go_wp2_with fail
 clear q1 u
 generalize hw:World.setCell _ _ _=w3
 replace B:=(B.s 1).e hw
 first
  |go_end0
  |(try simp only [Exit.inBlock,Exit.then]
    refine bodyPost_ret (results_none rfl _ _ _) rfl ?_)
 exact ⟨rfl,q,hqs,B.g 1,B.g 4,HP (B.g 0) B.fr,B.g 3,B.fr⟩
end
section
open Go.RowKit Go.Shelf Go.Lib
attribute [local go_sem] Oper.semAt_some
variable {w:World} {pM pW pm pc pw n who:Nat} {ve:Value} {c:Q0} {ent mat:Int} {f:Nat→List Value} {k:Qa} {v:Ja} {p:Nat} {R:World→Prop} {S:List Nat} {bt bm bw:Nat} {LW:List Nat} {RW:World→Prop} {di good dn:Bool}
structure Q1T (w:World) (pM pW pm pc pw n who:Nat) (ve:Value) (c:Q0) (ent mat:Int) (f:Nat→List Value) (k:Qa) (v:Ja) (p:Nat) (R:World→Prop) (S:List Nat) (bt bm bw:Nat) (LW:List Nat) (RW:World→Prop) (di good dn:Bool):Prop where
 mb:QB w pM pW pm pc pw n ve c ent mat
 wr:QA w pW n (upd f who (k.cells v))
 hk:who<n
 ne:pM≠pW
 st:Xa R pM pW ve
 dS:∀b∈S,b≠pM∧b≠pW∧ve.ownBlock≠some b
 bx:ZV w bt bm bw pM p who 134
 dB:(bt≠pM∧bt≠pW)∧(bm≠pM∧bm≠pW)∧(bw≠pM∧bw≠pW)
 dSB:∀b∈S,b≠bt∧b≠bm∧b≠bw
 sw:∀(L:List Nat) (w1 w2:World),Fr L w1 w2→(∀b∈L,b∈S∨b=pM∨b=pW)→RW w1→RW w2
 dW:∀b∈LW,b≠pM∧b≠pW∧b≠bt∧b≠bm∧b≠bw
 nd:di=false→good=false∧RW w
 hd:Calls Tryz.prog 114 #[.pointer (some ⟨p,0,none⟩)] w fun e w'=>e=.returned (.bool di)∧Fr [] w w'
 wn:di=true→∀w',Fr [] w w'→Calls Tryz.prog 115 #[.pointer (some ⟨pw,0,none⟩)] w' fun e w2=>e=.returned (.bool good)∧RW w2∧Fr LW w' w2
 hc:∀w',Fr LW w w'→Calls Tryz.prog 116 #[.pointer (some ⟨p,0,none⟩),.pointer (some ⟨pm,0,none⟩),.bool good] w' fun e w2=>e=.returned (.bool dn)∧R w2∧Fr S w' w2
theorem Q9q {P:Prop} (h:P:=by
 obtain ⟨hMB,hW,hk,hne,hST,hD,⟨xt,xm,xw,xn⟩,hB,hDB,hSW,hDW,hnd,HDI,HWN,HC⟩:=H
 have B:Bag (pM::pW::(S++LW)) w [tRo false pM _ _,tW pW n f who _,tRo false bt _ _,tRo false bm _ _,tRo false bw _ _] w:=(Q07 hMB hW hne ⟨xt,xm,xw,xn⟩ hB).mono (by simp)
 dsimp only [Qa.cells] at B
 clear hMB hW hne xt xm xw xn hB
 have ha1:∀j:Nat,who*35+1+j=who*35+(1+j):=fun j=>Nat.add_assoc _ _ _
 have q2:=B.q 2
 cases di
 all_goals
  go_in
  go_wp2_with fail
  clear q2
  refine HDI.mono ?_
  rintro e w1 ⟨rfl,f1⟩
  replace B:=B.tm f1
 obtain ⟨rfl,hrw⟩:=hnd (by simp)
 have fw:=f1.mono (S':=LW) (by simp)
 replace hrw:=hSW _ _ _ f1 (by simp) hrw
 rotate_left
 have q3:=B.q 3;have m:=B.q 0
 go_wp2_with fail
 clear q3 m
 refine (HWN (by simp) _ f1).mono ?_
 rintro e w2 ⟨rfl,hrw,f2⟩
 replace B:=Kc B f2 (by intro x hx;simp [hx]) (fun b hb=>⟨(hDW b hb).1,(hDW b hb).2.1⟩) (fun b hb=>(hDW b hb).2.2)
 have fw:=(f1.mono (S':=LW) (by simp)).trans f2
 all_goals
  go_wp2_with fail
  refine rgf B fun _ fc B=> ?_
  iterate 6 refine tb ?_
  refine tc 6 fun K hK=> ?_
  go_simp
  refine (HC _ (fw.trans (fc.mono (by simp)))).mono ?_
  rintro e w3 ⟨rfl,hr,f3⟩
  replace B:=Kc B f3 (by intro x hx;simp [hx]) (fun b hb=>⟨(hD b hb).1,(hD b hb).2.1⟩) hDB
  replace hrw:=hSW _ _ _ f3 (fun b hb=>.inl hb) (hSW _ _ _ fc (by simp) hrw)
  go_wp2_with fail
  refine bk hK ?_
  clear hK K
  try go_frame
  refine tb ?_
  refine wpAnyH_done (by decide+kernel) ?_ _
  have q2:=B.q 2
  go_wp2_with fail
  clear q2
  first
   |(refine (HA _ hr).mono ?_
     rintro e w4 ⟨rfl,f4⟩
     replace hr:=hST.go hr f4
     replace hrw:=hSW _ _ _ f4 (by simp) hrw
     replace B:=B.tm f4
     go_wp2_with fail
     refine rgf B fun _ fc4 B=> ?_
     replace hr:=hST.go hr fc4
     replace hrw:=hSW _ _ _ fc4 (by simp) hrw
     repeat first|refine tb ?_|refine tv ?_
     refine wpAnyH_done (by decide+kernel) ?_ _
     have q3:=B.q 3;have q4:=B.q 4
     go_wp2_with fail
     refine (HEN.out _ k (B.g 0) (B.g 1)).mono ?_
     rintro e w9 ⟨rfl,p2,hp,ht,hmp,f9⟩
     go_wp2_with fail
     first
      |go_end0
      |(try simp only [Exit.inBlock,Exit.then]
        refine bodyPost_ret (results_none rfl _ _ _) rfl ?_)
     exact ⟨rfl,p2,Nat.le_trans B.fr.size hp,ht,hmp,hST.go hr f9,hSW _ _ _ f9 (by simp) hrw,B.fr.then f9 (fun x hx=>.inl (by simp at hx;simp [hx]))⟩)
   |(first
      |go_end0
      |(try simp only [Exit.inBlock,Exit.then]
        refine bodyPost_ret (results_none rfl _ _ _) rfl ?_)
     exact ⟨rfl,⟨B.g 0,B.g 1⟩,hr,hrw,B.fr⟩)):P:=h
theorem Q96 (H:Q1T w pM pW pm pc pw n who ve c ent mat f k v p R S bt bm bw LW RW di good false):
 Calls Tryz.prog 113 #[.pointer (some ⟨bt,0,none⟩),.pointer (some ⟨bm,0,none⟩),.pointer (some ⟨bw,0,none⟩)] w fun e w'=>e=.returned (.tuple #[])∧QT w' pM pW pm pc pw n who ve c ent mat f k v∧R w'∧RW w'∧Fr (pM::pW::(S++LW)) w w':=Q9q
theorem Q79 (H:Q1T w pM pW pm pc pw n who ve c ent mat f k v p R S bt bm bw LW RW di good true) (en ai ag:Int) (HA:∀w',R w'→Calls Tryz.prog 117 #[.pointer (some ⟨p,0,none⟩)] w' fun e w2=>e=.returned (.tuple #[.int .i64 en,.int .i64 ai,.int .i64 ag])∧Fr [] w' w2) (hen:en≠3):
 Calls Tryz.prog 113 #[.pointer (some ⟨bt,0,none⟩),.pointer (some ⟨bm,0,none⟩),.pointer (some ⟨bw,0,none⟩)] w fun e w'=>e=.returned (.tuple #[])∧∃p2,w.heap.size≤p2∧Jq w' p2 none none c (QG who)∧QT w' pM pW pm pc pw n who ve c ent mat f (k.end_ who {ev0 with e:=en,slot:=ai,gen:=ag}) {v with vd:=.pointer (some ⟨p2,0,none⟩)}∧R w'∧RW w'∧Fr (pM::pW::(S++LW)) w w':=by
 have HEN:=hid fun w' k' h1 h2=>Z4 w' pM pW pm pc pw n who ve c ent mat f k' v h1 h2 H.hk H.ne {ev0 with e:=en,slot:=ai,gen:=ag}
 have h3:(en==3)=false:=by simp [hen]
 exact Q9q
theorem Q5c (H:Q1T w pM pW pm pc pw n who ve c ent mat f k v p R S bt bm bw LW RW di good true) (ai ag:Int) (HA:∀w',R w'→Calls Tryz.prog 117 #[.pointer (some ⟨p,0,none⟩)] w' fun e w2=>e=.returned (.tuple #[.int .i64 3,.int .i64 ai,.int .i64 ag])∧Fr [] w' w2) (hw:k.ask.wait=true):
 Calls Tryz.prog 113 #[.pointer (some ⟨bt,0,none⟩),.pointer (some ⟨bm,0,none⟩),.pointer (some ⟨bw,0,none⟩)] w fun e w'=>e=.returned (.tuple #[])∧∃p2,w.heap.size≤p2∧J9 w' p2 c (XU who)∧QT w' pM pW pm pc pw n who ve c ent mat f ({k with qu:=some (XU who),st:=4}) {v with vq:=.pointer (some ⟨p2,0,none⟩)}∧R w'∧RW w'∧Fr (pM::pW::(S++LW)) w w':=by
 have HEN:=hid fun w' k' h1 h2=>Q4Y w' pM pW pm pc pw n who ve c ent mat f k' v h1 h2 H.hk H.ne
 exact Q9q
theorem Q2Q (H:Q1T w pM pW pm pc pw n who ve c ent mat f k v p R S bt bm bw LW RW di good true) (ai ag:Int) (HA:∀w',R w'→Calls Tryz.prog 117 #[.pointer (some ⟨p,0,none⟩)] w' fun e w2=>e=.returned (.tuple #[.int .i64 3,.int .i64 ai,.int .i64 ag])∧Fr [] w' w2) (hw:k.ask.wait=false):
 Calls Tryz.prog 113 #[.pointer (some ⟨bt,0,none⟩),.pointer (some ⟨bm,0,none⟩),.pointer (some ⟨bw,0,none⟩)] w fun e w'=>e=.returned (.tuple #[])∧∃p2,w.heap.size≤p2∧Yu w' p2 c (.slice none 0 0) (.slice none 0 0) [] [] 0 false∧QT w' pM pW pm pc pw n who ve c ent mat f ({k with tw:=some Y4,st:=3}) {v with vt:=.pointer (some ⟨p2,0,none⟩)}∧R w'∧RW w'∧Fr (pM::pW::(S++LW)) w w':=by
 have HEN:=hid fun w' k' h1 h2=>Q2U w' pM pW pm pc pw n who ve c ent mat f k' v h1 h2 H.hk H.ne
 exact Q9q
end
end Go.Proofs.YtgjklfmnmljilaaGreatDoor
