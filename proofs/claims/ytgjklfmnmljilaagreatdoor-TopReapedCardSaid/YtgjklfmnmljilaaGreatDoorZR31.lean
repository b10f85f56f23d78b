/- A part of the proof. -/
import Derived.Test.YtgjklfmnmljilaaGreatDoorZR30
namespace Go.Proofs.YtgjklfmnmljilaaGreatDoor
set_option linter.unusedVariables false
set_option linter.unusedSimpArgs false
set_option linter.unusedSectionVars false
set_option linter.unnecessarySimpa false
set_option maxRecDepth 100000
set_option maxHeartbeats 8000000
section
open Go.RowKit Go.Shelf Go.Lib
attribute [local go_sem] Oper.semAt_some
variable (w:World) (pM pW pm pc pw n who:Nat) (ve:Value) (c:Q0) (ent mat:Int) (f:Nat→List Value) (k:Q8) (v:Je)
structure Wu (w:World) (bt bm bw bf pM:Nat) (who:Int) (fc:Bool) (vq:Value):Prop where
 ft:w.heap[bt]?=some (.cells #[vq] 77 (0,0))
 fm:w.heap[bm]?=some (.cells #[.pointer (some ⟨pM,0,none⟩)] 28 (0,0))
 fw:w.heap[bw]?=some (.cells #[.int .i64 who] 3 (0,0))
 ff:w.heap[bf]?=some (.cells #[.bool fc] 4 (0,0))
 ne:bt≠bm∧bt≠bw∧bm≠bw∧bf≠bt∧bf≠bm∧bf≠bw
theorem Wu.ov {w w':World} {bt bm bw bf pM:Nat} {who:Int} {fc:Bool} {vq:Value} (h:Wu w bt bm bw bf pM who fc vq) {S:List Nat} (f:Fr S w w') (h1:bt∉S) (h2:bm∉S) (h3:bw∉S) (h4:bf∉S):Wu w' bt bm bw bf pM who fc vq:=⟨f.at h.ft h1,f.at h.fm h2,f.at h.fw h3,f.at h.ff h4,h.ne⟩
theorem Q2H (w:World) (pM:Nat) (who:Int) (fc:Bool):Calls Tryz.prog 107 #[.pointer (some ⟨pM,0,none⟩),.int .i64 who,.bool fc] w fun e w'=>∃bt bm bw bf,e=.returned (.func (.func 163) #[] #[.pointer (some ⟨bt,0,none⟩),.pointer (some ⟨bm,0,none⟩),.pointer (some ⟨bw,0,none⟩),.pointer (some ⟨bf,0,none⟩)])∧
 w.heap.size≤bt∧w.heap.size≤bm∧w.heap.size≤bw∧w.heap.size≤bf∧Wu w' bt bm bw bf pM who fc (.pointer none)∧Fr [] w w':=by
 go_in
 go_wp2
 go_ret
 generalize hw:World.alloc w _=w1,hb:(World.heap w).size=b
 generalize hw2:World.alloc w1 _=w2
 generalize hw3:World.alloc w2 _=w3
 generalize hw4:World.alloc w3 _=w4
 have B:=((Bag.nil [] w).al3 hw hb hw2 hw3).al (b:=b+1+1+1) hw4 (by rw [←hw3,World.size_alloc,←hw2,World.size_alloc,←hw,World.size_alloc,hb])
 exact ⟨_,_,_,_,rfl,Lb,Lb,Lb,Lb,⟨B.g 3,B.g 0,B.g 1,B.g 2,Lb⟩,B.fr⟩
theorem Q4V (hMB:QG w pM pW pm pc pw n ve c ent mat) (hW:QL w pW n (upd f who (k.cells v))) (hk:who<n) (hne:pM≠pW) (p:Nat) (R:World→Prop) (S:List Nat) (hST:Xe R pM pW ve) (hD:∀b∈S,b≠pM∧b≠pW∧ve.ownBlock≠some b) (hve:∀b,ve.ownBlock=some b→b≠pM∧b≠pW) (bt bm bw bf:Nat) (fc:Bool) (B:Wu w bt bm bw bf pM who fc (.pointer (some ⟨p,0,none⟩))) (hB:(bt≠pM∧bt≠pW)∧(bm≠pM∧bm≠pW)∧(bw≠pM∧bw≠pW)∧(bf≠pM∧bf≠pW)) (hDB:∀b∈S,b≠bt∧b≠bm∧b≠bw∧b≠bf) (HC:∀w',Fr [] w w'→Calls Tryz.prog 82 #[.pointer (some ⟨p,0,none⟩),.pointer (some ⟨pm,0,none⟩)] w' fun e w2=>e=.returned (.bool false)∧R w2∧Fr S w' w2):
 Calls Tryz.prog 163 #[.pointer (some ⟨bt,0,none⟩),.pointer (some ⟨bm,0,none⟩),.pointer (some ⟨bw,0,none⟩),.pointer (some ⟨bf,0,none⟩)] w fun e w'=>e=.returned (.tuple #[])∧QZ w' pM pW pm pc pw n who ve c ent mat f k v∧R w'∧Fr (pM::pW::S) w w':=by
 obtain ⟨xt,xm,xw,xf,xn⟩:=B
 have HCS:=hid HC
 have B:Bag (pM::pW::S) w [tRo false pM _ _,tW pW n f who _,tRo false bt _ _,tRo false bm _ _,tRo false bw _ _] w:=(EY hMB hW hne ⟨xt,xm,xw,⟨xn.1,xn.2.1,xn.2.2.1⟩⟩ ⟨hB.1,hB.2.1,hB.2.2.1⟩).mono Lc
 dsimp only [Q8.cells] at B
 clear hMB hW hne HC xt xm xw xn xf hB
 have q2:=B.q 2
 go_in
 go_wp2_with fail
 clear q2
 refine rgf B fun _ fc B=> ?_
 iterate 5 refine tb ?_
 refine tc 5 fun K hK=> ?_
 go_simp
 refine (HCS.out _ fc).mono ?_
 rintro e w1 ⟨rfl,hr,f1⟩
 replace B:=Kl B f1 (by intro x hx;simp [hx]) (fun b hb=>⟨(hD b hb).1,(hD b hb).2.1⟩) (fun b hb=>⟨(hDB b hb).1,(hDB b hb).2.1,(hDB b hb).2.2.1⟩)
 go_wp2_with fail
 refine bk hK ?_
 clear hK K
 try go_frame
 refine wpAnyH_done (by decide+kernel) ?_ _
 go_wp2
 first
  |go_end0
  |(try simp only [Exit.inBlock,Exit.then]
    refine bodyPost_ret (results_none rfl _ _ _) rfl ?_)
 exact ⟨rfl,⟨B.g 0,B.g 1⟩,hr,B.fr⟩
theorem Q2G (hMB:QG w pM pW pm pc pw n ve c ent mat) (hW:QL w pW n (upd f who (k.cells v))) (hk:who<n) (hne:pM≠pW) (p:Nat) (R:World→Prop) (S:List Nat) (hST:Xe R pM pW ve) (hD:∀b∈S,b≠pM∧b≠pW∧ve.ownBlock≠some b) (hve:∀b,ve.ownBlock=some b→b≠pM∧b≠pW) (bt bm bw bf:Nat) (fc:Bool) (B:Wu w bt bm bw bf pM who fc (.pointer (some ⟨p,0,none⟩))) (hB:(bt≠pM∧bt≠pW)∧(bm≠pM∧bm≠pW)∧(bw≠pM∧bw≠pW)∧(bf≠pM∧bf≠pW)) (hDB:∀b∈S,b≠bt∧b≠bm∧b≠bw∧b≠bf) (HC:∀w',Fr [] w w'→Calls Tryz.prog 82 #[.pointer (some ⟨p,0,none⟩),.pointer (some ⟨pm,0,none⟩)] w' fun e w2=>e=.returned (.bool true)∧R w2∧Fr S w' w2):
 Calls Tryz.prog 163 #[.pointer (some ⟨bt,0,none⟩),.pointer (some ⟨bm,0,none⟩),.pointer (some ⟨bw,0,none⟩),.pointer (some ⟨bf,0,none⟩)] w fun e w'=>e=.returned (.tuple #[])∧∃p2,w.heap.size≤p2∧Jy w' p2 none none c (Qz who)∧QZ w' pM pW pm pc pw n who ve c ent mat f (k.end_ who ev0) {v with vd:=.pointer (some ⟨p2,0,none⟩)}∧R w'∧Fr (pM::pW::S) w w':=by
 have HEN:=hid fun w' k' h1 h2=>XY w' pM pW pm pc pw n who ve c ent mat f k' v h1 h2 hk hne ev0
 obtain ⟨xt,xm,xw,xf,xn⟩:=B
 have HCS:=hid HC
 have B:Bag (pM::pW::S) w [tRo false pM _ _,tW pW n f who _,tRo false bt _ _,tRo false bm _ _,tRo false bw _ _] w:=(EY hMB hW hne ⟨xt,xm,xw,⟨xn.1,xn.2.1,xn.2.2.1⟩⟩ ⟨hB.1,hB.2.1,hB.2.2.1⟩).mono Lc
 dsimp only [Q8.cells] at B
 clear hMB hW hne HC xt xm xw xn xf hB
 have q2:=B.q 2
 go_in
 go_wp2_with fail
 clear q2
 refine rgf B fun _ fc B=> ?_
 iterate 5 refine tb ?_
 refine tc 5 fun K hK=> ?_
 go_simp
 refine (HCS.out _ fc).mono ?_
 rintro e w1 ⟨rfl,hr,f1⟩
 replace B:=Kl B f1 (by intro x hx;simp [hx]) (fun b hb=>⟨(hD b hb).1,(hD b hb).2.1⟩) (fun b hb=>⟨(hDB b hb).1,(hDB b hb).2.1,(hDB b hb).2.2.1⟩)
 go_wp2_with fail
 refine bk hK ?_
 clear hK K
 try go_frame
 refine wpAnyH_done (by decide+kernel) ?_ _
 have q3:=B.q 3;have q4:=B.q 4
 go_wp2_with fail
 refine (HEN.out _ k (B.g 0) (B.g 1)).mono ?_
 rintro e w9 ⟨rfl,p2,hp,ht,hmp,f9⟩
 go_wp2_with fail
 first
  |go_end0
  |(try simp only [Exit.inBlock,Exit.then]
    refine bodyPost_ret (results_none rfl _ _ _) rfl ?_)
 exact ⟨rfl,p2,Nat.le_trans B.fr.size hp,ht,hmp,hST.go hr f9,B.fr.then f9 (fun x hx=>.inl (by simp at hx;simp [hx]))⟩
theorem EG (hMB:QG w pM pW pm pc pw n ve c ent mat) (hW:QL w pW n (upd f who (k.cells v))) (hk:who<n) (hne:pM≠pW) (bt bm bw bf:Nat) (fc:Bool) (B:Wu w bt bm bw bf pM who fc (.pointer none)) (hB:(bt≠pM∧bt≠pW)∧(bm≠pM∧bm≠pW)∧(bw≠pM∧bw≠pW)∧(bf≠pM∧bf≠pW)) (qm:Nat) (M:List Int) (N:Int) (hM:Qm w pm qm M N) (hN:N≤1000000000) (hne2:(pm≠pM∧pm≠pW∧qm≠pM∧qm≠pW)∧(bt≠pm∧bt≠qm∧bm≠pm∧bm≠qm)) (hfc:fc=true):
 Calls Tryz.prog 163 #[.pointer (some ⟨bt,0,none⟩),.pointer (some ⟨bm,0,none⟩),.pointer (some ⟨bw,0,none⟩),.pointer (some ⟨bf,0,none⟩)] w fun e w'=>e=.returned (.tuple #[])∧∃q,w.heap.size≤q∧w'.heap[bt]?=some (.cells #[.pointer (some ⟨q,0,none⟩)] 77 (0,0))∧Jd w' q c XT∧QZ w' pM pW pm pc pw n who ve c ent mat f k v∧Qm w' pm qm (Qp M 0 2) (N+1)∧Fr [bt,pm,qm] w w':=by
 subst hfc
 have HST2:=hid fun w' h=>Vx w' pm qm M N 0 2 h hN
 have HDR:=hid fun w'=>DN w' c
 unfold Q0.val at HDR
 have B0:Bag [bt,pm,qm] w [tRo false pM _ _,tR bt _ _,tRo false bm _ _,tM pm qm M N] w:=Bag.of (by simp only [List.forall_mem_cons];exact ⟨hMB,B.ft,B.fm,hM,Lc⟩)
  (by simp;exact ⟨⟨Ne.symm hB.1.1,Ne.symm hB.2.1.1,Ne.symm hne2.1.1,Ne.symm hne2.1.2.2.1⟩,⟨B.ne.1,hne2.2.1,hne2.2.2.1⟩,⟨hne2.2.2.2.1,hne2.2.2.2.2⟩,hM.ne⟩)
  (by have:=Q9 hMB;have:=Q9 B.ft;have:=Q9 B.fm;have:=hM.plt;have:=hM.qlt;simp;omega) Lc
 have HP:∀{w'},QG w' pM pW pm pc pw n ve c ent mat→Fr [bt,pm,qm] w w'→QZ w' pM pW pm pc pw n who ve c ent mat f k v:=fun a g=>⟨a,hW.fr g (by simp;exact ⟨Ne.symm hB.1.2,Ne.symm hne2.1.2.1,Ne.symm hne2.1.2.2.2⟩)⟩
 have qf:=(Bag.one B.ff).q 0
 replace B:=B0
 clear hMB hM hB hne2 hW B0
 have q1:=B.q 1;have q2:=B.q 2;have m:=B.q 0
 go_in
 go_wp2_with fail
 clear q1 q2 m qf
 refine (HST2.out _ (B.g 3)).mono ?_
 rintro e w1 ⟨rfl,h,f1⟩
 replace B:=B.up 3 (T':=tM pm qm _ _) h f1
 have q2:=B.q 2;have m:=B.q 0
 go_wp2_with fail
 clear q2 m
 refine (HDR.out _).mono ?_
 rintro e w2 ⟨q,rfl,hq,ht,f2⟩
 have hqs:=Nat.le_trans B.fr.size hq
 replace B:=B.nw (T':=tQu q c _) ht f2 (fun x hx=>by simp at hx;subst hx;exact ⟨hq,Q9 ht⟩)
 have q1:=B.q 1;have u:=B.u 1
 go_wp2_with fail
 clear q1 u
 generalize hw:World.setCell _ _ _=w3
 replace B:=(B.s 1).e hw
 first
  |go_end0
  |(try simp only [Exit.inBlock,Exit.then]
    refine bodyPost_ret (results_none rfl _ _ _) rfl ?_)
 exact ⟨rfl,q,hqs,B.g 1,B.g 4,HP (B.g 0) B.fr,B.g 3,B.fr⟩
theorem Q12 (hMB:QG w pM pW pm pc pw n ve c ent mat) (hW:QL w pW n (upd f who (k.cells v))) (hk:who<n) (hne:pM≠pW) (bt bm bw bf:Nat) (fc:Bool) (B:Wu w bt bm bw bf pM who fc (.pointer none)) (hB:(bt≠pM∧bt≠pW)∧(bm≠pM∧bm≠pW)∧(bw≠pM∧bw≠pW)∧(bf≠pM∧bf≠pW)) (qm:Nat) (M:List Int) (N:Int) (hM:Qm w pm qm M N) (hN:N≤1000000000) (hne2:(pm≠pM∧pm≠pW∧qm≠pM∧qm≠pW)∧(bt≠pm∧bt≠qm∧bm≠pm∧bm≠qm)) (hfc:fc=false):
 Calls Tryz.prog 163 #[.pointer (some ⟨bt,0,none⟩),.pointer (some ⟨bm,0,none⟩),.pointer (some ⟨bw,0,none⟩),.pointer (some ⟨bf,0,none⟩)] w fun e w'=>e=.returned (.tuple #[])∧∃q,w.heap.size≤q∧w'.heap[bt]?=some (.cells #[.pointer (some ⟨q,0,none⟩)] 77 (0,0))∧Jd w' q c XT∧QZ w' pM pW pm pc pw n who ve c ent mat f k v∧Qm w' pm qm (QI M 0 0 1) (N+1)∧Fr [bt,pm,qm] w w':=by
 subst hfc
 have HST2:=hid fun w' h=>Uw w' pm qm M N 0 0 1 h hN
 have HDR:=hid fun w'=>DN w' c
 unfold Q0.val at HDR
 have B0:Bag [bt,pm,qm] w [tRo false pM _ _,tR bt _ _,tRo false bm _ _,tM pm qm M N] w:=Bag.of (by simp only [List.forall_mem_cons];exact ⟨hMB,B.ft,B.fm,hM,Lc⟩)
  (by simp;exact ⟨⟨Ne.symm hB.1.1,Ne.symm hB.2.1.1,Ne.symm hne2.1.1,Ne.symm hne2.1.2.2.1⟩,⟨B.ne.1,hne2.2.1,hne2.2.2.1⟩,⟨hne2.2.2.2.1,hne2.2.2.2.2⟩,hM.ne⟩)
  (by have:=Q9 hMB;have:=Q9 B.ft;have:=Q9 B.fm;have:=hM.plt;have:=hM.qlt;simp;omega) Lc
 have HP:∀{w'},QG w' pM pW pm pc pw n ve c ent mat→Fr [bt,pm,qm] w w'→QZ w' pM pW pm pc pw n who ve c ent mat f k v:=fun a g=>⟨a,hW.fr g (by simp;exact ⟨Ne.symm hB.1.2,Ne.symm hne2.1.2.1,Ne.symm hne2.1.2.2.2⟩)⟩
 have qf:=(Bag.one B.ff).q 0
 replace B:=B0
 clear hMB hM hB hne2 hW B0
 have q1:=B.q 1;have q2:=B.q 2;have m:=B.q 0
 go_in
 go_wp2_with fail
 clear q1 q2 m qf
 refine (HST2.out _ (B.g 3)).mono ?_
 rintro e w1 ⟨rfl,h,f1⟩
 replace B:=B.up 3 (T':=tM pm qm _ _) h f1
 have q2:=B.q 2;have m:=B.q 0
 go_wp2_with fail
 clear q2 m
 refine (HDR.out _).mono ?_
 rintro e w2 ⟨q,rfl,hq,ht,f2⟩
 have hqs:=Nat.le_trans B.fr.size hq
 replace B:=B.nw (T':=tQu q c _) ht f2 (fun x hx=>by simp at hx;subst hx;exact ⟨hq,Q9 ht⟩)
 have q1:=B.q 1;have u:=B.u 1
 go_wp2_with fail
 clear q1 u
 generalize hw:World.setCell _ _ _=w3
 replace B:=(B.s 1).e hw
 first
  |go_end0
  |(try simp only [Exit.inBlock,Exit.then]
    refine bodyPost_ret (results_none rfl _ _ _) rfl ?_)
 exact ⟨rfl,q,hqs,B.g 1,B.g 4,HP (B.g 0) B.fr,B.g 3,B.fr⟩
end
section
open Go.RowKit Go.Shelf Go.Lib
attribute [local go_sem] Oper.semAt_some
variable {w:World} {pM pW pm pc pw n who:Nat} {ve:Value} {c:Q0} {ent mat:Int} {f:Nat→List Value} {k:Q8} {v:Je} {p:Nat} {R:World→Prop} {S:List Nat} {bt bm bw:Nat} {LW:List Nat} {RW:World→Prop} {di good dn:Bool}
structure Q1F (w:World) (pM pW pm pc pw n who:Nat) (ve:Value) (c:Q0) (ent mat:Int) (f:Nat→List Value) (k:Q8) (v:Je) (p:Nat) (R:World→Prop) (S:List Nat) (bt bm bw:Nat) (LW:List Nat) (RW:World→Prop) (di good dn:Bool):Prop where
 mb:QG w pM pW pm pc pw n ve c ent mat
 wr:QL w pW n (upd f who (k.cells v))
 hk:who<n
 ne:pM≠pW
 st:Xe R pM pW ve
 dS:∀b∈S,b≠pM∧b≠pW∧ve.ownBlock≠some b
 bx:Y1 w bt bm bw pM p who 134
 dB:(bt≠pM∧bt≠pW)∧(bm≠pM∧bm≠pW)∧(bw≠pM∧bw≠pW)
 dSB:∀b∈S,b≠bt∧b≠bm∧b≠bw
 sw:∀(L:List Nat) (w1 w2:World),Fr L w1 w2→(∀b∈L,b∈S∨b=pM∨b=pW)→RW w1→RW w2
 dW:∀b∈LW,b≠pM∧b≠pW∧b≠bt∧b≠bm∧b≠bw
 nd:di=false→good=false∧RW w
 hd:Calls Tryz.prog 114 #[.pointer (some ⟨p,0,none⟩)] w fun e w'=>e=.returned (.bool di)∧Fr [] w w'
 wn:di=true→∀w',Fr [] w w'→Calls Tryz.prog 115 #[.pointer (some ⟨pw,0,none⟩)] w' fun e w2=>e=.returned (.bool good)∧RW w2∧Fr LW w' w2
 hc:∀w',Fr LW w w'→Calls Tryz.prog 116 #[.pointer (some ⟨p,0,none⟩),.pointer (some ⟨pm,0,none⟩),.bool good] w' fun e w2=>e=.returned (.bool dn)∧R w2∧Fr S w' w2
theorem Q94 {P:Prop} (h:P:=by
 obtain ⟨hMB,hW,hk,hne,hST,hD,⟨xt,xm,xw,xn⟩,hB,hDB,hSW,hDW,hnd,HDI,HWN,HC⟩:=H
 have B:Bag (pM::pW::(S++LW)) w [tRo false pM _ _,tW pW n f who _,tRo false bt _ _,tRo false bm _ _,tRo false bw _ _] w:=(EY hMB hW hne ⟨xt,xm,xw,xn⟩ hB).mono Lc
 dsimp only [Q8.cells] at B
 clear hMB hW hne xt xm xw xn hB
 have ha1:∀j:Nat,who*35+1+j=who*35+(1+j):=fun j=>Nat.add_assoc _ _ _
 have q2:=B.q 2
 cases di
 all_goals
  go_in
  go_wp2_with fail
  clear q2
  refine HDI.mono ?_
  rintro e w1 ⟨rfl,f1⟩
  replace B:=B.tm f1
 obtain ⟨rfl,hrw⟩:=hnd Lc
 have fw:=f1.mono (S':=LW) Lc
 replace hrw:=hSW _ _ _ f1 Lc hrw
 rotate_left
 have q3:=B.q 3;have m:=B.q 0
 go_wp2_with fail
 clear q3 m
 refine (HWN Lc _ f1).mono ?_
 rintro e w2 ⟨rfl,hrw,f2⟩
 replace B:=Kl B f2 (by intro x hx;simp [hx]) (fun b hb=>⟨(hDW b hb).1,(hDW b hb).2.1⟩) (fun b hb=>(hDW b hb).2.2)
 have fw:=(f1.mono (S':=LW) Lc).trans f2
 all_goals
  go_wp2_with fail
  refine rgf B fun _ fc B=> ?_
  iterate 6 refine tb ?_
  refine tc 6 fun K hK=> ?_
  go_simp
  refine (HC _ (fw.trans (fc.mono Lc))).mono ?_
  rintro e w3 ⟨rfl,hr,f3⟩
  replace B:=Kl B f3 (by intro x hx;simp [hx]) (fun b hb=>⟨(hD b hb).1,(hD b hb).2.1⟩) hDB
  replace hrw:=hSW _ _ _ f3 (fun b hb=>.inl hb) (hSW _ _ _ fc Lc hrw)
  go_wp2_with fail
  refine bk hK ?_
  clear hK K
  try go_frame
  refine tb ?_
  refine wpAnyH_done (by decide+kernel) ?_ _
  have q2:=B.q 2
  go_wp2_with fail
  clear q2
  first
   |(refine (HA _ hr).mono ?_
     rintro e w4 ⟨rfl,f4⟩
     replace hr:=hST.go hr f4
     replace hrw:=hSW _ _ _ f4 Lc hrw
     replace B:=B.tm f4
     go_wp2_with fail
     refine rgf B fun _ fc4 B=> ?_
     replace hr:=hST.go hr fc4
     replace hrw:=hSW _ _ _ fc4 Lc hrw
     repeat first|refine tb ?_|refine tv ?_
     refine wpAnyH_done (by decide+kernel) ?_ _
     have q3:=B.q 3;have q4:=B.q 4
     go_wp2_with fail
     refine (HEN.out _ k (B.g 0) (B.g 1)).mono ?_
     rintro e w9 ⟨rfl,p2,hp,ht,hmp,f9⟩
     go_wp2_with fail
     first
      |go_end0
      |(try simp only [Exit.inBlock,Exit.then]
        refine bodyPost_ret (results_none rfl _ _ _) rfl ?_)
     exact ⟨rfl,p2,Nat.le_trans B.fr.size hp,ht,hmp,hST.go hr f9,hSW _ _ _ f9 Lc hrw,B.fr.then f9 (fun x hx=>.inl (by simp at hx;simp [hx]))⟩)
   |(first
      |go_end0
      |(try simp only [Exit.inBlock,Exit.then]
        refine bodyPost_ret (results_none rfl _ _ _) rfl ?_)
     exact ⟨rfl,⟨B.g 0,B.g 1⟩,hr,hrw,B.fr⟩)):P:=h
theorem Q8O (H:Q1F w pM pW pm pc pw n who ve c ent mat f k v p R S bt bm bw LW RW di good false):
 Calls Tryz.prog 113 #[.pointer (some ⟨bt,0,none⟩),.pointer (some ⟨bm,0,none⟩),.pointer (some ⟨bw,0,none⟩)] w fun e w'=>e=.returned (.tuple #[])∧QZ w' pM pW pm pc pw n who ve c ent mat f k v∧R w'∧RW w'∧Fr (pM::pW::(S++LW)) w w':=Q94
theorem Q6I (H:Q1F w pM pW pm pc pw n who ve c ent mat f k v p R S bt bm bw LW RW di good true) (en ai ag:Int) (HA:∀w',R w'→Calls Tryz.prog 117 #[.pointer (some ⟨p,0,none⟩)] w' fun e w2=>e=.returned (.tuple #[.int .i64 en,.int .i64 ai,.int .i64 ag])∧Fr [] w' w2) (hen:en≠3):
 Calls Tryz.prog 113 #[.pointer (some ⟨bt,0,none⟩),.pointer (some ⟨bm,0,none⟩),.pointer (some ⟨bw,0,none⟩)] w fun e w'=>e=.returned (.tuple #[])∧∃p2,w.heap.size≤p2∧Jy w' p2 none none c (Qz who)∧QZ w' pM pW pm pc pw n who ve c ent mat f (k.end_ who {ev0 with e:=en,slot:=ai,gen:=ag}) {v with vd:=.pointer (some ⟨p2,0,none⟩)}∧R w'∧RW w'∧Fr (pM::pW::(S++LW)) w w':=by
 have HEN:=hid fun w' k' h1 h2=>XY w' pM pW pm pc pw n who ve c ent mat f k' v h1 h2 H.hk H.ne {ev0 with e:=en,slot:=ai,gen:=ag}
 have h3:(en==3)=false:=by simp [hen]
 exact Q94
theorem Q4T (H:Q1F w pM pW pm pc pw n who ve c ent mat f k v p R S bt bm bw LW RW di good true) (ai ag:Int) (HA:∀w',R w'→Calls Tryz.prog 117 #[.pointer (some ⟨p,0,none⟩)] w' fun e w2=>e=.returned (.tuple #[.int .i64 3,.int .i64 ai,.int .i64 ag])∧Fr [] w' w2) (hw:k.ask.wait=true):
 Calls Tryz.prog 113 #[.pointer (some ⟨bt,0,none⟩),.pointer (some ⟨bm,0,none⟩),.pointer (some ⟨bw,0,none⟩)] w fun e w'=>e=.returned (.tuple #[])∧∃p2,w.heap.size≤p2∧Jd w' p2 c (XR who)∧QZ w' pM pW pm pc pw n who ve c ent mat f ({k with qu:=some (XR who),st:=4}) {v with vq:=.pointer (some ⟨p2,0,none⟩)}∧R w'∧RW w'∧Fr (pM::pW::(S++LW)) w w':=by
 have HEN:=hid fun w' k' h1 h2=>Q4E w' pM pW pm pc pw n who ve c ent mat f k' v h1 h2 H.hk H.ne
 exact Q94
theorem Q2C (H:Q1F w pM pW pm pc pw n who ve c ent mat f k v p R S bt bm bw LW RW di good true) (ai ag:Int) (HA:∀w',R w'→Calls Tryz.prog 117 #[.pointer (some ⟨p,0,none⟩)] w' fun e w2=>e=.returned (.tuple #[.int .i64 3,.int .i64 ai,.int .i64 ag])∧Fr [] w' w2) (hw:k.ask.wait=false):
 Calls Tryz.prog 113 #[.pointer (some ⟨bt,0,none⟩),.pointer (some ⟨bm,0,none⟩),.pointer (some ⟨bw,0,none⟩)] w fun e w'=>e=.returned (.tuple #[])∧∃p2,w.heap.size≤p2∧Yz w' p2 c (.slice none 0 0) (.slice none 0 0) [] [] 0 false∧QZ w' pM pW pm pc pw n who ve c ent mat f ({k with tw:=some Y7,st:=3}) {v with vt:=.pointer (some ⟨p2,0,none⟩)}∧R w'∧RW w'∧Fr (pM::pW::(S++LW)) w w':=by
 have HEN:=hid fun w' k' h1 h2=>Q2F w' pM pW pm pc pw n who ve c ent mat f k' v h1 h2 H.hk H.ne
 exact Q94
end
section
open Go.RowKit Go.Shelf Go.Lib
attribute [local go_sem] Oper.semAt_some
def Xp (w:World) (q pf:Nat) (pr:Option Nat) (r:Qy):Prop:=w.heap[q]?=some (.cells #[.int .i64 r.st,.int .i64 r.many,.pointer (some ⟨pf,0,none⟩),Xu pr] 203 (0,0))
theorem Xp.fr {w w':World} {q pf:Nat} {pr:Option Nat} {r:Qy} (h:Xp w q pf pr r) {S:List Nat} (f:Fr S w w') (hp:q∉S):Xp w' q pf pr r:=f.at h hp
abbrev tRp (q pf:Nat) (pr:Option Nat) (r:Qy):Th:=tR q #[.int .i64 r.st,.int .i64 r.many,.pointer (some ⟨pf,0,none⟩),Xu pr] 203
abbrev tFd (pf:Nat) (c:Q0) (l:Qi):Th:=⟨true,[pf],fun w=>QY w pf c l,fun f h k=>k.fr f (h _ Lc)⟩
theorem YT (w:World) (q pf:Nat) (pr:Option Nat) (c:Q0) (r:Qy) (hR:Xp w q pf pr r) (hF:QY w pf c r.look) (h0:0≤r.look.at_) (h1:r.look.at_≤1000) (hne:q≠pf):
 Calls Tryz.prog 160 #[.pointer (some ⟨q,0,none⟩)] w fun e w'=>e=.returned (.tuple #[])∧Xp w' q pf pr r.QO∧QY w' pf c r.QO.look∧Fr [q,pf] w w':=by
 have HGO:=hid fun w' h=>Hl w' pf c r.look h h0 h1
 obtain ⟨rst,rmany,rlook,rret⟩:=r
 have B:Bag [q,pf] w [tR q _ _,tFd pf c _] w:=Bag.of (by simp only [List.forall_mem_cons];exact ⟨hR,hF,Lc⟩) (by simp [hne]) (by have:=Q9 hR;have:=Q9 hF;simp;omega) Lc
 dsimp only at B HGO
 clear hR hF h0 h1
 have q0:=B.q 0
 go_in
 go_wp2_with fail
 refine (HGO.out _ (B.g 1)).mono ?_
 rintro e w1 ⟨rfl,h,f⟩
 replace B:=B.up 1 (T':=tFd pf c _) h f
 clear q0
 have q0:=B.q 0;have u:=B.u 0
 go_wp2_with fail
 clear q0 u
 generalize hw:World.setCell _ _ _=w2
 replace B:=(B.s 0).e hw
 go_end0
 exact ⟨rfl,B.g 0,B.g 1,B.fr⟩
def AskP (w w':World) (q pf:Nat) (pr:Option Nat) (c:Q0) (r:Qy) (g:Bool):Prop:=match g with
 |true=>Xp w' q pf pr {r with st:=2}
 |false=>∃qr,w.heap.size≤qr∧Xp w' q pf (some qr) {r with ret:=some (Jb c r.look.at_ r.look.word),st:=3}∧JK w' qr (Jb c r.look.at_ r.look.word)
theorem Q0H (w:World) (pM pW pm pc pw n:Nat) (ve:Value) (c:Q0) (ent mat:Int) (hMB:QG w pM pW pm pc pw n ve c ent mat) (q pf:Nat) (pr:Option Nat) (r:Qy) (s:Q7) (hR:Xp w q pf pr r) (hF:QY w pf c r.look) (hfd:r.look.found=true) (hs:s.right) (hw:r.look.word=s.enc) (hG:Qe w 0 Qc) (hc:c.fits) (LW:List Nat) (RW:World→Prop) (good:Bool) (hSW:∀(L:List Nat) (w1 w2:World),Fr L w1 w2→(∀b∈L,b=q)→RW w1→RW w2) (hDW:∀b∈LW,b≠pM∧b≠q∧b≠0) (hLB:∀b∈LW,¬w.heap.size≤b) (hne:q≠pM∧0<q) (HWN:∀w',Fr [] w w'→Calls Tryz.prog 115 #[.pointer (some ⟨pw,0,none⟩)] w' fun e w2=>e=.returned (.bool good)∧RW w2∧Fr LW w' w2):
 Calls Tryz.prog 158 #[.pointer (some ⟨q,0,none⟩),.pointer (some ⟨pM,0,none⟩)] w fun e w'=>e=.returned (.tuple #[])∧AskP w w' q pf pr c r (good&& !s.mkd&& !s.br)∧RW w'∧Fr (q::LW) w w':=by
 have HFN:=hid (X4 w pf c r.look hF)
 rw [hfd,if_pos rfl] at HFN
 have HDE:=hid fun w' h=>Ji w' s hs h
 have HNW:=hid fun w'=>KQ w' c r.look.at_ r.look.word hc
 unfold Q0.val at HNW
 rw [←hw] at HDE
 have B:Bag (q::LW) w [tRo false pM _ _,tR q _ _] w:=Bag.of (by simp only [List.forall_mem_cons];exact ⟨hMB,hR,Lc⟩) (by simp;omega) (by have:=Q9 hMB;have:=Q9 hR;simp;omega) Lc
 generalize hg:(good&& !s.mkd&& !s.br)=g
 have HB:=hid hg
 clear hg
 obtain ⟨wo,sl,sst,wa,us⟩:=c
 obtain ⟨rst,rmany,rlook,rret⟩:=r
 obtain ⟨zst,zso,zstr,zbr,zmkd,zus,zgen,zep,zver⟩:=s
 obtain ⟨lk,lo,la,lw,lf⟩:=rlook
 unfold Q7.val at HDE
 dsimp only at*
 clear hMB hR hs hw hfd hF hc
 have HWX:=hid HWN
 clear HWN
 have q0:=B.q 1
 go_in
 go_wp2_with fail
 refine HFN.out.mono ?_
 rintro e w1 ⟨rfl,f1⟩
 replace B:=B.tm f1
 clear q0
 go_wp2_with fail
 refine (HDE.out _ (hG.fr f1 Lc)).mono ?_
 rintro e w2 ⟨rfl,f2⟩
 replace B:=B.tm f2
 have m:=B.qa 0
 have F0:=fun x=>(f1.trans f2).alloc x
 go_wp2_with fail
 clear m
 generalize hb:(World.heap _).size=b,hw:World.alloc _ _=w3
 have F0:Fr [] w w3:=hw▸F0 _
 have hlb:=B.fr.size
 rw [hb] at hlb
 replace B:=B.al hw hb
 refine (HWX.out _ F0).mono ?_
 rintro e w4 ⟨rfl,hrw,f3⟩
 replace B:=B.fo f3 (fun x hx=>by simp [hx]) (fun i x hx hm=>by
  have h2:=hLB x hm
  have h1:=hDW x hm
  rcases i with _|_|_|i
  · simp [gt] at hx;exact h1.1 hx
  · simp [gt] at hx;exact h1.2.1 hx
  · simp [gt] at hx;omega
  · simp [gt,Th.nil] at hx)
 have q3:=B.q 2;have m:=B.q 0
 rcases (by have:=HB.out;cases good<;>cases zmkd<;>cases zbr<;>simp_all:g=true∧good=true∧zmkd=false∧zbr=false∨g=false∧(good=false∨good=true∧zmkd=true∨good=true∧zmkd=false∧zbr=true)) with ⟨rfl,rfl,rfl,rfl⟩|⟨rfl,h⟩
 · have q1:=B.q 1;have u:=B.u 1
   go_wp2_with fail
   clear q1 u q3 m
   generalize hw:World.setCell _ _ _=w5
   replace B:=(B.s 1).e hw
   have hrw:=hSW [q] w4 w5 (hw▸(Fr.refl [q] w4).sc q _ _) Lc hrw
   try simp only [Exit.inBlock,Exit.then]
   refine bodyPost_ret (results_none rfl _ _ _) rfl ?_
   exact ⟨rfl,B.g 1,hrw,B.fr⟩
 rcases h with rfl|⟨rfl,rfl⟩|⟨rfl,rfl,rfl⟩
 all_goals
  go_wp2_with fail
  refine (HNW.out _).mono ?_
  rintro e w5 ⟨qr,rfl,hqr,hrt,f⟩
  have hqr':=Nat.le_trans B.fr.size hqr
  replace B:=B.nw (T':=tRt (some qr) (some _)) hrt f (fun x hx=>by simp at hx;subst hx;exact ⟨hqr,Q9 hrt⟩)
  have hrw:=hSW _ _ _ f Lc hrw
  clear q3 m
  have q1:=B.q 1;have u:=B.u 1
  go_wp2_with fail
  clear q1 u
  generalize hw:World.setCell _ _ _=w6
  have hrw:=hSW [q] w5 w6 (hw▸((Fr.refl [q] w5).sc q _ _).sc q _ _) Lc hrw
  replace B:=((B.s 1).s 1).e hw
  go_end0
  exact ⟨rfl,by unfold AskP;exact ⟨qr,hqr',B.g 1,B.g 3⟩,hrw,B.fr⟩
theorem Q4w (w:World) (pM pW pm pc pw n:Nat) (ve:Value) (c:Q0) (ent mat:Int) (hMB:QG w pM pW pm pc pw n ve c ent mat) (q pf:Nat) (pr:Option Nat) (r:Qy) (s:Q7) (hR:Xp w q pf pr r) (hF:QY w pf c r.look) (hfd:r.look.found=true) (hs:s.right) (hw:r.look.word=s.enc) (hG:Qe w 0 Qc) (hc:c.fits) (LW:List Nat) (RW:World→Prop) (good:Bool) (hSW:∀(L:List Nat) (w1 w2:World),Fr L w1 w2→(∀b∈L,b=q)→RW w1→RW w2) (hDW:∀b∈LW,b≠pM∧b≠q∧b≠0) (hLB:∀b∈LW,¬w.heap.size≤b) (hne:q≠pM∧0<q) (HWN:∀w',Fr [] w w'→Calls Tryz.prog 115 #[.pointer (some ⟨pw,0,none⟩)] w' fun e w2=>e=.returned (.bool good)∧RW w2∧Fr LW w' w2) (hgd:good=true∧s.mkd=false∧s.br=false):
 Calls Tryz.prog 158 #[.pointer (some ⟨q,0,none⟩),.pointer (some ⟨pM,0,none⟩)] w fun e w'=>e=.returned (.tuple #[])∧Xp w' q pf pr {r with st:=2}∧RW w'∧Fr (q::LW) w w':=by
 refine (Q0H w pM pW pm pc pw n ve c ent mat hMB q pf pr r s hR hF hfd hs hw hG hc LW RW good hSW hDW hLB hne HWN).mono ?_
 rintro e w' ⟨rfl,h,h2,f⟩
 obtain ⟨rfl,h3,h4⟩:=hgd
 rw [h3,h4] at h
 exact ⟨rfl,h,h2,f⟩
theorem Q6u (w:World) (pM pW pm pc pw n:Nat) (ve:Value) (c:Q0) (ent mat:Int) (hMB:QG w pM pW pm pc pw n ve c ent mat) (q pf:Nat) (pr:Option Nat) (r:Qy) (s:Q7) (hR:Xp w q pf pr r) (hF:QY w pf c r.look) (hfd:r.look.found=true) (hs:s.right) (hw:r.look.word=s.enc) (hG:Qe w 0 Qc) (hc:c.fits) (LW:List Nat) (RW:World→Prop) (good:Bool) (hSW:∀(L:List Nat) (w1 w2:World),Fr L w1 w2→(∀b∈L,b=q)→RW w1→RW w2) (hDW:∀b∈LW,b≠pM∧b≠q∧b≠0) (hLB:∀b∈LW,¬w.heap.size≤b) (hne:q≠pM∧0<q) (HWN:∀w',Fr [] w w'→Calls Tryz.prog 115 #[.pointer (some ⟨pw,0,none⟩)] w' fun e w2=>e=.returned (.bool good)∧RW w2∧Fr LW w' w2) (hgd:(good&& !s.mkd&& !s.br)=false):
 Calls Tryz.prog 158 #[.pointer (some ⟨q,0,none⟩),.pointer (some ⟨pM,0,none⟩)] w fun e w'=>e=.returned (.tuple #[])∧(∃qr,w.heap.size≤qr∧Xp w' q pf (some qr) {r with ret:=some (Jb c r.look.at_ r.look.word),st:=3}∧JK w' qr (Jb c r.look.at_ r.look.word))∧RW w'∧Fr (q::LW) w w':=by
 refine (Q0H w pM pW pm pc pw n ve c ent mat hMB q pf pr r s hR hF hfd hs hw hG hc LW RW good hSW hDW hLB hne HWN).mono ?_
 rintro e w' ⟨rfl,h,h2,f⟩
 rw [hgd] at h
 exact ⟨rfl,h,h2,f⟩
end
end Go.Proofs.YtgjklfmnmljilaaGreatDoor
