/- A part of the proof. -/
import Derived.Test.YtgjklfmnmljilaaGreatDoorZR29
namespace Go.Proofs.YtgjklfmnmljilaaGreatDoor
set_option linter.unusedVariables false
set_option linter.unusedSimpArgs false
set_option linter.unusedSectionVars false
set_option linter.unnecessarySimpa false
set_option maxRecDepth 100000
set_option maxHeartbeats 8000000
section
open Go.RowKit Go.Shelf Go.Lib
attribute [local go_sem] Oper.semAt_some
def Q8z:Je:=⟨.nilFunc,.pointer none,.pointer none,.pointer none⟩
theorem Q7Q:(Tryz.prog.info? 80).map (fun i=>(i.zero,i.size,i.bytes))=some (some (.agg #[.int .i64 0,.int .i64 0,.int .i64 0,.bool false,.bool false,.int .i64 0,.int .i64 0,.int .i64 0,.bool false,.int .i64 0,.int .i64 0,.nilFunc,.pointer none,.pointer none,.pointer none,.bool false,.bool false,.bool false,.int .i64 0,.int .i64 0,.int .i64 0,.int .i64 0,.bool false,.bool false,.int .i64 0,.int .i64 0,.int .i64 0,.int .i64 0,.int .i64 0,.int .i64 0,.int .i64 0,.int .i64 0,.int .i64 0,.int .i64 0,.int .i64 0]),35,256):=by kernel_rfl
def Q6d (n:Nat):Obj:=.cells (madeCells #[.int .i64 0,.int .i64 0,.int .i64 0,.bool false,.bool false,.int .i64 0,.int .i64 0,.int .i64 0,.bool false,.int .i64 0,.int .i64 0,.nilFunc,.pointer none,.pointer none,.pointer none,.bool false,.bool false,.bool false,.int .i64 0,.int .i64 0,.int .i64 0,.int .i64 0,.bool false,.bool false,.int .i64 0,.int .i64 0,.int .i64 0,.int .i64 0,.int .i64 0,.int .i64 0,.int .i64 0,.int .i64 0,.int .i64 0,.int .i64 0,.int .i64 0] (n*35)) 80 (0,0)
theorem Q8n {w:World} {b n:Nat} (h:w.heap[b]?=some (Q6d n)):QL w b n (fun _=>Ju.cells Q8z):=by
 refine ⟨_,h,by simp [madeCells],fun k hk=>⟨rfl,fun j u hu=> ?_⟩⟩
 have hj:j<35:=(List.getElem?_eq_some_iff.1 hu).1
 unfold madeCells
 rw [Array.getElem?_map,Array.getElem?_range,if_pos Lb]
 rw [Option.map_some,←hu]
 have hm:(k*35+j) % 35=j:=Lb
 have hz:∀Z:List Value,Z.length=35→some (Z.toArray[(k*35+j) % Z.toArray.size]!)=Z[j]?:=by
  intro Z hZ
  rw [List.size_toArray,hZ,hm,getElem!_pos Z.toArray j (by simpa [hZ] using hj),List.getElem?_eq_getElem Lb]
  simp
 exact hz (Ju.cells Q8z) rfl
def MNew (w:World) (c:Q0) (e:Ending) (w':World):Prop:=∃pM pW pm pc pw pr qm,e=.returned (.tuple #[.pointer (some ⟨pM,0,none⟩),.int .i64 0])∧
 (w.heap.size≤pM∧w.heap.size≤pW∧w.heap.size≤pm∧w.heap.size≤pc∧w.heap.size≤pw∧w.heap.size≤pr∧w.heap.size≤qm)∧[pM,pW,pm,qm,pc,pw,pr].Nodup∧QG w' pM pW pm pc pw c.wo.toNat (.slice none 0 0) c 0 0∧QL w' pW c.wo.toNat (fun _=>Ju.cells Q8z)∧
 Qm w' pm qm (List.replicate c.cells.toNat 0) 0∧Y6 w' pc 0∧Ze w' pw pr (.slice none 0 0) [] 0 0∧Fr [] w w'
abbrev tCk (pc:Nat):Th:=⟨true,[pc],fun w=>Y6 w pc 0,fun f h k=>k.fr f (h _ Lc)⟩
abbrev tWl (pw pr:Nat):Th:=⟨true,[pw,pr],fun w=>Ze w pw pr (.slice none 0 0) [] 0 0,fun f h k=>k.ov f (h _ Lc) (h _ Lc) (by simp [Value.ownBlock])⟩
theorem Q6G (w:World) (c:Q0) (hc:c.fits):Calls Tryz.prog 17 #[c.val] w (MNew w c):=by
 have HRT:=hid fun w'=>GX w' c hc
 have HME:=hid fun w'=>Q5v w' c hc
 have HCN:=hid fun w'=>Q7l w'
 have HWN:=hid fun w'=>Q5N w'
 obtain ⟨n,hn⟩:∃n:Nat,c.wo=(n:Int):=⟨c.wo.toNat,by have:=hc.1;omega⟩
 have hn8:n≤8:=by have:=hc.1;omega
 have hmk:∀wx:World,(Instr.makeSlice 84 (.int .i64 c.wo) (.int .i64 c.wo)).run Tryz.prog wx=.ok (.slice (some ⟨wx.heap.size,0,none⟩) n n) (wx.alloc (Q6d n)):=by
  intro wx
  obtain ⟨i0,hi0,hz0,hz1,hz2⟩:=info_parts Q7Q
  rw [hn]
  have h:=run_make (P:=Tryz.prog) wx 84 80 i0 _ Tryz.underlying84 hi0 hz0 .i64 .i64 (n:Int) (n:Int) Lb Lb (by rw [hz2];omega) Lb
  rw [hz1] at h
  exact h
 have hnn:c.wo.toNat=n:=by rw [hn];rfl
 unfold MNew
 rw [hnn]
 unfold Q0.val at*
 generalize List.replicate c.cells.toNat (0:Int)=M0 at*
 obtain ⟨wo,sl,sst,wa,us⟩:=c
 dsimp only at*
 clear hn hnn hc hn8
 go_in
 go_wp2_with fail
 generalize hb:(World.heap _).size=pe,hw:World.alloc _ _=w1
 have B:=(Bag.nil [] w).al hw hb
 clear hw hb
 have q:=B.q 0
 go_wp2_with fail
 refine (HRT.out _).mono ?_
 rintro e w2 ⟨rfl,f2⟩
 replace B:=B.tm f2
 clear q
 have q:=B.q 0
 go_wp2_with fail
 refine (HME.out _).mono ?_
 rintro e w3 ⟨pm,qm,rfl,hpm,hqm,hma,f3⟩
 have hmn:Qm w3 pm qm M0 0:=⟨0,hma,Lb,Lb⟩
 replace B:=B.nw (T':=tM pm qm M0 0) hmn f3 (fun x hx=>by simp at hx;rcases hx with rfl|rfl;exact ⟨hpm,hmn.plt⟩;exact ⟨hqm,hmn.qlt⟩)
 clear q hma
 go_wp2_with fail
 refine rg B fun _ B=> ?_
 refine tj 0 ?_
 refine tj 1 ?_
 refine tj 4 ?_
 refine tj 5 ?_
 refine wpAnyH_ready (rs:=[2,6]) (by decide+kernel) Lc ?_
 refine AllReadyH.cons (o:=_) rfl (fun K hK=> ?_) (AllReadyH.cons (o:=_) rfl (fun K hK=> ?_) AllReadyH.nil)
 all_goals try simp only [List.getElem_toArray,List.getElem_cons_succ,List.getElem_cons_zero]
 go_simp
 refine (HCN.out _).mono ?_
 rintro e w5 ⟨pc,rfl,hpc,hpl,hck,f5⟩
 replace B:=B.nw (T':=tCk pc) hck f5 (fun x hx=>by simp at hx;subst hx;exact ⟨hpc,hpl⟩)
 go_wp2_with fail
 refine bk hK ?_
 clear hK K
 try go_frame
 refine wpAnyH_ready (rs:=[3,6]) (by decide+kernel) Lc ?_
 refine AllReadyH.cons (o:=_) rfl (fun K hK=> ?_) (AllReadyH.cons (o:=_) rfl (fun K hK=> ?_) AllReadyH.nil)
 all_goals try simp only [List.getElem_toArray,List.getElem_cons_succ,List.getElem_cons_zero]
 go_simp
 refine (HWN.out _).mono ?_
 rintro e w6 ⟨pw,pr,rfl,hpw,hpr,hwl,f6⟩
 replace B:=B.nw (T':=tWl pw pr) hwl f6 (fun x hx=>by simp at hx;rcases hx with rfl|rfl;exact ⟨hpw,Q9 hwl.b⟩;exact ⟨hpr,Q9 hwl.r.1⟩)
 go_wp2_with fail
 refine bk hK ?_
 clear hK K
 try go_frame
 refine tc 6 fun K hK=> ?_
 go_simp
 generalize hb:(World.heap _).size=pW,hw:World.alloc _ _=w7
 unfold Q6d at hw
 replace B:=B.al hw hb
 clear hw hb
 refine bk hK ?_
 clear hK K
 try go_frame
 rotate_left
 go_simp
 generalize hb:(World.heap _).size=pW,hw:World.alloc _ _=w7
 unfold Q6d at hw
 replace B:=B.al hw hb
 clear hw hb
 refine bk hK ?_
 clear hK K
 try go_frame
 refine tc 3 fun K hK=> ?_
 go_simp
 refine (HWN.out _).mono ?_
 rintro e w6 ⟨pw,pr,rfl,hpw,hpr,hwl,f6⟩
 replace B:=B.nw (T':=tWl pw pr) hwl f6 (fun x hx=>by simp at hx;rcases hx with rfl|rfl;exact ⟨hpw,Q9 hwl.b⟩;exact ⟨hpr,Q9 hwl.r.1⟩)
 go_wp2_with fail
 refine bk hK ?_
 clear hK K
 try go_frame
 replace B:=B.sel [0,1,2,4,3]
 rotate_left
 go_simp
 generalize hb:(World.heap _).size=pW,hw:World.alloc _ _=w7
 unfold Q6d at hw
 replace B:=B.al hw hb
 clear hw hb
 refine bk hK ?_
 clear hK K
 try go_frame
 refine tc 2 fun K hK=> ?_
 go_simp
 refine (HCN.out _).mono ?_
 rintro e w5 ⟨pc,rfl,hpc,hpl,hck,f5⟩
 replace B:=B.nw (T':=tCk pc) hck f5 (fun x hx=>by simp at hx;subst hx;exact ⟨hpc,hpl⟩)
 go_wp2_with fail
 refine bk hK ?_
 clear hK K
 try go_frame
 refine tc 3 fun K hK=> ?_
 go_simp
 refine (HWN.out _).mono ?_
 rintro e w6 ⟨pw,pr,rfl,hpw,hpr,hwl,f6⟩
 replace B:=B.nw (T':=tWl pw pr) hwl f6 (fun x hx=>by simp at hx;rcases hx with rfl|rfl;exact ⟨hpw,Q9 hwl.b⟩;exact ⟨hpr,Q9 hwl.r.1⟩)
 go_wp2_with fail
 refine bk hK ?_
 clear hK K
 try go_frame
 replace B:=B.sel [0,1,3,4,2]
 all_goals
  refine tj 7 ?_
  refine tc 8 fun K hK=> ?_
  go_simp
  generalize hb:(World.heap _).size=pM,hw:World.alloc _ _=w8
  replace B:=B.al hw hb
  refine bk hK ?_
  clear hK K
  try go_frame
  refine tb ?_
  refine tb ?_
  refine wpAnyH_done (by decide+kernel) ?_ _
  go_wp2
  go_ret2
  exact ⟨pM,pW,pm,pc,pw,pr,qm,rfl,⟨B.new 5,B.new 4,B.new 1,B.new 2,B.new 3,B.new 3,B.new 1⟩,by
   simp
   exact ⟨⟨B.n2 5 4,B.n2 5 1,B.n2 5 1,B.n2 5 2,B.n2 5 3,B.n2 5 3⟩,⟨B.n2 4 1,B.n2 4 1,B.n2 4 2,B.n2 4 3,B.n2 4 3⟩,⟨Qm.ne (B.g 1),B.n2 1 2,B.n2 1 3,B.n2 1 3⟩,⟨B.n2 1 2,B.n2 1 3,B.n2 1 3⟩,⟨B.n2 2 3,B.n2 2 3⟩,Ze.n (B.g 3)⟩,B.g 5,Q8n (B.g 4),B.g 1,B.g 2,B.g 3,B.fr⟩
end
section
open Go.RowKit Go.Shelf Go.Lib
attribute [local go_sem] Oper.semAt_some
variable (w:World) (pM pW pm pc pw n who:Nat) (ve:Value) (c:Q0) (ent mat:Int) (f:Nat→List Value) (k:Q8) (v:Je)
theorem Q2D (hMB:QG w pM pW pm pc pw n ve c ent mat) (hW:QL w pW n (upd f who (k.cells v))) (hk:who<n) (hne:pM≠pW) (p:Nat) (R:World→Prop) (S:List Nat) (hST:Xe R pM pW ve) (hD:∀b∈S,b≠pM∧b≠pW∧ve.ownBlock≠some b) (hve:∀b,ve.ownBlock=some b→b≠pM∧b≠pW) (HC:∀w',Fr [] w w'→Calls Tryz.prog 82 #[.pointer (some ⟨p,0,none⟩),.pointer (some ⟨pm,0,none⟩)] w' fun e w2=>e=.returned (.bool false)∧R w2∧Fr S w' w2) (hv:v.vq=.pointer (some ⟨p,0,none⟩)):
 Calls Tryz.prog 59 #[.pointer (some ⟨pM,0,none⟩),.int .i64 who] w fun e w'=>e=.returned (.tuple #[])∧QZ w' pM pW pm pc pw n who ve c ent mat f k v∧R w'∧Fr (pM::pW::S) w w':=by
 obtain ⟨vw,vt,vq,vd⟩:=v
 dsimp only at hv
 subst hv
 have HCS:=hid HC
 have B:Bag (pM::pW::S) w [tRo false pM _ _,tW pW n f who _] w:=(Zn hMB hW hne).mono Lc
 dsimp only [Q8.cells] at B
 clear hMB hW hne HC
 have m:=B.q 0
 go_in
 go_wp2_with fail
 clear m
 refine rgf B fun _ fc B=> ?_
 iterate 8 refine tb ?_
 refine tc 8 fun K hK=> ?_
 go_simp
 refine (HCS.out _ fc).mono ?_
 rintro e w1 ⟨rfl,hr,f1⟩
 replace B:=VJ B f1 (by intro x hx;simp [hx]) (fun b hb=>⟨(hD b hb).1,(hD b hb).2.1⟩)
 go_wp2_with fail
 refine bk hK ?_
 clear hK K
 try go_frame
 refine tb ?_
 refine wpAnyH_done (by decide+kernel) ?_ _
 go_wp2
 first
  |go_end0
  |(try simp only [Exit.inBlock,Exit.then]
    refine bodyPost_ret (results_none rfl _ _ _) rfl ?_)
 exact ⟨rfl,⟨B.g 0,B.g 1⟩,hr,B.fr⟩
theorem Q11 (hMB:QG w pM pW pm pc pw n ve c ent mat) (hW:QL w pW n (upd f who (k.cells v))) (hk:who<n) (hne:pM≠pW) (p:Nat) (R:World→Prop) (S:List Nat) (hST:Xe R pM pW ve) (hD:∀b∈S,b≠pM∧b≠pW∧ve.ownBlock≠some b) (hve:∀b,ve.ownBlock=some b→b≠pM∧b≠pW) (HC:∀w',Fr [] w w'→Calls Tryz.prog 82 #[.pointer (some ⟨p,0,none⟩),.pointer (some ⟨pm,0,none⟩)] w' fun e w2=>e=.returned (.bool true)∧R w2∧Fr S w' w2) (hv:v.vq=.pointer (some ⟨p,0,none⟩)) (en:Int) (he:en≠0∧en≠8) (HA:∀w',R w'→Calls Tryz.prog 83 #[.pointer (some ⟨p,0,none⟩)] w' fun e w2=>e=.returned (.tuple #[.int .i64 en,.bool true])∧Fr [] w' w2):
 Calls Tryz.prog 59 #[.pointer (some ⟨pM,0,none⟩),.int .i64 who] w fun e w'=>e=.returned (.tuple #[])∧∃p2,w.heap.size≤p2∧Jy w' p2 none none c (Qz who)∧QZ w' pM pW pm pc pw n who ve c ent mat f (k.end_ who {ev0 with e:=en}) {v with vd:=.pointer (some ⟨p2,0,none⟩)}∧R w'∧Fr (pM::pW::S) w w':=by
 have HEN:=hid fun w' k' h1 h2=>XY w' pM pW pm pc pw n who ve c ent mat f k' v h1 h2 hk hne {ev0 with e:=en}
 have h0:(en != 0)=true:=by simp [he.1]
 have h8:(en != 8)=true:=by simp [he.2]
 obtain ⟨vw,vt,vq,vd⟩:=v
 dsimp only at hv
 subst hv
 have HCS:=hid HC
 have B:Bag (pM::pW::S) w [tRo false pM _ _,tW pW n f who _] w:=(Zn hMB hW hne).mono Lc
 dsimp only [Q8.cells] at B
 clear hMB hW hne HC
 have m:=B.q 0
 go_in
 go_wp2_with fail
 clear m
 refine rgf B fun _ fc B=> ?_
 iterate 8 refine tb ?_
 refine tc 8 fun K hK=> ?_
 go_simp
 refine (HCS.out _ fc).mono ?_
 rintro e w1 ⟨rfl,hr,f1⟩
 replace B:=VJ B f1 (by intro x hx;simp [hx]) (fun b hb=>⟨(hD b hb).1,(hD b hb).2.1⟩)
 go_wp2_with fail
 refine bk hK ?_
 clear hK K
 try go_frame
 refine tb ?_
 refine wpAnyH_done (by decide+kernel) ?_ _
 have q:=B.wq 1 hk
 go_wp2_with fail
 clear q
 refine (HA _ hr).mono ?_
 rintro e w2 ⟨rfl,f2⟩
 replace hr:=hST.go hr f2
 replace B:=B.tm f2
 go_wp2_with fail
 refine (HEN.out _ k (B.g 0) (B.g 1)).mono ?_
 rintro e w9 ⟨rfl,p2,hp,ht,hmp,f9⟩
 go_wp2_with fail
 first
  |go_end0
  |(try simp only [Exit.inBlock,Exit.then]
    refine bodyPost_ret (results_none rfl _ _ _) rfl ?_)
 exact ⟨rfl,p2,Nat.le_trans B.fr.size hp,ht,hmp,hST.go hr f9,B.fr.then f9 (fun x hx=>.inl (by simp at hx;simp [hx]))⟩
theorem Q2B (hMB:QG w pM pW pm pc pw n ve c ent mat) (hW:QL w pW n (upd f who (k.cells v))) (hk:who<n) (hne:pM≠pW) (p:Nat) (R:World→Prop) (S:List Nat) (hST:Xe R pM pW ve) (hD:∀b∈S,b≠pM∧b≠pW∧ve.ownBlock≠some b) (hve:∀b,ve.ownBlock=some b→b≠pM∧b≠pW) (HC:∀w',Fr [] w w'→Calls Tryz.prog 82 #[.pointer (some ⟨p,0,none⟩),.pointer (some ⟨pm,0,none⟩)] w' fun e w2=>e=.returned (.bool false)∧R w2∧Fr S w' w2) (hv:v.vq=.pointer (some ⟨p,0,none⟩)):
 Calls Tryz.prog 63 #[.pointer (some ⟨pM,0,none⟩),.int .i64 who] w fun e w'=>e=.returned (.tuple #[])∧QZ w' pM pW pm pc pw n who ve c ent mat f k v∧R w'∧Fr (pM::pW::S) w w':=by
 obtain ⟨vw,vt,vq,vd⟩:=v
 dsimp only at hv
 subst hv
 have HCS:=hid HC
 have B:Bag (pM::pW::S) w [tRo false pM _ _,tW pW n f who _] w:=(Zn hMB hW hne).mono Lc
 dsimp only [Q8.cells] at B
 clear hMB hW hne HC
 have m:=B.q 0
 go_in
 go_wp2_with fail
 clear m
 refine rgf B fun _ fc B=> ?_
 iterate 8 refine tb ?_
 refine tc 8 fun K hK=> ?_
 go_simp
 refine (HCS.out _ fc).mono ?_
 rintro e w1 ⟨rfl,hr,f1⟩
 replace B:=VJ B f1 (by intro x hx;simp [hx]) (fun b hb=>⟨(hD b hb).1,(hD b hb).2.1⟩)
 go_wp2_with fail
 refine bk hK ?_
 clear hK K
 try go_frame
 refine tb ?_
 refine wpAnyH_done (by decide+kernel) ?_ _
 go_wp2
 first
  |go_end0
  |(try simp only [Exit.inBlock,Exit.then]
    refine bodyPost_ret (results_none rfl _ _ _) rfl ?_)
 exact ⟨rfl,⟨B.g 0,B.g 1⟩,hr,B.fr⟩
theorem Q0Z (hMB:QG w pM pW pm pc pw n ve c ent mat) (hW:QL w pW n (upd f who (k.cells v))) (hk:who<n) (hne:pM≠pW) (p:Nat) (R:World→Prop) (S:List Nat) (hST:Xe R pM pW ve) (hD:∀b∈S,b≠pM∧b≠pW∧ve.ownBlock≠some b) (hve:∀b,ve.ownBlock=some b→b≠pM∧b≠pW) (HC:∀w',Fr [] w w'→Calls Tryz.prog 82 #[.pointer (some ⟨p,0,none⟩),.pointer (some ⟨pm,0,none⟩)] w' fun e w2=>e=.returned (.bool true)∧R w2∧Fr S w' w2) (hv:v.vq=.pointer (some ⟨p,0,none⟩)) (en:Int) (he:en≠8) (HA:∀w',R w'→Calls Tryz.prog 83 #[.pointer (some ⟨p,0,none⟩)] w' fun e w2=>e=.returned (.tuple #[.int .i64 en,.bool true])∧Fr [] w' w2):
 Calls Tryz.prog 63 #[.pointer (some ⟨pM,0,none⟩),.int .i64 who] w fun e w'=>e=.returned (.tuple #[])∧∃p2,w.heap.size≤p2∧Jy w' p2 none none c (Qz who)∧QZ w' pM pW pm pc pw n who ve c ent mat f (k.end_ who {ev0 with e:=en}) {v with vd:=.pointer (some ⟨p2,0,none⟩)}∧R w'∧Fr (pM::pW::S) w w':=by
 have HEN:=hid fun w' k' h1 h2=>XY w' pM pW pm pc pw n who ve c ent mat f k' v h1 h2 hk hne {ev0 with e:=en}
 have h8:(en==8)=false:=by simp [he]
 obtain ⟨vw,vt,vq,vd⟩:=v
 dsimp only at hv
 subst hv
 have HCS:=hid HC
 have B:Bag (pM::pW::S) w [tRo false pM _ _,tW pW n f who _] w:=(Zn hMB hW hne).mono Lc
 dsimp only [Q8.cells] at B
 clear hMB hW hne HC
 have m:=B.q 0
 go_in
 go_wp2_with fail
 clear m
 refine rgf B fun _ fc B=> ?_
 iterate 8 refine tb ?_
 refine tc 8 fun K hK=> ?_
 go_simp
 refine (HCS.out _ fc).mono ?_
 rintro e w1 ⟨rfl,hr,f1⟩
 replace B:=VJ B f1 (by intro x hx;simp [hx]) (fun b hb=>⟨(hD b hb).1,(hD b hb).2.1⟩)
 go_wp2_with fail
 refine bk hK ?_
 clear hK K
 try go_frame
 refine tb ?_
 refine wpAnyH_done (by decide+kernel) ?_ _
 have q:=B.wq 1 hk
 go_wp2_with fail
 clear q
 refine (HA _ hr).mono ?_
 rintro e w2 ⟨rfl,f2⟩
 replace hr:=hST.go hr f2
 replace B:=B.tm f2
 go_wp2_with fail
 refine (HEN.out _ k (B.g 0) (B.g 1)).mono ?_
 rintro e w9 ⟨rfl,p2,hp,ht,hmp,f9⟩
 go_wp2_with fail
 first
  |go_end0
  |(try simp only [Exit.inBlock,Exit.then]
    refine bodyPost_ret (results_none rfl _ _ _) rfl ?_)
 exact ⟨rfl,p2,Nat.le_trans B.fr.size hp,ht,hmp,hST.go hr f9,B.fr.then f9 (fun x hx=>.inl (by simp at hx;simp [hx]))⟩
theorem Z0j {P:Prop} (h:P:=by
 rintro e w9 ⟨rfl,p2,hp,ht,hmp,f9⟩
 replace hr:=hST.go hr (show Fr [pW] _ _ from hw▸(Fr.refl [pW] w2).sc pW _ _)
 go_wp2_with fail
 first
  |go_end0
  |(try simp only [Exit.inBlock,Exit.then]
    refine bodyPost_ret (results_none rfl _ _ _) rfl ?_)
 exact ⟨rfl,p2,Nat.le_trans B.fr.size hp,ht,hmp,hST.go hr f9,B.fr.then f9 (fun x hx=>.inl (by simp at hx;simp [hx]))⟩):P:=h
theorem ED (hMB:QG w pM pW pm pc pw n ve c ent mat) (hW:QL w pW n (upd f who (k.cells v))) (hk:who<n) (hne:pM≠pW) (p:Nat) (R:World→Prop) (S:List Nat) (hST:Xe R pM pW ve) (hD:∀b∈S,b≠pM∧b≠pW∧ve.ownBlock≠some b) (hve:∀b,ve.ownBlock=some b→b≠pM∧b≠pW) (HC:∀w',Fr [] w w'→Calls Tryz.prog 82 #[.pointer (some ⟨p,0,none⟩),.pointer (some ⟨pm,0,none⟩)] w' fun e w2=>e=.returned (.bool true)∧R w2∧Fr S w' w2) (hv:v.vq=.pointer (some ⟨p,0,none⟩)) (en:Int) (he:en=0∨en=8) (HA:∀w',R w'→Calls Tryz.prog 83 #[.pointer (some ⟨p,0,none⟩)] w' fun e w2=>e=.returned (.tuple #[.int .i64 en,.bool true])∧Fr [] w' w2):
 Calls Tryz.prog 59 #[.pointer (some ⟨pM,0,none⟩),.int .i64 who] w fun e w'=>e=.returned (.tuple #[])∧∃p2,w.heap.size≤p2∧Jy w' p2 none none c (Qz who)∧QZ w' pM pW pm pc pw n who ve c ent mat f ({k with timed:=decide (en=0)}.QT who true) {v with vd:=.pointer (some ⟨p2,0,none⟩)}∧R w'∧Fr (pM::pW::S) w w':=by
 have HUP:=hid fun w' k' h1 h2=>GD w' pM pW pm pc pw n who ve c ent mat f k' v h1 h2 hk hne true
 obtain ⟨vw,vt,vq,vd⟩:=v
 dsimp only at hv
 subst hv
 have HCS:=hid HC
 have B:Bag (pM::pW::S) w [tRo false pM _ _,tW pW n f who _] w:=(Zn hMB hW hne).mono Lc
 dsimp only [Q8.cells] at B
 clear hMB hW hne HC
 have m:=B.q 0
 go_in
 go_wp2_with fail
 clear m
 refine rgf B fun _ fc B=> ?_
 iterate 8 refine tb ?_
 refine tc 8 fun K hK=> ?_
 go_simp
 refine (HCS.out _ fc).mono ?_
 rintro e w1 ⟨rfl,hr,f1⟩
 replace B:=VJ B f1 (by intro x hx;simp [hx]) (fun b hb=>⟨(hD b hb).1,(hD b hb).2.1⟩)
 go_wp2_with fail
 refine bk hK ?_
 clear hK K
 try go_frame
 refine tb ?_
 refine wpAnyH_done (by decide+kernel) ?_ _
 have q:=B.wq 1 hk
 go_wp2_with fail
 clear q
 refine (HA _ hr).mono ?_
 rintro e w2 ⟨rfl,f2⟩
 replace hr:=hST.go hr f2
 replace B:=B.tm f2
 rcases he with rfl|rfl
 · have q:=B.wq 1 hk;have q0:=B.wq0 1 hk;have u:=B.wu 1;have m:=B.q 0
   go_wp2_with fail
   clear q q0 u m
   generalize hw:World.setCell _ _ _=w3
   replace B:=((B.ws 1 hk)).e hw
   refine (HUP.out _ {k with timed:=true} (B.g 0) (B.g 1)).mono ?_
   exact Z0j
 · have q:=B.wq 1 hk;have q0:=B.wq0 1 hk;have u:=B.wu 1;have m:=B.q 0
   go_wp2_with fail
   clear q q0 u m
   generalize hw:World.setCell _ _ _=w3
   replace B:=((B.ws 1 hk)).e hw
   refine (HUP.out _ {k with timed:=false} (B.g 0) (B.g 1)).mono ?_
   exact Z0j
theorem EA (hMB:QG w pM pW pm pc pw n ve c ent mat) (hW:QL w pW n (upd f who (k.cells v))) (hk:who<n) (hne:pM≠pW) (p:Nat) (R:World→Prop) (S:List Nat) (hST:Xe R pM pW ve) (hD:∀b∈S,b≠pM∧b≠pW∧ve.ownBlock≠some b) (hve:∀b,ve.ownBlock=some b→b≠pM∧b≠pW) (HC:∀w',Fr [] w w'→Calls Tryz.prog 82 #[.pointer (some ⟨p,0,none⟩),.pointer (some ⟨pm,0,none⟩)] w' fun e w2=>e=.returned (.bool true)∧R w2∧Fr S w' w2) (hv:v.vq=.pointer (some ⟨p,0,none⟩)) (HA:∀w',R w'→Calls Tryz.prog 83 #[.pointer (some ⟨p,0,none⟩)] w' fun e w2=>e=.returned (.tuple #[.int .i64 8,.bool true])∧Fr [] w' w2):
 Calls Tryz.prog 63 #[.pointer (some ⟨pM,0,none⟩),.int .i64 who] w fun e w'=>e=.returned (.tuple #[])∧QZ w' pM pW pm pc pw n who ve c ent mat f {k with timed:=false,st:=6} v∧R w'∧Fr (pM::pW::S) w w':=by
 obtain ⟨vw,vt,vq,vd⟩:=v
 dsimp only at hv
 subst hv
 have HCS:=hid HC
 have B:Bag (pM::pW::S) w [tRo false pM _ _,tW pW n f who _] w:=(Zn hMB hW hne).mono Lc
 dsimp only [Q8.cells] at B
 clear hMB hW hne HC
 have m:=B.q 0
 go_in
 go_wp2_with fail
 clear m
 refine rgf B fun _ fc B=> ?_
 iterate 8 refine tb ?_
 refine tc 8 fun K hK=> ?_
 go_simp
 refine (HCS.out _ fc).mono ?_
 rintro e w1 ⟨rfl,hr,f1⟩
 replace B:=VJ B f1 (by intro x hx;simp [hx]) (fun b hb=>⟨(hD b hb).1,(hD b hb).2.1⟩)
 go_wp2_with fail
 refine bk hK ?_
 clear hK K
 try go_frame
 refine tb ?_
 refine wpAnyH_done (by decide+kernel) ?_ _
 have q:=B.wq 1 hk
 go_wp2_with fail
 clear q
 refine (HA _ hr).mono ?_
 rintro e w2 ⟨rfl,f2⟩
 replace hr:=hST.go hr f2
 replace B:=B.tm f2
 have q:=B.wq 1 hk;have q0:=B.wq0 1 hk;have u:=B.wu 1;have m:=B.q 0
 go_wp2_with fail
 clear q q0 u m
 generalize hw:World.setCell _ _ _=w3
 replace B:=(((B.ws 1 hk).ws0 1 hk)).e hw
 first
  |go_end0
  |(try simp only [Exit.inBlock,Exit.then]
    refine bodyPost_ret (results_none rfl _ _ _) rfl ?_)
 exact ⟨rfl,⟨B.g 0,B.g 1⟩,hST.go hr (show Fr [pW] _ _ from hw▸((Fr.refl [pW] w2).sc pW _ _).trans ((Fr.refl [pW] _).sc pW _ _)),B.fr⟩
end
section
open Go.RowKit Go.Shelf Go.Lib
attribute [local go_sem] Oper.semAt_some
variable (w:World) (pM pW pm pc pw n who:Nat) (ve:Value) (c:Q0) (ent mat:Int) (f:Nat→List Value) (k:Q8) (v:Je)
structure Y1 (w:World) (bt bm bw pM p:Nat) (who:Int) (ty:TypeId):Prop where
 ft:w.heap[bt]?=some (.cells #[.pointer (some ⟨p,0,none⟩)] ty (0,0))
 fm:w.heap[bm]?=some (.cells #[.pointer (some ⟨pM,0,none⟩)] 28 (0,0))
 fw:w.heap[bw]?=some (.cells #[.int .i64 who] 3 (0,0))
 ne:bt≠bm∧bt≠bw∧bm≠bw
theorem Y1.ov {w w':World} {bt bm bw pM p:Nat} {who:Int} {ty:TypeId} (h:Y1 w bt bm bw pM p who ty) {S:List Nat} (f:Fr S w w') (h1:bt∉S) (h2:bm∉S) (h3:bw∉S):Y1 w' bt bm bw pM p who ty:=⟨f.at h.ft h1,f.at h.fm h2,f.at h.fw h3,h.ne⟩
def Q05 (w:World) (fn:FuncId) (pM p:Nat) (who:Int) (ty:TypeId) (e:Ending) (w':World):Prop:=∃bt bm bw,e=.returned (.func (.func fn) #[] #[.pointer (some ⟨bt,0,none⟩),.pointer (some ⟨bm,0,none⟩),.pointer (some ⟨bw,0,none⟩)])∧w.heap.size≤bt∧w.heap.size≤bm∧w.heap.size≤bw∧Y1 w' bt bm bw pM p who ty∧Fr [] w w'
theorem EY {w:World} {pM pW pm pc pw n who p bt bm bw:Nat} {ve:Value} {c:Q0} {ent mat:Int} {f:Nat→List Value} {k:Q8} {v:Je} {ty:TypeId} (hMB:QG w pM pW pm pc pw n ve c ent mat) (hW:QL w pW n (upd f who (k.cells v))) (hne:pM≠pW) (X:Y1 w bt bm bw pM p who ty) (hB:(bt≠pM∧bt≠pW)∧(bm≠pM∧bm≠pW)∧(bw≠pM∧bw≠pW)):
 Bag [pW] w [⟨false,[pM],fun w=>QG w pM pW pm pc pw n ve c ent mat,fun f h k=>k.fr f (h _ Lc)⟩,tW pW n f who (k.cells v),tRo false bt #[.pointer (some ⟨p,0,none⟩)] ty,tRo false bm #[.pointer (some ⟨pM,0,none⟩)] 28,tRo false bw #[.int .i64 who] 3] w:=by
 have h1:=Q9 hMB;have h2:=hW.lt;have h3:=Q9 X.ft;have h4:=Q9 X.fm;have h5:=Q9 X.fw;have hn:=X.ne
 refine Bag.of ?_ (by simp;omega) (by simp;omega) ?_
 · simp only [List.forall_mem_cons];exact ⟨hMB,hW,X.ft,X.fm,X.fw,Lc⟩
 · intro T hT ho x hx
   simp only [List.mem_cons,List.not_mem_nil,or_false] at hT
   rcases hT with rfl|rfl|rfl|rfl|rfl
   · cases ho
   · simpa using hx
   all_goals cases ho
theorem Kl {S0 S:List Nat} {w0 w w':World} {pM pW n who bt bm bw:Nat} {f:Nat→List Value} {C:List Value} {A A2 A3 A4:Array Value} {t t2 t3 t4:TypeId} (B:Bag S0 w0 [tRo false pM A t,tW pW n f who C,tRo false bt A2 t2,tRo false bm A3 t3,tRo false bw A4 t4] w) (g:Fr S w w') (h0:∀x∈S,x∈S0) (hD:∀b∈S,b≠pM∧b≠pW) (hDB:∀b∈S,b≠bt∧b≠bm∧b≠bw):
 Bag S0 w0 [tRo false pM A t,tW pW n f who C,tRo false bt A2 t2,tRo false bm A3 t3,tRo false bw A4 t4] w':=
 B.fo g h0 fun i x hx hm=>by
  have h1:=hD x hm
  have h2:=hDB x hm
  rcases i with _|_|_|_|_|i
  · simp [gt] at hx;exact h1.1 hx
  · simp [gt] at hx;exact h1.2 hx
  · simp [gt] at hx;exact h2.1 hx
  · simp [gt] at hx;exact h2.2.1 hx
  · simp [gt] at hx;exact h2.2.2 hx
  · simp [gt,Th.nil] at hx
theorem Z0e {P:Prop} (h:P:=by
 go_in
 go_wp2
 go_ret
 generalize hw:World.alloc w _=w1,hb:(World.heap w).size=b
 generalize hw2:World.alloc w1 _=w2
 generalize hw3:World.alloc w2 _=w3
 have B:=(Bag.nil [] w).al3 hw hb hw2 hw3
 exact ⟨_,_,_,rfl,Lb,Lb,Lb,⟨B.g 2,B.g 0,B.g 1,Lb⟩,B.fr⟩):P:=h
theorem Uh (w:World) (pM p:Nat) (who:Int):Calls Tryz.prog 79 #[.pointer (some ⟨pM,0,none⟩),.int .i64 who,.pointer (some ⟨p,0,none⟩)] w (Q05 w 113 pM p who 134):=by
 exact Z0e
theorem Dw (w:World) (pM p:Nat) (who:Int):Calls Tryz.prog 96 #[.pointer (some ⟨pM,0,none⟩),.int .i64 who,.pointer (some ⟨p,0,none⟩)] w (Q05 w 146 pM p who 156):=by
 exact Z0e
theorem GH (w:World) (pM p:Nat) (who:Int):Calls Tryz.prog 100 #[.pointer (some ⟨pM,0,none⟩),.int .i64 who,.pointer (some ⟨p,0,none⟩)] w (Q05 w 149 pM p who 159):=by
 exact Z0e
theorem Q6H (hMB:QG w pM pW pm pc pw n ve c ent mat) (hW:QL w pW n (upd f who (k.cells v))) (hk:who<n) (hne:pM≠pW) (p:Nat) (R:World→Prop) (S:List Nat) (hST:Xe R pM pW ve) (hD:∀b∈S,b≠pM∧b≠pW∧ve.ownBlock≠some b) (hve:∀b,ve.ownBlock=some b→b≠pM∧b≠pW) (bt bm bw:Nat) (B:Y1 w bt bm bw pM p who 156) (hB:(bt≠pM∧bt≠pW)∧(bm≠pM∧bm≠pW)∧(bw≠pM∧bw≠pW)) (hDB:∀b∈S,b≠bt∧b≠bm∧b≠bw) (HC:∀w',Fr [] w w'→Calls Tryz.prog 147 #[.pointer (some ⟨p,0,none⟩),.pointer (some ⟨pm,0,none⟩)] w' fun e w2=>e=.returned (.bool false)∧R w2∧Fr S w' w2):
 Calls Tryz.prog 146 #[.pointer (some ⟨bt,0,none⟩),.pointer (some ⟨bm,0,none⟩),.pointer (some ⟨bw,0,none⟩)] w fun e w'=>e=.returned (.tuple #[])∧QZ w' pM pW pm pc pw n who ve c ent mat f k v∧R w'∧Fr (pM::pW::S) w w':=by
 obtain ⟨xt,xm,xw,xn⟩:=B
 have HCS:=hid HC
 have B:Bag (pM::pW::S) w [tRo false pM _ _,tW pW n f who _,tRo false bt _ _,tRo false bm _ _,tRo false bw _ _] w:=(EY hMB hW hne ⟨xt,xm,xw,xn⟩ hB).mono Lc
 dsimp only [Q8.cells] at B
 clear hMB hW hne HC xt xm xw xn hB
 go_in
 go_wp2_with fail
 refine rgf B fun _ fc B=> ?_
 iterate 5 refine tb ?_
 refine tc 5 fun K hK=> ?_
 go_simp
 refine (HCS.out _ fc).mono ?_
 rintro e w1 ⟨rfl,hr,f1⟩
 replace B:=Kl B f1 (by intro x hx;simp [hx]) (fun b hb=>⟨(hD b hb).1,(hD b hb).2.1⟩) hDB
 go_wp2_with fail
 refine bk hK ?_
 clear hK K
 try go_frame
 refine wpAnyH_done (by decide+kernel) ?_ _
 go_wp2
 first
  |go_end0
  |(try simp only [Exit.inBlock,Exit.then]
    refine bodyPost_ret (results_none rfl _ _ _) rfl ?_)
 exact ⟨rfl,⟨B.g 0,B.g 1⟩,hr,B.fr⟩
theorem Q4S (hMB:QG w pM pW pm pc pw n ve c ent mat) (hW:QL w pW n (upd f who (k.cells v))) (hk:who<n) (hne:pM≠pW) (p:Nat) (R:World→Prop) (S:List Nat) (hST:Xe R pM pW ve) (hD:∀b∈S,b≠pM∧b≠pW∧ve.ownBlock≠some b) (hve:∀b,ve.ownBlock=some b→b≠pM∧b≠pW) (bt bm bw:Nat) (B:Y1 w bt bm bw pM p who 156) (hB:(bt≠pM∧bt≠pW)∧(bm≠pM∧bm≠pW)∧(bw≠pM∧bw≠pW)) (hDB:∀b∈S,b≠bt∧b≠bm∧b≠bw) (HC:∀w',Fr [] w w'→Calls Tryz.prog 147 #[.pointer (some ⟨p,0,none⟩),.pointer (some ⟨pm,0,none⟩)] w' fun e w2=>e=.returned (.bool true)∧R w2∧Fr S w' w2) (en sn:Int) (HA:∀w',R w'→Calls Tryz.prog 148 #[.pointer (some ⟨p,0,none⟩)] w' fun e w2=>e=.returned (.tuple #[.int .i64 en,.bool true])∧Fr [] w' w2):
 Calls Tryz.prog 146 #[.pointer (some ⟨bt,0,none⟩),.pointer (some ⟨bm,0,none⟩),.pointer (some ⟨bw,0,none⟩)] w fun e w'=>e=.returned (.tuple #[])∧∃p2,w.heap.size≤p2∧Jy w' p2 none none c (Qz who)∧QZ w' pM pW pm pc pw n who ve c ent mat f (k.end_ who {ev0 with e:=en}) {v with vd:=.pointer (some ⟨p2,0,none⟩)}∧R w'∧Fr (pM::pW::S) w w':=by
 have HEN:=hid fun w' k' h1 h2=>XY w' pM pW pm pc pw n who ve c ent mat f k' v h1 h2 hk hne {ev0 with e:=en}
 obtain ⟨xt,xm,xw,xn⟩:=B
 have HCS:=hid HC
 have B:Bag (pM::pW::S) w [tRo false pM _ _,tW pW n f who _,tRo false bt _ _,tRo false bm _ _,tRo false bw _ _] w:=(EY hMB hW hne ⟨xt,xm,xw,xn⟩ hB).mono Lc
 dsimp only [Q8.cells] at B
 clear hMB hW hne HC xt xm xw xn hB
 go_in
 go_wp2_with fail
 refine rgf B fun _ fc B=> ?_
 iterate 5 refine tb ?_
 refine tc 5 fun K hK=> ?_
 go_simp
 refine (HCS.out _ fc).mono ?_
 rintro e w1 ⟨rfl,hr,f1⟩
 replace B:=Kl B f1 (by intro x hx;simp [hx]) (fun b hb=>⟨(hD b hb).1,(hD b hb).2.1⟩) hDB
 go_wp2_with fail
 refine bk hK ?_
 clear hK K
 try go_frame
 refine wpAnyH_done (by decide+kernel) ?_ _
 have q2:=B.q 2
 go_wp2_with fail
 clear q2
 refine (HA _ hr).mono ?_
 rintro e w2 ⟨rfl,f2⟩
 replace hr:=hST.go hr f2
 replace B:=B.tm f2
 have q3:=B.q 3;have q4:=B.q 4
 go_wp2_with fail
 refine (HEN.out _ k (B.g 0) (B.g 1)).mono ?_
 rintro e w9 ⟨rfl,p2,hp,ht,hmp,f9⟩
 go_wp2_with fail
 first
  |go_end0
  |(try simp only [Exit.inBlock,Exit.then]
    refine bodyPost_ret (results_none rfl _ _ _) rfl ?_)
 exact ⟨rfl,p2,Nat.le_trans B.fr.size hp,ht,hmp,hST.go hr f9,B.fr.then f9 (fun x hx=>.inl (by simp at hx;simp [hx]))⟩
theorem Q2s (hMB:QG w pM pW pm pc pw n ve c ent mat) (hW:QL w pW n (upd f who (k.cells v))) (hk:who<n) (hne:pM≠pW) (p:Nat) (R:World→Prop) (S:List Nat) (hST:Xe R pM pW ve) (hD:∀b∈S,b≠pM∧b≠pW∧ve.ownBlock≠some b) (hve:∀b,ve.ownBlock=some b→b≠pM∧b≠pW) (bt bm bw:Nat) (B:Y1 w bt bm bw pM p who 159) (hB:(bt≠pM∧bt≠pW)∧(bm≠pM∧bm≠pW)∧(bw≠pM∧bw≠pW)) (hDB:∀b∈S,b≠bt∧b≠bm∧b≠bw) (HC:∀w',Fr [] w w'→Calls Tryz.prog 150 #[.pointer (some ⟨p,0,none⟩),.pointer (some ⟨pm,0,none⟩)] w' fun e w2=>e=.returned (.bool false)∧R w2∧Fr S w' w2):
 Calls Tryz.prog 149 #[.pointer (some ⟨bt,0,none⟩),.pointer (some ⟨bm,0,none⟩),.pointer (some ⟨bw,0,none⟩)] w fun e w'=>e=.returned (.tuple #[])∧QZ w' pM pW pm pc pw n who ve c ent mat f k v∧R w'∧Fr (pM::pW::S) w w':=by
 obtain ⟨xt,xm,xw,xn⟩:=B
 have HCS:=hid HC
 have B:Bag (pM::pW::S) w [tRo false pM _ _,tW pW n f who _,tRo false bt _ _,tRo false bm _ _,tRo false bw _ _] w:=(EY hMB hW hne ⟨xt,xm,xw,xn⟩ hB).mono Lc
 dsimp only [Q8.cells] at B
 clear hMB hW hne HC xt xm xw xn hB
 go_in
 go_wp2_with fail
 refine rgf B fun _ fc B=> ?_
 iterate 5 refine tb ?_
 refine tc 5 fun K hK=> ?_
 go_simp
 refine (HCS.out _ fc).mono ?_
 rintro e w1 ⟨rfl,hr,f1⟩
 replace B:=Kl B f1 (by intro x hx;simp [hx]) (fun b hb=>⟨(hD b hb).1,(hD b hb).2.1⟩) hDB
 go_wp2_with fail
 refine bk hK ?_
 clear hK K
 try go_frame
 refine wpAnyH_done (by decide+kernel) ?_ _
 go_wp2
 first
  |go_end0
  |(try simp only [Exit.inBlock,Exit.then]
    refine bodyPost_ret (results_none rfl _ _ _) rfl ?_)
 exact ⟨rfl,⟨B.g 0,B.g 1⟩,hr,B.fr⟩
theorem Q0S (hMB:QG w pM pW pm pc pw n ve c ent mat) (hW:QL w pW n (upd f who (k.cells v))) (hk:who<n) (hne:pM≠pW) (p:Nat) (R:World→Prop) (S:List Nat) (hST:Xe R pM pW ve) (hD:∀b∈S,b≠pM∧b≠pW∧ve.ownBlock≠some b) (hve:∀b,ve.ownBlock=some b→b≠pM∧b≠pW) (bt bm bw:Nat) (B:Y1 w bt bm bw pM p who 159) (hB:(bt≠pM∧bt≠pW)∧(bm≠pM∧bm≠pW)∧(bw≠pM∧bw≠pW)) (hDB:∀b∈S,b≠bt∧b≠bm∧b≠bw) (HC:∀w',Fr [] w w'→Calls Tryz.prog 150 #[.pointer (some ⟨p,0,none⟩),.pointer (some ⟨pm,0,none⟩)] w' fun e w2=>e=.returned (.bool true)∧R w2∧Fr S w' w2) (en sn:Int) (HA:∀w',R w'→Calls Tryz.prog 151 #[.pointer (some ⟨p,0,none⟩)] w' fun e w2=>e=.returned (.tuple #[.int .i64 en,.int .i64 sn,.bool true])∧Fr [] w' w2):
 Calls Tryz.prog 149 #[.pointer (some ⟨bt,0,none⟩),.pointer (some ⟨bm,0,none⟩),.pointer (some ⟨bw,0,none⟩)] w fun e w'=>e=.returned (.tuple #[])∧∃p2,w.heap.size≤p2∧Jy w' p2 none none c (Qz who)∧QZ w' pM pW pm pc pw n who ve c ent mat f (k.end_ who {ev0 with e:=en,stream:=sn}) {v with vd:=.pointer (some ⟨p2,0,none⟩)}∧R w'∧Fr (pM::pW::S) w w':=by
 have HEN:=hid fun w' k' h1 h2=>XY w' pM pW pm pc pw n who ve c ent mat f k' v h1 h2 hk hne {ev0 with e:=en,stream:=sn}
 obtain ⟨xt,xm,xw,xn⟩:=B
 have HCS:=hid HC
 have B:Bag (pM::pW::S) w [tRo false pM _ _,tW pW n f who _,tRo false bt _ _,tRo false bm _ _,tRo false bw _ _] w:=(EY hMB hW hne ⟨xt,xm,xw,xn⟩ hB).mono Lc
 dsimp only [Q8.cells] at B
 clear hMB hW hne HC xt xm xw xn hB
 go_in
 go_wp2_with fail
 refine rgf B fun _ fc B=> ?_
 iterate 5 refine tb ?_
 refine tc 5 fun K hK=> ?_
 go_simp
 refine (HCS.out _ fc).mono ?_
 rintro e w1 ⟨rfl,hr,f1⟩
 replace B:=Kl B f1 (by intro x hx;simp [hx]) (fun b hb=>⟨(hD b hb).1,(hD b hb).2.1⟩) hDB
 go_wp2_with fail
 refine bk hK ?_
 clear hK K
 try go_frame
 refine wpAnyH_done (by decide+kernel) ?_ _
 have q2:=B.q 2
 go_wp2_with fail
 clear q2
 refine (HA _ hr).mono ?_
 rintro e w2 ⟨rfl,f2⟩
 replace hr:=hST.go hr f2
 replace B:=B.tm f2
 have q3:=B.q 3;have q4:=B.q 4
 go_wp2_with fail
 refine (HEN.out _ k (B.g 0) (B.g 1)).mono ?_
 rintro e w9 ⟨rfl,p2,hp,ht,hmp,f9⟩
 go_wp2_with fail
 first
  |go_end0
  |(try simp only [Exit.inBlock,Exit.then]
    refine bodyPost_ret (results_none rfl _ _ _) rfl ?_)
 exact ⟨rfl,p2,Nat.le_trans B.fr.size hp,ht,hmp,hST.go hr f9,B.fr.then f9 (fun x hx=>.inl (by simp at hx;simp [hx]))⟩
end
end Go.Proofs.YtgjklfmnmljilaaGreatDoor
