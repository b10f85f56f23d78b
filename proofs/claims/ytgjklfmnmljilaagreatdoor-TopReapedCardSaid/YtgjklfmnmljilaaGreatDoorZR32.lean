/- A part of the proof. -/
import Derived.Test.YtgjklfmnmljilaaGreatDoorZR31
namespace Go.Proofs.YtgjklfmnmljilaaGreatDoor
set_option linter.unusedVariables false
set_option linter.unusedSimpArgs false
set_option linter.unusedSectionVars false
set_option linter.unnecessarySimpa false
set_option maxRecDepth 100000
set_option maxHeartbeats 8000000
section
open Go.RowKit Go.Shelf Go.Lib
attribute [local go_sem] Oper.semAt_some
structure YB (w:World) (pM pW pm pc pw n who:Nat) (ve:Value) (c:Q0) (ent mat:Int) (f:Nat→List Value) (k:Q8) (v:Je) (qm:Nat) (M:List Int) (N:Int) (q pf:Nat) (pr:Option Nat) (r:Qy) (bt bm bw:Nat):Prop where
 mb:QG w pM pW pm pc pw n ve c ent mat
 wr:QL w pW n (upd f who (k.cells v))
 hk:who<n
 me:Qm w pm qm M N
 hN:N≤1000000000
 rp:Xp w q pf pr r
 fd:QY w pf c r.look
 bx:Y1 w bt bm bw pM q who 200
 nd:[0,pM,pW,pm,qm,q,pf,bt,bm,bw].Nodup
 fl:Qe w 0 Qc
 cf:c.fits
variable {w:World} {pM pW pm pc pw n who:Nat} {ve:Value} {c:Q0} {ent mat:Int} {f:Nat→List Value} {k:Q8} {v:Je} {qm:Nat} {M:List Int} {N:Int} {q pf:Nat} {pr:Option Nat} {r:Qy} {bt bm bw:Nat}
theorem YB.bag (H:YB w pM pW pm pc pw n who ve c ent mat f k v qm M N q pf pr r bt bm bw):Bag [pW,q,pf,pm,qm] w [⟨false,[pM],fun w=>QG w pM pW pm pc pw n ve c ent mat,fun f h k=>k.fr f (h _ Lc)⟩,tW pW n f who (k.cells v),tRo false bt #[.pointer (some ⟨q,0,none⟩)] 200,tRo false bm #[.pointer (some ⟨pM,0,none⟩)] 28,tRo false bw #[.int .i64 who] 3,tRp q pf pr r,tF,tM pm qm M N,tFd pf c r.look] w:=
 (Bag.of (S0:=[pW,q,pf,pm,qm]) (L:=[tF,⟨false,[pM],fun w=>QG w pM pW pm pc pw n ve c ent mat,fun f h k=>k.fr f (h _ Lc)⟩,tW pW n f who (k.cells v),tM pm qm M N,tRp q pf pr r,tFd pf c r.look,tRo false bt #[.pointer (some ⟨q,0,none⟩)] 200,tRo false bm #[.pointer (some ⟨pM,0,none⟩)] 28,tRo false bw #[.int .i64 who] 3])
   (by simp only [List.forall_mem_cons];exact ⟨H.fl,H.mb,H.wr,H.me,H.rp,H.fd,H.bx.ft,H.bx.fm,H.bx.fw,Lc⟩) H.nd
   (by have:=Q9 H.mb;have:=H.wr.lt;have:=H.me.plt;have:=H.me.qlt;have:=Q9 H.rp;have:=Q9 H.fd;have:=Q9 H.bx.ft;have:=Q9 H.bx.fm;have:=Q9 H.bx.fw;simp;omega)
   Lc).sel [1,2,6,7,8,4,0,3,5]
theorem YB.ap (H:YB w pM pW pm pc pw n who ve c ent mat f k v qm M N q pf pr r bt bm bw):(pf≠pm∧pf≠qm)∧(0<pf∧0<pm∧0<qm)∧q≠pf:=by
 have h:=H.nd
 simp only [List.nodup_cons,List.mem_cons,List.not_mem_nil,or_false,not_or] at h
 obtain ⟨h1, -, -,h2,h3,h4, -⟩:=h
 exact ⟨⟨Ne.symm h2.2.2.1,Ne.symm h3.2.1⟩,⟨Nat.pos_of_ne_zero (Ne.symm h1.2.2.2.2.2.1),Nat.pos_of_ne_zero (Ne.symm h1.2.2.1),Nat.pos_of_ne_zero (Ne.symm h1.2.2.2.1)⟩,h4.1⟩
theorem Q0U (H:YB w pM pW pm pc pw n who ve c ent mat f k v qm M N q pf pr r bt bm bw) (hst:r.st=0) (hok:r.look.ok c) (hS:X5 c M) (hx:(QB c r.look M).1.found=true):
 Calls Tryz.prog 155 #[.pointer (some ⟨bt,0,none⟩),.pointer (some ⟨bm,0,none⟩),.pointer (some ⟨bw,0,none⟩)] w fun e w'=>e=.returned (.tuple #[])∧Xp w' q pf pr {r with look:=(QB c r.look M).1,st:=1}∧QY w' pf c (QB c r.look M).1∧Qm w' pm qm M (N+1)∧QZ w' pM pW pm pc pw n who ve c ent mat f k v∧Fr [pW,q,pf,pm,qm] w w':=by
 obtain ⟨a1,a2,a3⟩:=H.ap
 have HST:=hid fun w' h1 h2 h3=>YZ w' pf pm qm c r.look M N h1 h2 H.hN a1 H.cf hok hS h3 a2
 unfold Q3H at HST
 generalize QB c r.look M=x at HST hx
 obtain ⟨x1,x2⟩:=x
 have HFO:=hid fun w' h=>X4 w' pf c x1 h
 dsimp only at HST hx
 simp only [hx] at HFO HST
 clear hok hS a1 a2 a3
 have hk:=H.hk
 have B:=H.bag
 clear H
 obtain ⟨rst,rmany,rlook,rret⟩:=r
 dsimp only [Q8.cells] at*
 subst hst
 have q2:=B.q 2;have q5:=B.q 5
 go_in
 go_wp2_with fail
 clear q2 q5
 refine rgx [0,1,2,3,4,5,6] B fun _ B=> ?_
 iterate 8 refine tb ?_
 refine tc 8 fun K hK=> ?_
 go_simp
 refine (HST.out _ (B.g 8) (B.g 7) (B.g 6)).mono ?_
 rintro e w1 ⟨rfl,h1,h2,f1⟩
 replace B:=B.up2 8 7 (T:=tFd pf c x1) (T':=tM pm qm M (N+1)) h1 h2 f1
 go_wp2_with fail
 refine bk hK ?_
 clear hK K
 try go_frame
 refine tb ?_
 refine wpAnyH_done (by decide+kernel) ?_ _
 have q2:=B.q 2;have q5:=B.q 5
 go_wp2_with fail
 refine (HFO.out _ (B.g 8)).mono ?_
 rintro e w2 ⟨rfl,f2⟩
 replace B:=B.tm f2
 clear q2 q5
 have q2:=B.q 2;have q5:=B.q 5;have u:=B.u 5
 go_wp2_with fail
 clear q2 q5 u
 generalize hw:World.setCell _ _ _=w3
 replace B:=(B.s 5).e hw
 first
  |go_end0
  |(try simp only [Exit.inBlock,Exit.then]
    refine bodyPost_ret (results_none rfl _ _ _) rfl ?_)
 exact ⟨rfl,B.g 5,B.g 8,B.g 7,⟨B.g 0,B.g 1⟩,B.fr⟩
theorem Q2v (H:YB w pM pW pm pc pw n who ve c ent mat f k v qm M N q pf pr r bt bm bw) (hst:r.st=0) (hok:r.look.ok c) (hS:X5 c M) (hx:(QB c r.look M).1.found=false∧(QB c r.look M).2=false):
 Calls Tryz.prog 155 #[.pointer (some ⟨bt,0,none⟩),.pointer (some ⟨bm,0,none⟩),.pointer (some ⟨bw,0,none⟩)] w fun e w'=>e=.returned (.tuple #[])∧Xp w' q pf pr {r with look:=(QB c r.look M).1}∧QY w' pf c (QB c r.look M).1∧Qm w' pm qm M (N+1)∧QZ w' pM pW pm pc pw n who ve c ent mat f k v∧Fr [pW,q,pf,pm,qm] w w':=by
 obtain ⟨a1,a2,a3⟩:=H.ap
 have HST:=hid fun w' h1 h2 h3=>YZ w' pf pm qm c r.look M N h1 h2 H.hN a1 H.cf hok hS h3 a2
 unfold Q3H at HST
 generalize QB c r.look M=x at HST hx
 obtain ⟨x1,x2⟩:=x
 have HFO:=hid fun w' h=>X4 w' pf c x1 h
 dsimp only at HST hx
 simp only [hx] at HFO HST
 clear hok hS a1 a2 a3
 have hk:=H.hk
 have B:=H.bag
 clear H
 obtain ⟨rst,rmany,rlook,rret⟩:=r
 dsimp only [Q8.cells] at*
 subst hst
 have q2:=B.q 2;have q5:=B.q 5
 go_in
 go_wp2_with fail
 clear q2 q5
 refine rgx [0,1,2,3,4,5,6] B fun _ B=> ?_
 iterate 8 refine tb ?_
 refine tc 8 fun K hK=> ?_
 go_simp
 refine (HST.out _ (B.g 8) (B.g 7) (B.g 6)).mono ?_
 rintro e w1 ⟨rfl,h1,h2,f1⟩
 replace B:=B.up2 8 7 (T:=tFd pf c x1) (T':=tM pm qm M (N+1)) h1 h2 f1
 go_wp2_with fail
 refine bk hK ?_
 clear hK K
 try go_frame
 refine tb ?_
 refine wpAnyH_done (by decide+kernel) ?_ _
 have q2:=B.q 2;have q5:=B.q 5
 go_wp2_with fail
 refine (HFO.out _ (B.g 8)).mono ?_
 rintro e w2 ⟨rfl,f2⟩
 replace B:=B.tm f2
 clear q2 q5
 go_wp2_with fail
 first
  |go_end0
  |(try simp only [Exit.inBlock,Exit.then]
    refine bodyPost_ret (results_none rfl _ _ _) rfl ?_)
 exact ⟨rfl,B.g 5,B.g 8,B.g 7,⟨B.g 0,B.g 1⟩,B.fr⟩
theorem Q4H (H:YB w pM pW pm pc pw n who ve c ent mat f k v qm M N q pf pr r bt bm bw) (hst:r.st=0) (hok:r.look.ok c) (hS:X5 c M) (hx:(QB c r.look M).1.found=false∧(QB c r.look M).2=true):
 Calls Tryz.prog 155 #[.pointer (some ⟨bt,0,none⟩),.pointer (some ⟨bm,0,none⟩),.pointer (some ⟨bw,0,none⟩)] w fun e w'=>e=.returned (.tuple #[])∧Xp w' q pf pr {r with look:=(QB c r.look M).1}∧QY w' pf c (QB c r.look M).1∧Qm w' pm qm M (N+1)∧(∃p2,w.heap.size≤p2∧Jy w' p2 none none c (Qz who)∧QZ w' pM pW pm pc pw n who ve c ent mat f (k.end_ who {ev0 with slot:=r.many}) {v with vd:=.pointer (some ⟨p2,0,none⟩)})∧Fr [pW,q,pf,pm,qm] w w':=by
 obtain ⟨a1,a2,a3⟩:=H.ap
 have HST:=hid fun w' h1 h2 h3=>YZ w' pf pm qm c r.look M N h1 h2 H.hN a1 H.cf hok hS h3 a2
 unfold Q3H at HST
 generalize QB c r.look M=x at HST hx
 obtain ⟨x1,x2⟩:=x
 have HFO:=hid fun w' h=>X4 w' pf c x1 h
 dsimp only at HST hx
 simp only [hx] at HFO HST
 clear hok hS a1 a2 a3
 have hne:pM≠pW:=fun e=>by have:=H.nd;simp [e] at this
 have HEN:=hid fun w' h1 h2=>XY w' pM pW pm pc pw n who ve c ent mat f k v h1 h2 H.hk hne {ev0 with slot:=r.many}
 unfold EvV.val EvV.cells ev0 Yy at HEN
 dsimp only at HEN
 have hk:=H.hk
 have B:=H.bag
 clear H
 obtain ⟨rst,rmany,rlook,rret⟩:=r
 dsimp only [Q8.cells] at*
 subst hst
 have q2:=B.q 2;have q5:=B.q 5
 go_in
 go_wp2_with fail
 clear q2 q5
 refine rgx [0,1,2,3,4,5,6] B fun _ B=> ?_
 iterate 8 refine tb ?_
 refine tc 8 fun K hK=> ?_
 go_simp
 refine (HST.out _ (B.g 8) (B.g 7) (B.g 6)).mono ?_
 rintro e w1 ⟨rfl,h1,h2,f1⟩
 replace B:=B.up2 8 7 (T:=tFd pf c x1) (T':=tM pm qm M (N+1)) h1 h2 f1
 go_wp2_with fail
 refine bk hK ?_
 clear hK K
 try go_frame
 refine tb ?_
 refine wpAnyH_done (by decide+kernel) ?_ _
 have q2:=B.q 2;have q5:=B.q 5
 go_wp2_with fail
 refine (HFO.out _ (B.g 8)).mono ?_
 rintro e w2 ⟨rfl,f2⟩
 replace B:=B.tm f2
 clear q2 q5
 go_wp2_with fail
 replace B:=B.sel [0,2,3,4,5,1,6,7,8]
 refine rgx [0,1,2,3,4] B fun _ B=> ?_
 repeat refine tb ?_
 refine tc 7 fun K hK=> ?_
 go_simp
 refine (HEN.out _ (B.g 0) (B.g 5)).mono ?_
 rintro e w3 ⟨rfl,p,hp,ht,hmp,f3⟩
 replace hp:=Nat.le_trans B.fr.size hp
 replace B:=B.up 5 (T':=tW pW n f who _) hmp.wr f3
 go_wp2_with fail
 refine bk hK ?_
 clear hK K
 try go_frame
 refine wpAnyH_done (by decide+kernel) ?_ _
 go_wp2_with fail
 first
  |go_end0
  |(try simp only [Exit.inBlock,Exit.then]
    refine bodyPost_ret (results_none rfl _ _ _) rfl ?_)
 exact ⟨rfl,B.g 4,B.g 8,B.g 7,⟨p,hp,ht,hmp⟩,B.fr⟩
theorem Du (H:YB w pM pW pm pc pw n who ve c ent mat f k v qm M N q pf pr r bt bm bw) (hst:r.st=1) (LW:List Nat) (X:World→Prop) (hDW:∀b∈LW,b≠pM∧b≠pW) (HASK:∀w',Fr [] w w'→Calls Tryz.prog 158 #[.pointer (some ⟨q,0,none⟩),.pointer (some ⟨pM,0,none⟩)] w' fun e w2=>e=.returned (.tuple #[])∧X w2∧Fr (q::LW) w' w2):
 Calls Tryz.prog 155 #[.pointer (some ⟨bt,0,none⟩),.pointer (some ⟨bm,0,none⟩),.pointer (some ⟨bw,0,none⟩)] w fun e w'=>e=.returned (.tuple #[])∧X w'∧QZ w' pM pW pm pc pw n who ve c ent mat f k v∧Fr (q::LW) w w':=by
 have P0:∀{w'},Fr (q::LW) w w'→QZ w' pM pW pm pc pw n who ve c ent mat f k v:=fun g=>⟨H.mb.fr g fun h=>(List.mem_cons.1 h).elim (fun e=>by have:=H.nd;simp [e] at this) fun h=>(hDW _ h).1 rfl,H.wr.fr g fun h=>(List.mem_cons.1 h).elim (fun e=>by have:=H.nd;simp [e] at this) fun h=>(hDW _ h).2 rfl⟩
 have HAS:=hid HASK
 clear HASK
 have hk:=H.hk
 have B:=H.bag
 clear H
 obtain ⟨rst,rmany,rlook,rret⟩:=r
 dsimp only [Q8.cells] at*
 subst hst
 have q2:=B.q 2;have q5:=B.q 5
 go_in
 have q3:=B.q 3
 go_wp2_with fail
 clear q3 q2 q5
 refine (HAS.out _ (Fr.refl [] w)).mono ?_
 rintro e w1 ⟨rfl,hX,f1⟩
 go_wp2_with fail
 first
  |go_end0
  |(try simp only [Exit.inBlock,Exit.then]
    refine bodyPost_ret (results_none rfl _ _ _) rfl ?_)
 exact ⟨rfl,hX,P0 f1,f1⟩
theorem Uf (H:YB w pM pW pm pc pw n who ve c ent mat f k v qm M N q pf pr r bt bm bw) (hst:r.st=2) (s:Q7) (hfd:r.look.found=true) (hs:s.right) (hw:r.look.word=s.enc) (o1:who≤15) (h0:0≤r.look.at_) (h1:r.look.at_≤1000) (hn:Qk s 10 who 0=none):
 Calls Tryz.prog 155 #[.pointer (some ⟨bt,0,none⟩),.pointer (some ⟨bm,0,none⟩),.pointer (some ⟨bw,0,none⟩)] w fun e w'=>e=.returned (.tuple #[])∧Xp w' q pf pr r.QO∧QY w' pf c r.QO.look∧Qm w' pm qm M (N+1)∧QZ w' pM pW pm pc pw n who ve c ent mat f k v∧Fr [pW,q,pf,pm,qm] w w':=by
 have HFN:=hid fun w' h=>X4 w' pf c r.look h
 simp only [hfd,if_true] at HFN
 have HAF:=hid fun w' h=>Vf w' s 10 who hs Lb Lb Lb h
 rw [←hw,show ((10:Nat):Int)=10 from rfl,hn] at HAF
 have HGO:=hid fun w' a1 a2=>YT w' q pf pr c r a1 a2 h0 h1 H.ap.2.2
 clear hs hw hfd hn h0 h1
 have hk:=H.hk
 have B:=H.bag
 clear H
 obtain ⟨rst,rmany,rlook,rret⟩:=r
 dsimp only [Q8.cells] at*
 subst hst
 have q2:=B.q 2;have q5:=B.q 5
 go_in
 go_wp2_with fail
 clear q2 q5
 refine (HFN.out _ (B.g 8)).mono ?_
 rintro e w1 ⟨rfl,f1⟩
 replace B:=B.tm f1
 have q4:=B.q 4
 go_wp2_with fail
 clear q4
 refine (HAF.out _ (B.g 6)).mono ?_
 rintro e w2 ⟨rfl,f2⟩
 replace B:=B.tm f2
 have q2:=B.q 2
 go_wp2_with fail
 clear q2
 refine (HGO.out _ (B.g 5) (B.g 8)).mono ?_
 rintro e w9 ⟨rfl,a1,a2,f9⟩
 replace B:=B.up2 5 8 (T:=tRp q pf pr _) (T':=tFd pf c _) a1 a2 f9
 go_wp2_with fail
 first
  |go_end0
  |(try simp only [Exit.inBlock,Exit.then]
    refine bodyPost_ret (results_none rfl _ _ _) rfl ?_)
 exact ⟨rfl,B.g 5,B.g 8,(B.g 7).mono Lb,⟨B.g 0,B.g 1⟩,B.fr⟩
theorem Q2w (H:YB w pM pW pm pc pw n who ve c ent mat f k v qm M N q pf pr r bt bm bw) (hst:r.st=2) (s:Q7) (hfd:r.look.found=true) (hs:s.right) (hw:r.look.word=s.enc) (o1:who≤15) (h0:0≤r.look.at_) (h1:r.look.at_≤1000) (u:Q7) (hn:Qk s 10 who 0=some u):
 Calls Tryz.prog 155 #[.pointer (some ⟨bt,0,none⟩),.pointer (some ⟨bm,0,none⟩),.pointer (some ⟨bw,0,none⟩)] w fun e w'=>e=.returned (.tuple #[])∧Xp w' q pf pr r.QO∧QY w' pf c r.QO.look∧Qm w' pm qm (QI M (Q5 c r.look.at_) r.look.word u.enc) (N+1)∧QZ w' pM pW pm pc pw n who ve c ent mat f k v∧Fr [pW,q,pf,pm,qm] w w':=by
 have HFN:=hid fun w' h=>X4 w' pf c r.look h
 simp only [hfd,if_true] at HFN
 have HAF:=hid fun w' h=>Vf w' s 10 who hs Lb Lb Lb h
 rw [←hw,show ((10:Nat):Int)=10 from rfl,hn] at HAF
 have HGO:=hid fun w' a1 a2=>YT w' q pf pr c r a1 a2 h0 h1 H.ap.2.2
 have HSL:=hid fun w'=>J9 w' c r.look.at_ H.cf
 have HCS:=hid fun w' h=>Uw w' pm qm M N (Q5 c r.look.at_) r.look.word u.enc h H.hN
 unfold Q0.val at HSL
 generalize Q5 c r.look.at_=cell at HSL HCS ⊢
 rw [show ET (some u)=u.enc from rfl,Option.isSome_some] at HAF
 generalize u.enc=ue at HAF HCS ⊢
 clear hs hw hfd hn h0 h1
 have hk:=H.hk
 have B:=H.bag
 clear H
 obtain ⟨rst,rmany,rlook,rret⟩:=r
 dsimp only [Q8.cells] at*
 subst hst
 have q2:=B.q 2;have q5:=B.q 5
 go_in
 go_wp2_with fail
 clear q2 q5
 refine (HFN.out _ (B.g 8)).mono ?_
 rintro e w1 ⟨rfl,f1⟩
 replace B:=B.tm f1
 have q4:=B.q 4
 go_wp2_with fail
 clear q4
 refine (HAF.out _ (B.g 6)).mono ?_
 rintro e w2 ⟨rfl,f2⟩
 replace B:=B.tm f2
 go_wp2_with fail
 refine rgx [0,1,2,3,4,5,6] B fun _ B=> ?_
 iterate 9 refine tb ?_
 refine tj 10 ?_
 refine tj 11 ?_
 refine tc 9 fun K hK=> ?_
 go_simp
 refine (HSL.out _).mono ?_
 rintro e w3 ⟨rfl,f3⟩
 replace B:=B.tm f3
 go_wp2_with fail
 refine bk hK ?_
 clear hK K
 try go_frame
 refine tc 12 fun K hK=> ?_
 go_simp
 refine (HCS.out _ (B.g 7)).mono ?_
 rintro e w4 ⟨rfl,h4,f4⟩
 replace B:=B.up 7 (T':=tM pm qm _ _) h4 f4
 go_wp2_with fail
 refine bk hK ?_
 clear hK K
 try go_frame
 refine wpAnyH_done (by decide+kernel) ?_ _
 have q2:=B.q 2
 go_wp2_with fail
 clear q2
 refine (HGO.out _ (B.g 5) (B.g 8)).mono ?_
 rintro e w9 ⟨rfl,a1,a2,f9⟩
 replace B:=B.up2 5 8 (T:=tRp q pf pr _) (T':=tFd pf c _) a1 a2 f9
 go_wp2_with fail
 first
  |go_end0
  |(try simp only [Exit.inBlock,Exit.then]
    refine bodyPost_ret (results_none rfl _ _ _) rfl ?_)
 exact ⟨rfl,B.g 5,B.g 8,B.g 7,⟨B.g 0,B.g 1⟩,B.fr⟩
theorem Q6F (H:YB w pM pW pm pc pw n who ve c ent mat f k v qm M N q pf pr r bt bm bw) (hst:r.st=3) (qr:Nat) (rv:J2) (hpr:pr=some qr) (hrv:JK w qr rv) (hrok:rv.ok) (hqr:qr≠pM∧qr≠pW∧qr≠pm∧qr≠qm∧qr≠q∧qr≠pf∧qr≠bt∧qr≠bm∧qr≠bw∧qr≠0) (h0:0≤r.look.at_) (h1:r.look.at_≤1000) (hx:(Qn rv M).1.done=false):
 Calls Tryz.prog 155 #[.pointer (some ⟨bt,0,none⟩),.pointer (some ⟨bm,0,none⟩),.pointer (some ⟨bw,0,none⟩)] w fun e w'=>e=.returned (.tuple #[])∧Xp w' q pf (some qr) r∧JK w' qr (Qn rv M).1∧QY w' pf c r.look∧Qm w' pm qm (Qn rv M).2 (N+1)∧QZ w' pM pW pm pc pw n who ve c ent mat f k v∧Fr [pW,q,pf,pm,qm,qr] w w':=by
 have hq5:(qr≠pm∧qr≠qm):=⟨hqr.2.2.1,hqr.2.2.2.1⟩
 have HRS:=hid fun w' h hm hg=>Yk w' qr pm qm rv M N hrok h hm H.hN hq5 hg
 unfold Y5 at HRS
 generalize Qn rv M=x at HRS hx ⊢
 obtain ⟨x1,x2⟩:=x
 dsimp only at HRS hx ⊢
 have HDN:=hid fun w' h=>YR w' qr x1 h
 have HGO:=hid fun w' r' (e:r'.look=r.look) a1 a2=>YT w' q pf pr c r' a1 (by rw [e];exact a2) (by rw [e];exact h0) (by rw [e];exact h1) H.ap.2.2
 subst hpr
 have hk:=H.hk
 have B:=(H.bag.mono (S1:=[pW,q,pf,pm,qm,qr]) Lc).add (tRt (some qr) (some rv)) hrv (fun x hx=>by simp at hx;subst hx;exact Q9 hrv) (fun i x hx hm=>by
  simp at hx
  subst hx
  rcases i with _|_|_|_|_|_|_|_|_|i
  all_goals first|(simp [gt,Th.nil] at hm;done)|(simp [gt,Th.nil] at hm;omega)) Lc
 clear H hrok hrv hqr h0 h1 hq5
 obtain ⟨rst,rmany,rlook,rret⟩:=r
 dsimp only [Q8.cells] at*
 subst hst
 simp only [hx] at HRS HDN
 have q2:=B.q 2;have q5:=B.q 5
 go_in
 go_wp2_with fail
 clear q2 q5
 refine rgx [0,1,2,3,4,5,6] B fun _ B=> ?_
 iterate 8 refine tb ?_
 refine tc 8 fun K hK=> ?_
 go_simp
 refine (HRS.out _ (B.g 9) (B.g 7) (B.g 6)).mono ?_
 rintro e w1 ⟨rfl,a1,a2,f1⟩
 replace B:=B.up2 9 7 (T:=tRt (some qr) (some x1)) (T':=tM pm qm _ _) a1 a2 f1
 go_wp2_with fail
 refine bk hK ?_
 clear hK K
 try go_frame
 refine wpAnyH_done (by decide+kernel) ?_ _
 go_wp2_with fail
 first
  |go_end0
  |(try simp only [Exit.inBlock,Exit.then]
    refine bodyPost_ret (results_none rfl _ _ _) rfl ?_)
 exact ⟨rfl,B.g 5,B.g 9,B.g 8,B.g 7,⟨B.g 0,B.g 1⟩,B.fr⟩
theorem UQ (H:YB w pM pW pm pc pw n who ve c ent mat f k v qm M N q pf pr r bt bm bw) (hst:r.st=3) (qr:Nat) (rv:J2) (hpr:pr=some qr) (hrv:JK w qr rv) (hrok:rv.ok) (hqr:qr≠pM∧qr≠pW∧qr≠pm∧qr≠qm∧qr≠q∧qr≠pf∧qr≠bt∧qr≠bm∧qr≠bw∧qr≠0) (h0:0≤r.look.at_) (h1:r.look.at_≤1000) (hm0:0≤r.many) (hm1:r.many≤1000000000) (hx:(Qn rv M).1.done=true∧(Qn rv M).1.swapped=true):
 Calls Tryz.prog 155 #[.pointer (some ⟨bt,0,none⟩),.pointer (some ⟨bm,0,none⟩),.pointer (some ⟨bw,0,none⟩)] w fun e w'=>e=.returned (.tuple #[])∧Xp w' q pf (some qr) ({r with many:=r.many+1}).QO∧JK w' qr (Qn rv M).1∧QY w' pf c ({r with many:=r.many+1}).QO.look∧Qm w' pm qm (Qn rv M).2 (N+1)∧QZ w' pM pW pm pc pw n who ve c ent mat f k v∧Fr [pW,q,pf,pm,qm,qr] w w':=by
 have hm2:(-9000000000000000000≤r.many+1∧r.many+1≤9000000000000000000):=Lb
 have hq5:(qr≠pm∧qr≠qm):=⟨hqr.2.2.1,hqr.2.2.2.1⟩
 have HRS:=hid fun w' h hm hg=>Yk w' qr pm qm rv M N hrok h hm H.hN hq5 hg
 unfold Y5 at HRS
 generalize Qn rv M=x at HRS hx ⊢
 obtain ⟨x1,x2⟩:=x
 dsimp only at HRS hx ⊢
 have HDN:=hid fun w' h=>YR w' qr x1 h
 have HGO:=hid fun w' r' (e:r'.look=r.look) a1 a2=>YT w' q pf pr c r' a1 (by rw [e];exact a2) (by rw [e];exact h0) (by rw [e];exact h1) H.ap.2.2
 subst hpr
 have hk:=H.hk
 have B:=(H.bag.mono (S1:=[pW,q,pf,pm,qm,qr]) Lc).add (tRt (some qr) (some rv)) hrv (fun x hx=>by simp at hx;subst hx;exact Q9 hrv) (fun i x hx hm=>by
  simp at hx
  subst hx
  rcases i with _|_|_|_|_|_|_|_|_|i
  all_goals first|(simp [gt,Th.nil] at hm;done)|(simp [gt,Th.nil] at hm;omega)) Lc
 clear H hrok hrv hqr h0 h1 hq5
 obtain ⟨rst,rmany,rlook,rret⟩:=r
 dsimp only [Q8.cells] at*
 subst hst
 simp only [hx] at HRS HDN
 have q2:=B.q 2;have q5:=B.q 5
 go_in
 go_wp2_with fail
 clear q2 q5
 refine rgx [0,1,2,3,4,5,6] B fun _ B=> ?_
 iterate 8 refine tb ?_
 refine tc 8 fun K hK=> ?_
 go_simp
 refine (HRS.out _ (B.g 9) (B.g 7) (B.g 6)).mono ?_
 rintro e w1 ⟨rfl,a1,a2,f1⟩
 replace B:=B.up2 9 7 (T:=tRt (some qr) (some x1)) (T':=tM pm qm _ _) a1 a2 f1
 go_wp2_with fail
 refine bk hK ?_
 clear hK K
 try go_frame
 refine wpAnyH_done (by decide+kernel) ?_ _
 have q2:=B.q 2;have q5:=B.q 5;have u:=B.u 5
 go_wp2_with fail
 clear q2 q5 u
 refine (HDN.out _ (B.g 9)).mono ?_
 rintro e w2 ⟨rfl,f2⟩
 replace B:=B.tm f2
 have q2:=B.q 2;have q5:=B.q 5;have u:=B.u 5
 go_wp2_with fail
 clear q2 q5 u
 generalize hw:World.setCell _ _ _=w3
 replace B:=(B.s 5).e hw
 have q2:=B.q 2
 go_wp2_with fail
 clear q2
 refine (HGO.out _ ⟨3,rmany+1,rlook,rret⟩ rfl (B.g 5) (B.g 8)).mono ?_
 rintro e w9 ⟨rfl,a1,a2,f9⟩
 replace B:=B.up2 5 8 (T:=tRp q pf _ _) (T':=tFd pf c _) a1 a2 f9
 go_wp2_with fail
 first
  |go_end0
  |(try simp only [Exit.inBlock,Exit.then]
    refine bodyPost_ret (results_none rfl _ _ _) rfl ?_)
 exact ⟨rfl,B.g 5,B.g 9,B.g 8,B.g 7,⟨B.g 0,B.g 1⟩,B.fr⟩
theorem Q2x (H:YB w pM pW pm pc pw n who ve c ent mat f k v qm M N q pf pr r bt bm bw) (hst:r.st=3) (qr:Nat) (rv:J2) (hpr:pr=some qr) (hrv:JK w qr rv) (hrok:rv.ok) (hqr:qr≠pM∧qr≠pW∧qr≠pm∧qr≠qm∧qr≠q∧qr≠pf∧qr≠bt∧qr≠bm∧qr≠bw∧qr≠0) (h0:0≤r.look.at_) (h1:r.look.at_≤1000) (hm0:0≤r.many) (hm1:r.many≤1000000000) (hx:(Qn rv M).1.done=true∧(Qn rv M).1.swapped=false):
 Calls Tryz.prog 155 #[.pointer (some ⟨bt,0,none⟩),.pointer (some ⟨bm,0,none⟩),.pointer (some ⟨bw,0,none⟩)] w fun e w'=>e=.returned (.tuple #[])∧Xp w' q pf (some qr) r.QO∧JK w' qr (Qn rv M).1∧QY w' pf c r.QO.look∧Qm w' pm qm (Qn rv M).2 (N+1)∧QZ w' pM pW pm pc pw n who ve c ent mat f k v∧Fr [pW,q,pf,pm,qm,qr] w w':=by
 have hq5:(qr≠pm∧qr≠qm):=⟨hqr.2.2.1,hqr.2.2.2.1⟩
 have HRS:=hid fun w' h hm hg=>Yk w' qr pm qm rv M N hrok h hm H.hN hq5 hg
 unfold Y5 at HRS
 generalize Qn rv M=x at HRS hx ⊢
 obtain ⟨x1,x2⟩:=x
 dsimp only at HRS hx ⊢
 have HDN:=hid fun w' h=>YR w' qr x1 h
 have HGO:=hid fun w' r' (e:r'.look=r.look) a1 a2=>YT w' q pf pr c r' a1 (by rw [e];exact a2) (by rw [e];exact h0) (by rw [e];exact h1) H.ap.2.2
 subst hpr
 have hk:=H.hk
 have B:=(H.bag.mono (S1:=[pW,q,pf,pm,qm,qr]) Lc).add (tRt (some qr) (some rv)) hrv (fun x hx=>by simp at hx;subst hx;exact Q9 hrv) (fun i x hx hm=>by
  simp at hx
  subst hx
  rcases i with _|_|_|_|_|_|_|_|_|i
  all_goals first|(simp [gt,Th.nil] at hm;done)|(simp [gt,Th.nil] at hm;omega)) Lc
 clear H hrok hrv hqr h0 h1 hq5
 obtain ⟨rst,rmany,rlook,rret⟩:=r
 dsimp only [Q8.cells] at*
 subst hst
 simp only [hx] at HRS HDN
 have q2:=B.q 2;have q5:=B.q 5
 go_in
 go_wp2_with fail
 clear q2 q5
 refine rgx [0,1,2,3,4,5,6] B fun _ B=> ?_
 iterate 8 refine tb ?_
 refine tc 8 fun K hK=> ?_
 go_simp
 refine (HRS.out _ (B.g 9) (B.g 7) (B.g 6)).mono ?_
 rintro e w1 ⟨rfl,a1,a2,f1⟩
 replace B:=B.up2 9 7 (T:=tRt (some qr) (some x1)) (T':=tM pm qm _ _) a1 a2 f1
 go_wp2_with fail
 refine bk hK ?_
 clear hK K
 try go_frame
 refine wpAnyH_done (by decide+kernel) ?_ _
 have q2:=B.q 2;have q5:=B.q 5;have u:=B.u 5
 go_wp2_with fail
 clear q2 q5 u
 refine (HDN.out _ (B.g 9)).mono ?_
 rintro e w2 ⟨rfl,f2⟩
 replace B:=B.tm f2
 have q2:=B.q 2
 go_wp2_with fail
 clear q2
 refine (HGO.out _ ⟨3,rmany,rlook,rret⟩ rfl (B.g 5) (B.g 8)).mono ?_
 rintro e w9 ⟨rfl,a1,a2,f9⟩
 replace B:=B.up2 5 8 (T:=tRp q pf _ _) (T':=tFd pf c _) a1 a2 f9
 go_wp2_with fail
 first
  |go_end0
  |(try simp only [Exit.inBlock,Exit.then]
    refine bodyPost_ret (results_none rfl _ _ _) rfl ?_)
 exact ⟨rfl,B.g 5,B.g 9,B.g 8,B.g 7,⟨B.g 0,B.g 1⟩,B.fr⟩
end
section
open Go.RowKit Go.Shelf Go.Lib
attribute [local go_sem] Oper.semAt_some
def Q04 (w:World) (pM:Nat) (c:Q0) (who:Int) (e:Ending) (w':World):Prop:=∃bt bm bw q pf,e=.returned (.func (.func 155) #[] #[.pointer (some ⟨bt,0,none⟩),.pointer (some ⟨bm,0,none⟩),.pointer (some ⟨bw,0,none⟩)])∧
 (w.heap.size≤bt∧w.heap.size≤bm∧w.heap.size≤bw∧w.heap.size≤q∧w.heap.size≤pf)∧(bt≠bm∧bt≠bw∧bt≠q∧bt≠pf∧bm≠bw∧bm≠q∧bm≠pf∧bw≠q∧bw≠pf∧q≠pf)∧Y1 w' bt bm bw pM q who 200∧Xp w' q pf none (JV who)∧QY w' pf c (QE 6 who 0)∧Fr [] w w'
theorem Q4I (w:World) (pM pW pm pc pw n:Nat) (ve:Value) (c:Q0) (ent mat:Int) (hMB:QG w pM pW pm pc pw n ve c ent mat) (who:Int):Calls Tryz.prog 105 #[.pointer (some ⟨pM,0,none⟩),.int .i64 who] w (Q04 w pM c who):=by
 have HFN:=hid fun w'=>Uq w' c 6 who
 unfold Q0.val Q08 at HFN
 have B:=Bag.one hMB
 clear hMB
 go_in
 go_wp2_with fail
 generalize hw:World.alloc w _=w1,hb:(World.heap w).size=bm
 generalize hw2:World.alloc w1 _=w2
 replace B:=B.al2 hw hb hw2
 clear hw hb hw2
 refine rg B fun _ B=> ?_
 iterate 5 refine tb ?_
 refine wpAnyH_ready (rs:=[5,8]) (by decide+kernel) Lc ?_
 refine AllReadyH.cons (o:=_) rfl (fun K hK=> ?_) (AllReadyH.cons (o:=_) rfl (fun K hK=> ?_) AllReadyH.nil)
 all_goals try simp only [List.getElem_toArray,List.getElem_cons_succ,List.getElem_cons_zero]
 go_simp
 refine (HFN.out _).mono ?_
 rintro e w3 ⟨pf,rfl,hpf,hfd,f3⟩
 replace B:=B.nw (T':=tFd pf c (QE 6 who 0)) hfd f3 (fun x hx=>by simp at hx;subst hx;exact ⟨hpf,Q9 hfd⟩)
 go_wp2_with fail
 refine bk hK ?_
 clear hK K
 try go_frame
 refine tj 6 ?_
 refine wpAnyH_ready (rs:=[7,8]) (by decide+kernel) Lc ?_
 refine AllReadyH.cons (o:=_) rfl (fun K hK=> ?_) (AllReadyH.cons (o:=_) rfl (fun K hK=> ?_) AllReadyH.nil)
 all_goals try simp only [List.getElem_toArray,List.getElem_cons_succ,List.getElem_cons_zero]
 go_simp
 generalize hb:(World.heap _).size=q,hw:World.alloc _ _=w4
 replace B:=B.al hw hb
 refine bk hK ?_
 clear hK K hw hb
 try go_frame
 refine tc 8 fun K hK=> ?_
 go_simp
 generalize hb:(World.heap _).size=bt,hw:World.alloc _ _=w5
 replace B:=B.al hw hb
 refine bk hK ?_
 clear hK K hw hb
 try go_frame
 rotate_left
 go_simp
 generalize hb:(World.heap _).size=bt,hw:World.alloc _ _=w4
 replace B:=B.al hw hb
 refine bk hK ?_
 clear hK K hw hb
 try go_frame
 refine tc 7 fun K hK=> ?_
 go_simp
 generalize hb:(World.heap _).size=q,hw:World.alloc _ _=w5
 replace B:=B.al hw hb
 refine bk hK ?_
 clear hK K hw hb
 try go_frame
 replace B:=B.sel [0,1,2,3,5,4]
 rotate_left
 go_simp
 generalize hb:(World.heap _).size=bt,hw:World.alloc _ _=w4
 replace B:=B.al hw hb
 refine bk hK ?_
 clear hK K hw hb
 try go_frame
 refine tc 5 fun K hK=> ?_
 go_simp
 refine (HFN.out _).mono ?_
 rintro e w3 ⟨pf,rfl,hpf,hfd,f3⟩
 replace B:=B.nw (T':=tFd pf c (QE 6 who 0)) hfd f3 (fun x hx=>by simp at hx;subst hx;exact ⟨hpf,Q9 hfd⟩)
 go_wp2_with fail
 refine bk hK ?_
 clear hK K
 try go_frame
 refine tj 6 ?_
 refine tc 7 fun K hK=> ?_
 go_simp
 generalize hb:(World.heap _).size=q,hw:World.alloc _ _=w5
 replace B:=B.al hw hb
 refine bk hK ?_
 clear hK K hw hb
 try go_frame
 replace B:=B.sel [0,1,2,4,5,3]
 all_goals
  have u:=B.u 5;have q5:=B.q 5
  refine tc 9 fun K hK=> ?_
  go_simp
  clear u q5
  generalize hw:World.setCell _ _ _=w6
  replace B:=(B.s 5).e hw
  refine bk hK ?_
  clear hK K
  try go_frame
  refine wpAnyH_done (by decide+kernel) ?_ _
  go_wp2
  go_ret
  exact ⟨bt,bm,bm+1,q,pf,rfl,⟨B.new 5,B.new 1,B.new 2,B.new 4,B.new 3⟩,⟨B.n2 5 1,B.n2 5 2,B.n2 5 4,B.n2 5 3,B.n2 1 2,B.n2 1 4,B.n2 1 3,B.n2 2 4,B.n2 2 3,B.n2 4 3⟩,⟨B.g 5,B.g 1,B.g 2,⟨B.n2 5 1,B.n2 5 2,B.n2 1 2⟩⟩,B.g 4,B.g 3,B.fr⟩
def UH (w:World) (pM:Nat) (c:Q0) (who:Int) (e:Ending) (w':World):Prop:=∃bt bm bw p,e=.returned (.func (.func 166) #[] #[.pointer (some ⟨bt,0,none⟩),.pointer (some ⟨bm,0,none⟩),.pointer (some ⟨bw,0,none⟩)])∧
 (w.heap.size≤bt∧w.heap.size≤bm∧w.heap.size≤bw∧w.heap.size≤p)∧(bt≠p∧bm≠p∧bw≠p)∧Y1 w' bt bm bw pM p who 76∧Yz w' p c (.slice none 0 0) (.slice none 0 0) [] [] 0 false∧Fr [] w w'
theorem Q2u (w:World) (pM pW pm pc pw n:Nat) (ve:Value) (c:Q0) (ent mat:Int) (hMB:QG w pM pW pm pc pw n ve c ent mat) (who:Int):Calls Tryz.prog 109 #[.pointer (some ⟨pM,0,none⟩),.int .i64 who] w (UH w pM c who):=by
 have HTN:=hid fun w'=>Q0h w' c
 unfold Q0.val at HTN
 have B:=Bag.one hMB
 have m:=fun o o'=>(B.tm (((Fr.refl [] w).alloc o).alloc o')).q 0
 clear hMB
 go_in
 go_wp2_with fail
 clear m
 generalize hw:World.alloc w _=w1,hb:(World.heap w).size=bm
 generalize hw2:World.alloc w1 _=w2
 replace B:=B.al2 hw hb hw2
 clear hw hb hw2
 refine (HTN.out _).mono ?_
 rintro e w2 ⟨p,rfl,hp,ht,f2⟩
 replace B:=B.nw (T':=tTw p c) ht f2 (fun x hx=>by simp at hx;subst hx;exact ⟨hp,Q9 ht.b⟩)
 go_wp2_with fail
 generalize hb:(World.heap _).size=bt,hw:World.alloc _ _=w3
 replace B:=B.al hw hb
 go_ret
 exact ⟨bt,bm,bm+1,p,rfl,⟨B.new 4,B.new 1,B.new 2,B.new 3⟩,⟨B.n2 4 3,B.n2 1 3,B.n2 2 3⟩,⟨B.g 4,B.g 1,B.g 2,⟨B.n2 4 1,B.n2 4 2,B.n2 1 2⟩⟩,B.g 3,B.fr⟩
theorem YE {L:List Int} {i:Nat} {x:Int} (h:L[i]?=some x) (f:Int→Bool):Ja (L.take (i+1)) f=Ja (L.take i) f+(if f x=true then 1 else 0):=by
 unfold Ja
 rw [V8 h,List.filter_append,List.length_append]
 cases hf:f x<;>simp [hf]
theorem Yc (L:List Int) (f:Int→Bool):0≤Ja L f∧Ja L f≤(L.length:Int):=by
 unfold Ja
 have:=List.length_filter_le f L
 omega
def Q2Z (L:List Int):Value:=.agg #[.int .i64 (Ja L Gf),.int .i64 (Ja L Gd),.int .i64 (Ja L Gh),.int .i64 (Ja L Uv)]
abbrev tC (b:Nat) (L:List Int):Th:=tR b #[.int .i64 (Ja L Gf),.int .i64 (Ja L Gd),.int .i64 (Ja L Gh),.int .i64 (Ja L Uv)] 48
theorem Q1t (w:World) (g:Option Addr) (cp:Nat) (L:List Int) (hI:XM w g L) (hL:∀x∈L,∃s:Q7,s.right∧x=s.enc) (hlen:L.length≤1000) (hG:Qe w 0 Qc) (h0:0<w.heap.size):
 Calls Tryz.prog 167 #[.slice g L.length cp] w fun e w'=>e=.returned (Q2Z L)∧Fr [] w w':=by
 obtain ⟨len,hln⟩:∃n,L.length=n:=⟨_,rfl⟩
 rw [hln] at hlen ⊢
 have HLN:=hid hln;have HI:=hid hI;have HLL:=hid hL
 have B:=Bag.flds hG
 clear hI hL hG h0 hln
 go_in
 go_wp2_with fail
 generalize hb:(World.heap w).size=bR,hw:World.alloc w _=w1
 generalize hw2:World.alloc w1 _=w2
 replace B:=B.al2 hw hb hw2
 clear hb hw hw2
 go_loopw [10] (fun s10 wr=>∃i:Nat,i≤len∧s10=.int .i64 i∧Bag [] w [tF,tR bR #[.int .i64 0,.int .i64 0,.int .i64 0,.int .i64 0] 48,tC (bR+1) (L.take i)] wr) (fun s10 _=>len - (intOf s10).toNat)
 case atStart=>exact ⟨0,Nat.zero_le _,rfl,B⟩
 case round=>
  obtain ⟨i,hi,rfl,B⟩:=hrel
  by_cases hlt:i<len
  · obtain ⟨x,hx⟩:∃x,L[i]?=some x:=⟨_,List.getElem?_eq_getElem (by rw [HLN.out];exact hlt)⟩
    obtain ⟨s,hs,rfl⟩:=HLL.out x (List.mem_of_getElem? hx)
    obtain ⟨gb,off,rfl,he⟩:=(HI.out.fr B.fr Lc).2 i _ hx
    have hlt':(i:Int)<len:=Lb
    have hi0:(0:Int)≤(i:Int):=Lb
    have HDE:=hid fun w' h=>Ji w' s hs h
    have n1:=YE hx Gf;have n2:=YE hx Gd;have n3:=YE hx Gh;have n4:=YE hx Uv
    have b1:=Yc (L.take i) Gf;have b2:=Yc (L.take i) Gd;have b3:=Yc (L.take i) Gh;have b4:=Yc (L.take i) Uv
    rw [List.length_take] at b1 b2 b3 b4
    rw [show Gf s.enc=decide (s.st=2) by unfold Gf;rw [QF hs]] at n1
    rw [show Gd s.enc=decide (s.st=3) by unfold Gd;rw [QF hs]] at n2
    rw [show Gh s.enc=decide (s.st=0) by unfold Gh;rw [QF hs]] at n3
    rw [show Uv s.enc=(!decide (s.st=0)&& !decide (s.st=2)&& !decide (s.st=3)) by unfold Uv Gh Gf Gd;rw [QF hs]] at n4
    unfold tC at B
    generalize Ja (L.take i) Gf=cI at B n1 b1
    generalize Ja (L.take i) Gd=cL at B n2 b2
    generalize Ja (L.take i) Gh=cE at B n3 b3
    generalize Ja (L.take i) Uv=cO at B n4 b4
    generalize s.enc=en at he HDE
    obtain ⟨zst,zso,zstr,zbr,zmkd,zus,zgen,zep,zver⟩:=s
    unfold Q7.val at HDE
    dsimp only at HDE n1 n2 n3 n4
    go_wp2_with fail
    clear he
    refine (HDE.out _ (B.g 0)).mono ?_
    rintro e w1 ⟨rfl,f1⟩
    replace B:=B.tm f1
    rcases (by omega:zst=0∨zst=2∨zst=3∨(zst≠0∧zst≠2∧zst≠3)) with rfl|rfl|rfl|⟨z0,z2,z3⟩
    rotate_left 3
    have e0:(zst==0)=false:=by simp [z0]
    have e2:(zst==2)=false:=by simp [z2]
    have e3:(zst==3)=false:=by simp [z3]
    rotate_right 3
    all_goals
     have q:=B.qa 2;have u:=B.ua 2
     go_wp2_with fail
     clear q u
     generalize hb:(World.heap _).size=b9,hw:World.alloc _ _=w2
     replace B:=B.al hw hb
     generalize hw2:World.setCell _ _ _=w3
     replace B:=(B.s 2).e hw2
     refine ⟨⟨i+1,Lb,by go_num, ?_⟩,by simp [intOf];omega⟩
     simp [*] at n1 n2 n3 n4
     rw [tC,n1,n2,n3,n4]
     exact B.tk 3
  · obtain rfl:i=len:=Lb
    rw [List.take_of_length_le (by rw [HLN.out];exact Nat.le_refl _)] at B
    have r:=B.q 1;have q:=B.q 2;have u:=B.u 1
    go_wp2_with fail
    clear r q u
    generalize hw2:World.setCell _ _ _=w3
    replace B:=((((B.s 1).s 1).s 1).s 1).e hw2
    have r:=B.q 1
    refine ⟨rfl,_, ?_,rfl,B.fr⟩
    simp [results,Tryz.f167,go_sem,r,Q2Z]
end
section
open Go.RowKit Go.Shelf Go.Lib
attribute [local go_sem] Oper.semAt_some
variable (w:World) (pM pW pm pc pw n who:Nat) (ve:Value) (c:Q0) (ent mat:Int) (f:Nat→List Value) (k:Q8) (v:Je)
theorem Q4F (hMB:QG w pM pW pm pc pw n ve c ent mat) (hW:QL w pW n (upd f who (k.cells v))) (hk:who<n) (hne:pM≠pW) (p:Nat) (R:World→Prop) (S:List Nat) (hST:Xe R pM pW ve) (hD:∀b∈S,b≠pM∧b≠pW∧ve.ownBlock≠some b) (hve:∀b,ve.ownBlock=some b→b≠pM∧b≠pW) (bt bm bw:Nat) (B:Y1 w bt bm bw pM p who 76) (hB:(bt≠pM∧bt≠pW)∧(bm≠pM∧bm≠pW)∧(bw≠pM∧bw≠pW)) (hDB:∀b∈S,b≠bt∧b≠bm∧b≠bw) (HC:∀w',Fr [] w w'→Calls Tryz.prog 76 #[.pointer (some ⟨p,0,none⟩),.pointer (some ⟨pm,0,none⟩)] w' fun e w2=>e=.returned (.bool false)∧R w2∧Fr S w' w2):
 Calls Tryz.prog 166 #[.pointer (some ⟨bt,0,none⟩),.pointer (some ⟨bm,0,none⟩),.pointer (some ⟨bw,0,none⟩)] w fun e w'=>e=.returned (.tuple #[])∧QZ w' pM pW pm pc pw n who ve c ent mat f k v∧R w'∧Fr (pM::pW::S) w w':=by
 obtain ⟨xt,xm,xw,xn⟩:=B
 have HCS:=hid HC
 have B:Bag (pM::pW::S) w [tRo false pM _ _,tW pW n f who _,tRo false bt _ _,tRo false bm _ _,tRo false bw _ _] w:=(EY hMB hW hne ⟨xt,xm,xw,xn⟩ hB).mono Lc
 dsimp only [Q8.cells] at B
 clear hMB hW hne HC xt xm xw xn hB
 go_in
 go_wp2_with fail
 refine rgf B fun _ fc B=> ?_
 iterate 5 refine tb ?_
 refine tc 5 fun K hK=> ?_
 go_simp
 refine (HCS.out _ fc).mono ?_
 rintro e w1 ⟨rfl,hr,f1⟩
 replace B:=Kl B f1 (by intro x hx;simp [hx]) (fun b hb=>⟨(hD b hb).1,(hD b hb).2.1⟩) hDB
 go_wp2_with fail
 refine bk hK ?_
 clear hK K
 try go_frame
 refine wpAnyH_done (by decide+kernel) ?_ _
 go_wp2
 first
  |go_end0
  |(try simp only [Exit.inBlock,Exit.then]
    refine bodyPost_ret (results_none rfl _ _ _) rfl ?_)
 exact ⟨rfl,⟨B.g 0,B.g 1⟩,hr,B.fr⟩
theorem Q2t (hMB:QG w pM pW pm pc pw n ve c ent mat) (hW:QL w pW n (upd f who (k.cells v))) (hk:who<n) (hne:pM≠pW) (p:Nat) (R:World→Prop) (S:List Nat) (hST:Xe R pM pW ve) (hD:∀b∈S,b≠pM∧b≠pW∧ve.ownBlock≠some b) (hve:∀b,ve.ownBlock=some b→b≠pM∧b≠pW) (bt bm bw:Nat) (B:Y1 w bt bm bw pM p who 76) (hB:(bt≠pM∧bt≠pW)∧(bm≠pM∧bm≠pW)∧(bw≠pM∧bw≠pW)) (hDB:∀b∈S,b≠bt∧b≠bm∧b≠bw) (HC:∀w',Fr [] w w'→Calls Tryz.prog 76 #[.pointer (some ⟨p,0,none⟩),.pointer (some ⟨pm,0,none⟩)] w' fun e w2=>e=.returned (.bool true)∧R w2∧Fr S w' w2) (L:List Int) (hL:∀x∈L,∃s:Q7,s.right∧x=s.enc) (hlen:L.length≤1000) (hG:Qe w 0 Qc) (hS0:0∉S) (hz:0<pM∧0<pW) (HA:∀w',R w'→Calls Tryz.prog 77 #[.pointer (some ⟨p,0,none⟩)] w' (Vo w' L)):
 Calls Tryz.prog 166 #[.pointer (some ⟨bt,0,none⟩),.pointer (some ⟨bm,0,none⟩),.pointer (some ⟨bw,0,none⟩)] w fun e w'=>e=.returned (.tuple #[])∧∃p2,w.heap.size≤p2∧Jy w' p2 none none c (Qz who)∧QZ w' pM pW pm pc pw n who ve c ent mat f (k.end_ who {ev0 with cI:=Ja L Gf,cL:=Ja L Gd,cE:=Ja L Gh,cO:=Ja L Uv}) {v with vd:=.pointer (some ⟨p2,0,none⟩)}∧R w'∧Fr (pM::pW::S) w w':=by
 have HEN:=hid fun w' h1 h2=>XY w' pM pW pm pc pw n who ve c ent mat f k v h1 h2 hk hne {ev0 with cI:=Ja L Gf,cL:=Ja L Gd,cE:=Ja L Gh,cO:=Ja L Uv}
 unfold EvV.val EvV.cells ev0 Yy at HEN
 dsimp only at HEN
 have HCO:=hid fun w' g cp h1 h2 h3=>Q1t w' g cp L h1 hL hlen h2 h3
 unfold Q2Z at HCO
 have h00:0∉pM::pW::S:=by simp [hS0];omega
 have hsz:0<w.heap.size:=by have:=Q9 hMB;omega
 clear hL hlen hS0 hz
 obtain ⟨xt,xm,xw,xn⟩:=B
 have HCS:=hid HC
 have B:Bag (pM::pW::S) w [tRo false pM _ _,tW pW n f who _,tRo false bt _ _,tRo false bm _ _,tRo false bw _ _] w:=(EY hMB hW hne ⟨xt,xm,xw,xn⟩ hB).mono Lc
 dsimp only [Q8.cells] at B
 clear hMB hW hne HC xt xm xw xn hB
 go_in
 go_wp2_with fail
 refine rgf B fun _ fc B=> ?_
 iterate 5 refine tb ?_
 refine tc 5 fun K hK=> ?_
 go_simp
 refine (HCS.out _ fc).mono ?_
 rintro e w1 ⟨rfl,hr,f1⟩
 replace B:=Kl B f1 (by intro x hx;simp [hx]) (fun b hb=>⟨(hD b hb).1,(hD b hb).2.1⟩) hDB
 go_wp2_with fail
 refine bk hK ?_
 clear hK K
 try go_frame
 refine wpAnyH_done (by decide+kernel) ?_ _
 go_wp2_with fail
 refine rgxf [0,2,3,4] B fun _ fc B=> ?_
 replace hr:=hST.go hr fc
 iterate 3 refine tb ?_
 refine tc 3 fun K hK=> ?_
 go_simp
 refine (HA _ hr).mono ?_
 rintro e w2 ⟨vv,rfl,hov,hnv,f2⟩
 obtain ⟨gw,cw,rfl,hin, -⟩:=hov.ints
 replace hr:=hST.go hr f2
 replace B:=B.tm f2
 go_wp2_with fail
 refine bk hK ?_
 clear hK K
 try go_frame
 refine tc 4 fun K hK=> ?_
 go_simp
 refine (HCO.out _ _ _ hin (hG.fr B.fr h00) (Nat.lt_of_lt_of_le hsz B.fr.size)).mono ?_
 rintro e w3 ⟨rfl,f3⟩
 replace hr:=hST.go hr f3
 replace B:=B.tm f3
 go_wp2_with fail
 refine bk hK ?_
 clear hK K
 try go_frame
 refine tj 5 ?_
 refine tc 6 fun K hK=> ?_
 go_simp
 refine (HEN.out _ (B.g 0) (B.g 1)).mono ?_
 rintro e w4 ⟨rfl,p2,hp,ht,hmp,f4⟩
 replace hr:=hST.go hr f4
 replace hp:=Nat.le_trans B.fr.size hp
 replace B:=B.up 1 (T':=tW pW n f who _) hmp.wr f4
 go_wp2_with fail
 refine bk hK ?_
 clear hK K
 try go_frame
 refine wpAnyH_done (by decide+kernel) ?_ _
 go_wp2_with fail
 first
  |go_end0
  |(try simp only [Exit.inBlock,Exit.then]
    refine bodyPost_ret (results_none rfl _ _ _) rfl ?_)
 exact ⟨rfl,p2,hp,ht,hmp,hr,B.fr⟩
end
end Go.Proofs.YtgjklfmnmljilaaGreatDoor
