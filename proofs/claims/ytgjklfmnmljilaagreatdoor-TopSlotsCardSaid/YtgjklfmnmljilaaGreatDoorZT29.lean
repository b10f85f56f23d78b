/- A part of the proof: TpZj to TpZk. -/
import Derived.Test.YtgjklfmnmljilaaGreatDoorZT03
import Derived.Test.YtgjklfmnmljilaaGreatDoorZT28
namespace Go.Proofs.YtgjklfmnmljilaaGreatDoor
set_option linter.unusedVariables false
set_option linter.unusedSimpArgs false
set_option linter.unusedSectionVars false
set_option linter.unnecessarySimpa false
set_option maxRecDepth 100000
set_option maxHeartbeats 8000000
section
open Go.RowKit Go.Shelf Go.Lib
attribute [local go_sem] Oper.semAt_some
def Xm (w:World) (q pf:Nat) (pr:Option Nat) (r:QM):Prop:=w.heap[q]?=some (.cells #[.int .i64 r.st,.int .i64 r.many,.pointer (some ⟨pf,0,none⟩),Xr pr] 203 (0,0))
theorem Xm.fr {w w':World} {q pf:Nat} {pr:Option Nat} {r:QM} (h:Xm w q pf pr r) {S:List Nat} (f:Fr S w w') (hp:q∉S):Xm w' q pf pr r:=f.at h hp
abbrev tRp (q pf:Nat) (pr:Option Nat) (r:QM):Th:=tR q #[.int .i64 r.st,.int .i64 r.many,.pointer (some ⟨pf,0,none⟩),Xr pr] 203
abbrev tFd (pf:Nat) (c:Q0) (l:Qi):Th:=⟨true,[pf],fun w=>QN w pf c l,fun f h k=>k.fr f (h _ (by simp))⟩
theorem YR (w:World) (q pf:Nat) (pr:Option Nat) (c:Q0) (r:QM) (hR:Xm w q pf pr r) (hF:QN w pf c r.look) (h0:0≤r.look.at_) (h1:r.look.at_≤1000) (hne:q≠pf):
 Calls Tryz.prog 160 #[.pointer (some ⟨q,0,none⟩)] w fun e w'=>e=.returned (.tuple #[])∧Xm w' q pf pr r.J5∧QN w' pf c r.J5.look∧Fr [q,pf] w w':=by
 have HGO:=hid fun w' h=>Hu w' pf c r.look h h0 h1
 obtain ⟨rst,rmany,rlook,rret⟩:=r
 have B:Bag [q,pf] w [tR q _ _,tFd pf c _] w:=Bag.of (by simp only [List.forall_mem_cons];exact ⟨hR,hF,by simp⟩) (by simp [hne]) (by have:=Q6 hR;have:=Q6 hF;simp;omega) (by simp)
 dsimp only at B HGO
 clear hR hF h0 h1
 have q0:=B.q 0
 go_in
 go_wp2_with fail
 refine (HGO.out _ (B.g 1)).mono ?_
 rintro e w1 ⟨rfl,h,f⟩
 replace B:=B.up 1 (T':=tFd pf c _) h f
 clear q0
 have q0:=B.q 0;have u:=B.u 0
 go_wp2_with fail
 clear q0 u
 generalize hw:World.setCell _ _ _=w2
 replace B:=(B.s 0).e hw
 go_end0
 exact ⟨rfl,B.g 0,B.g 1,B.fr⟩
def AskP (w w':World) (q pf:Nat) (pr:Option Nat) (c:Q0) (r:QM) (g:Bool):Prop:=match g with
 |true=>Xm w' q pf pr {r with st:=2}
 |false=>∃qr,w.heap.size≤qr∧Xm w' q pf (some qr) {r with ret:=some (Ji c r.look.at_ r.look.word),st:=3}∧JF w' qr (Ji c r.look.at_ r.look.word)
theorem Q0S (w:World) (pM pW pm pc pw n:Nat) (ve:Value) (c:Q0) (ent mat:Int) (hMB:QB w pM pW pm pc pw n ve c ent mat) (q pf:Nat) (pr:Option Nat) (r:QM) (s:Q8) (hR:Xm w q pf pr r) (hF:QN w pf c r.look) (hfd:r.look.found=true) (hs:s.right) (hw:r.look.word=s.enc) (hG:Qf w 0 Qc) (hc:c.fits) (LW:List Nat) (RW:World→Prop) (good:Bool) (hSW:∀(L:List Nat) (w1 w2:World),Fr L w1 w2→(∀b∈L,b=q)→RW w1→RW w2) (hDW:∀b∈LW,b≠pM∧b≠q∧b≠0) (hLB:∀b∈LW,¬w.heap.size≤b) (hne:q≠pM∧0<q) (HWN:∀w',Fr [] w w'→Calls Tryz.prog 115 #[.pointer (some ⟨pw,0,none⟩)] w' fun e w2=>e=.returned (.bool good)∧RW w2∧Fr LW w' w2):
 Calls Tryz.prog 158 #[.pointer (some ⟨q,0,none⟩),.pointer (some ⟨pM,0,none⟩)] w fun e w'=>e=.returned (.tuple #[])∧AskP w w' q pf pr c r (good&& !s.mkd&& !s.br)∧RW w'∧Fr (q::LW) w w':=by
 have HFN:=hid (JV w pf c r.look hF)
 rw [hfd,if_pos rfl] at HFN
 have HDE:=hid fun w' h=>Je w' s hs h
 have HNW:=hid fun w'=>KQ w' c r.look.at_ r.look.word hc
 unfold Q0.val at HNW
 rw [←hw] at HDE
 have B:Bag (q::LW) w [tRo false pM _ _,tR q _ _] w:=Bag.of (by simp only [List.forall_mem_cons];exact ⟨hMB,hR,by simp⟩) (by simp;omega) (by have:=Q6 hMB;have:=Q6 hR;simp;omega) (by simp)
 generalize hg:(good&& !s.mkd&& !s.br)=g
 have HB:=hid hg
 clear hg
 obtain ⟨wo,sl,sst,wa,us⟩:=c
 obtain ⟨rst,rmany,rlook,rret⟩:=r
 obtain ⟨zst,zso,zstr,zbr,zmkd,zus,zgen,zep,zver⟩:=s
 obtain ⟨lk,lo,la,lw,lf⟩:=rlook
 unfold Q8.val at HDE
 dsimp only at*
 clear hMB hR hs hw hfd hF hc
 have HWX:=hid HWN
 clear HWN
 have q0:=B.q 1
 go_in
 go_wp2_with fail
 refine HFN.out.mono ?_
 rintro e w1 ⟨rfl,f1⟩
 replace B:=B.tm f1
 clear q0
 go_wp2_with fail
 refine (HDE.out _ (hG.fr f1 (by simp))).mono ?_
 rintro e w2 ⟨rfl,f2⟩
 replace B:=B.tm f2
 have m:=B.qa 0
 have F0:=fun x=>(f1.trans f2).alloc x
 go_wp2_with fail
 clear m
 generalize hb:(World.heap _).size=b,hw:World.alloc _ _=w3
 have F0:Fr [] w w3:=hw▸F0 _
 have hlb:=B.fr.size
 rw [hb] at hlb
 replace B:=B.al hw hb
 refine (HWX.out _ F0).mono ?_
 rintro e w4 ⟨rfl,hrw,f3⟩
 replace B:=B.fo f3 (fun x hx=>by simp [hx]) (fun i x hx hm=>by
  have h2:=hLB x hm
  have h1:=hDW x hm
  rcases i with _|_|_|i
  · simp [gt] at hx;exact h1.1 hx
  · simp [gt] at hx;exact h1.2.1 hx
  · simp [gt] at hx;omega
  · simp [gt,Th.nil] at hx)
 have q3:=B.q 2;have m:=B.q 0
 rcases (by have:=HB.out;cases good<;>cases zmkd<;>cases zbr<;>simp_all:g=true∧good=true∧zmkd=false∧zbr=false∨g=false∧(good=false∨good=true∧zmkd=true∨good=true∧zmkd=false∧zbr=true)) with ⟨rfl,rfl,rfl,rfl⟩|⟨rfl,h⟩
 · have q1:=B.q 1;have u:=B.u 1
   go_wp2_with fail
   clear q1 u q3 m
   generalize hw:World.setCell _ _ _=w5
   replace B:=(B.s 1).e hw
   have hrw:=hSW [q] w4 w5 (hw▸(Fr.refl [q] w4).sc q _ _) (by simp) hrw
   try simp only [Exit.inBlock,Exit.then]
   refine bodyPost_ret (results_none rfl _ _ _) rfl ?_
   exact ⟨rfl,B.g 1,hrw,B.fr⟩
 rcases h with rfl|⟨rfl,rfl⟩|⟨rfl,rfl,rfl⟩
 all_goals
  go_wp2_with fail
  refine (HNW.out _).mono ?_
  rintro e w5 ⟨qr,rfl,hqr,hrt,f⟩
  have hqr':=Nat.le_trans B.fr.size hqr
  replace B:=B.nw (T':=tRt (some qr) (some _)) hrt f (fun x hx=>by simp at hx;subst hx;exact ⟨hqr,Q6 hrt⟩)
  have hrw:=hSW _ _ _ f (by simp) hrw
  clear q3 m
  have q1:=B.q 1;have u:=B.u 1
  go_wp2_with fail
  clear q1 u
  generalize hw:World.setCell _ _ _=w6
  have hrw:=hSW [q] w5 w6 (hw▸((Fr.refl [q] w5).sc q _ _).sc q _ _) (by simp) hrw
  replace B:=((B.s 1).s 1).e hw
  go_end0
  exact ⟨rfl,by unfold AskP;exact ⟨qr,hqr',B.g 1,B.g 3⟩,hrw,B.fr⟩
theorem Q4P (w:World) (pM pW pm pc pw n:Nat) (ve:Value) (c:Q0) (ent mat:Int) (hMB:QB w pM pW pm pc pw n ve c ent mat) (q pf:Nat) (pr:Option Nat) (r:QM) (s:Q8) (hR:Xm w q pf pr r) (hF:QN w pf c r.look) (hfd:r.look.found=true) (hs:s.right) (hw:r.look.word=s.enc) (hG:Qf w 0 Qc) (hc:c.fits) (LW:List Nat) (RW:World→Prop) (good:Bool) (hSW:∀(L:List Nat) (w1 w2:World),Fr L w1 w2→(∀b∈L,b=q)→RW w1→RW w2) (hDW:∀b∈LW,b≠pM∧b≠q∧b≠0) (hLB:∀b∈LW,¬w.heap.size≤b) (hne:q≠pM∧0<q) (HWN:∀w',Fr [] w w'→Calls Tryz.prog 115 #[.pointer (some ⟨pw,0,none⟩)] w' fun e w2=>e=.returned (.bool good)∧RW w2∧Fr LW w' w2) (hgd:good=true∧s.mkd=false∧s.br=false):
 Calls Tryz.prog 158 #[.pointer (some ⟨q,0,none⟩),.pointer (some ⟨pM,0,none⟩)] w fun e w'=>e=.returned (.tuple #[])∧Xm w' q pf pr {r with st:=2}∧RW w'∧Fr (q::LW) w w':=by
 refine (Q0S w pM pW pm pc pw n ve c ent mat hMB q pf pr r s hR hF hfd hs hw hG hc LW RW good hSW hDW hLB hne HWN).mono ?_
 rintro e w' ⟨rfl,h,h2,f⟩
 obtain ⟨rfl,h3,h4⟩:=hgd
 rw [h3,h4] at h
 exact ⟨rfl,h,h2,f⟩
theorem Q6U (w:World) (pM pW pm pc pw n:Nat) (ve:Value) (c:Q0) (ent mat:Int) (hMB:QB w pM pW pm pc pw n ve c ent mat) (q pf:Nat) (pr:Option Nat) (r:QM) (s:Q8) (hR:Xm w q pf pr r) (hF:QN w pf c r.look) (hfd:r.look.found=true) (hs:s.right) (hw:r.look.word=s.enc) (hG:Qf w 0 Qc) (hc:c.fits) (LW:List Nat) (RW:World→Prop) (good:Bool) (hSW:∀(L:List Nat) (w1 w2:World),Fr L w1 w2→(∀b∈L,b=q)→RW w1→RW w2) (hDW:∀b∈LW,b≠pM∧b≠q∧b≠0) (hLB:∀b∈LW,¬w.heap.size≤b) (hne:q≠pM∧0<q) (HWN:∀w',Fr [] w w'→Calls Tryz.prog 115 #[.pointer (some ⟨pw,0,none⟩)] w' fun e w2=>e=.returned (.bool good)∧RW w2∧Fr LW w' w2) (hgd:(good&& !s.mkd&& !s.br)=false):
 Calls Tryz.prog 158 #[.pointer (some ⟨q,0,none⟩),.pointer (some ⟨pM,0,none⟩)] w fun e w'=>e=.returned (.tuple #[])∧(∃qr,w.heap.size≤qr∧Xm w' q pf (some qr) {r with ret:=some (Ji c r.look.at_ r.look.word),st:=3}∧JF w' qr (Ji c r.look.at_ r.look.word))∧RW w'∧Fr (q::LW) w w':=by
 refine (Q0S w pM pW pm pc pw n ve c ent mat hMB q pf pr r s hR hF hfd hs hw hG hc LW RW good hSW hDW hLB hne HWN).mono ?_
 rintro e w' ⟨rfl,h,h2,f⟩
 rw [hgd] at h
 exact ⟨rfl,h,h2,f⟩
end
section
open Go.RowKit Go.Shelf Go.Lib
attribute [local go_sem] Oper.semAt_some
structure Yv (w:World) (pM pW pm pc pw n who:Nat) (ve:Value) (c:Q0) (ent mat:Int) (f:Nat→List Value) (k:Qa) (v:Ja) (qm:Nat) (M:List Int) (N:Int) (q pf:Nat) (pr:Option Nat) (r:QM) (bt bm bw:Nat):Prop where
 mb:QB w pM pW pm pc pw n ve c ent mat
 wr:QA w pW n (upd f who (k.cells v))
 hk:who<n
 me:Ql w pm qm M N
 hN:N≤1000000000
 rp:Xm w q pf pr r
 fd:QN w pf c r.look
 bx:ZV w bt bm bw pM q who 200
 nd:[0,pM,pW,pm,qm,q,pf,bt,bm,bw].Nodup
 fl:Qf w 0 Qc
 cf:c.fits
variable {w:World} {pM pW pm pc pw n who:Nat} {ve:Value} {c:Q0} {ent mat:Int} {f:Nat→List Value} {k:Qa} {v:Ja} {qm:Nat} {M:List Int} {N:Int} {q pf:Nat} {pr:Option Nat} {r:QM} {bt bm bw:Nat}
theorem Yv.bag (H:Yv w pM pW pm pc pw n who ve c ent mat f k v qm M N q pf pr r bt bm bw):Bag [pW,q,pf,pm,qm] w [⟨false,[pM],fun w=>QB w pM pW pm pc pw n ve c ent mat,fun f h k=>k.fr f (h _ (by simp))⟩,tW pW n f who (k.cells v),tRo false bt #[.pointer (some ⟨q,0,none⟩)] 200,tRo false bm #[.pointer (some ⟨pM,0,none⟩)] 28,tRo false bw #[.int .i64 who] 3,tRp q pf pr r,tF,tM pm qm M N,tFd pf c r.look] w:=
 (Bag.of (S0:=[pW,q,pf,pm,qm]) (L:=[tF,⟨false,[pM],fun w=>QB w pM pW pm pc pw n ve c ent mat,fun f h k=>k.fr f (h _ (by simp))⟩,tW pW n f who (k.cells v),tM pm qm M N,tRp q pf pr r,tFd pf c r.look,tRo false bt #[.pointer (some ⟨q,0,none⟩)] 200,tRo false bm #[.pointer (some ⟨pM,0,none⟩)] 28,tRo false bw #[.int .i64 who] 3])
   (by simp only [List.forall_mem_cons];exact ⟨H.fl,H.mb,H.wr,H.me,H.rp,H.fd,H.bx.ft,H.bx.fm,H.bx.fw,by simp⟩) H.nd
   (by have:=Q6 H.mb;have:=H.wr.lt;have:=H.me.plt;have:=H.me.qlt;have:=Q6 H.rp;have:=Q6 H.fd;have:=Q6 H.bx.ft;have:=Q6 H.bx.fm;have:=Q6 H.bx.fw;simp;omega)
   (by simp)).sel [1,2,6,7,8,4,0,3,5]
theorem Yv.ap (H:Yv w pM pW pm pc pw n who ve c ent mat f k v qm M N q pf pr r bt bm bw):(pf≠pm∧pf≠qm)∧(0<pf∧0<pm∧0<qm)∧q≠pf:=by
 have h:=H.nd
 simp only [List.nodup_cons,List.mem_cons,List.not_mem_nil,or_false,not_or] at h
 obtain ⟨h1, -, -,h2,h3,h4, -⟩:=h
 exact ⟨⟨Ne.symm h2.2.2.1,Ne.symm h3.2.1⟩,⟨Nat.pos_of_ne_zero (Ne.symm h1.2.2.2.2.2.1),Nat.pos_of_ne_zero (Ne.symm h1.2.2.1),Nat.pos_of_ne_zero (Ne.symm h1.2.2.2.1)⟩,h4.1⟩
theorem Q15 (H:Yv w pM pW pm pc pw n who ve c ent mat f k v qm M N q pf pr r bt bm bw) (hst:r.st=0) (hok:r.look.ok c) (hS:JX c M) (hx:(Qx c r.look M).1.found=true):
 Calls Tryz.prog 155 #[.pointer (some ⟨bt,0,none⟩),.pointer (some ⟨bm,0,none⟩),.pointer (some ⟨bw,0,none⟩)] w fun e w'=>e=.returned (.tuple #[])∧Xm w' q pf pr {r with look:=(Qx c r.look M).1,st:=1}∧QN w' pf c (Qx c r.look M).1∧Ql w' pm qm M (N+1)∧QT w' pM pW pm pc pw n who ve c ent mat f k v∧Fr [pW,q,pf,pm,qm] w w':=by
 obtain ⟨a1,a2,a3⟩:=H.ap
 have HST:=hid fun w' h1 h2 h3=>YW w' pf pm qm c r.look M N h1 h2 H.hN a1 H.cf hok hS h3 a2
 unfold Q41 at HST
 generalize Qx c r.look M=x at HST hx
 obtain ⟨x1,x2⟩:=x
 have HFO:=hid fun w' h=>JV w' pf c x1 h
 dsimp only at HST hx
 simp only [hx] at HFO HST
 clear hok hS a1 a2 a3
 have hk:=H.hk
 have B:=H.bag
 clear H
 obtain ⟨rst,rmany,rlook,rret⟩:=r
 dsimp only [Qa.cells] at*
 subst hst
 have q2:=B.q 2;have q5:=B.q 5
 go_in
 go_wp2_with fail
 clear q2 q5
 refine rgx [0,1,2,3,4,5,6] B fun _ B=> ?_
 iterate 8 refine tb ?_
 refine tc 8 fun K hK=> ?_
 go_simp
 refine (HST.out _ (B.g 8) (B.g 7) (B.g 6)).mono ?_
 rintro e w1 ⟨rfl,h1,h2,f1⟩
 replace B:=B.up2 8 7 (T:=tFd pf c x1) (T':=tM pm qm M (N+1)) h1 h2 f1
 go_wp2_with fail
 refine bk hK ?_
 clear hK K
 try go_frame
 refine tb ?_
 refine wpAnyH_done (by decide+kernel) ?_ _
 have q2:=B.q 2;have q5:=B.q 5
 go_wp2_with fail
 refine (HFO.out _ (B.g 8)).mono ?_
 rintro e w2 ⟨rfl,f2⟩
 replace B:=B.tm f2
 clear q2 q5
 have q2:=B.q 2;have q5:=B.q 5;have u:=B.u 5
 go_wp2_with fail
 clear q2 q5 u
 generalize hw:World.setCell _ _ _=w3
 replace B:=(B.s 5).e hw
 first
  |go_end0
  |(try simp only [Exit.inBlock,Exit.then]
    refine bodyPost_ret (results_none rfl _ _ _) rfl ?_)
 exact ⟨rfl,B.g 5,B.g 8,B.g 7,⟨B.g 0,B.g 1⟩,B.fr⟩
theorem Q2J (H:Yv w pM pW pm pc pw n who ve c ent mat f k v qm M N q pf pr r bt bm bw) (hst:r.st=0) (hok:r.look.ok c) (hS:JX c M) (hx:(Qx c r.look M).1.found=false∧(Qx c r.look M).2=false):
 Calls Tryz.prog 155 #[.pointer (some ⟨bt,0,none⟩),.pointer (some ⟨bm,0,none⟩),.pointer (some ⟨bw,0,none⟩)] w fun e w'=>e=.returned (.tuple #[])∧Xm w' q pf pr {r with look:=(Qx c r.look M).1}∧QN w' pf c (Qx c r.look M).1∧Ql w' pm qm M (N+1)∧QT w' pM pW pm pc pw n who ve c ent mat f k v∧Fr [pW,q,pf,pm,qm] w w':=by
 obtain ⟨a1,a2,a3⟩:=H.ap
 have HST:=hid fun w' h1 h2 h3=>YW w' pf pm qm c r.look M N h1 h2 H.hN a1 H.cf hok hS h3 a2
 unfold Q41 at HST
 generalize Qx c r.look M=x at HST hx
 obtain ⟨x1,x2⟩:=x
 have HFO:=hid fun w' h=>JV w' pf c x1 h
 dsimp only at HST hx
 simp only [hx] at HFO HST
 clear hok hS a1 a2 a3
 have hk:=H.hk
 have B:=H.bag
 clear H
 obtain ⟨rst,rmany,rlook,rret⟩:=r
 dsimp only [Qa.cells] at*
 subst hst
 have q2:=B.q 2;have q5:=B.q 5
 go_in
 go_wp2_with fail
 clear q2 q5
 refine rgx [0,1,2,3,4,5,6] B fun _ B=> ?_
 iterate 8 refine tb ?_
 refine tc 8 fun K hK=> ?_
 go_simp
 refine (HST.out _ (B.g 8) (B.g 7) (B.g 6)).mono ?_
 rintro e w1 ⟨rfl,h1,h2,f1⟩
 replace B:=B.up2 8 7 (T:=tFd pf c x1) (T':=tM pm qm M (N+1)) h1 h2 f1
 go_wp2_with fail
 refine bk hK ?_
 clear hK K
 try go_frame
 refine tb ?_
 refine wpAnyH_done (by decide+kernel) ?_ _
 have q2:=B.q 2;have q5:=B.q 5
 go_wp2_with fail
 refine (HFO.out _ (B.g 8)).mono ?_
 rintro e w2 ⟨rfl,f2⟩
 replace B:=B.tm f2
 clear q2 q5
 go_wp2_with fail
 first
  |go_end0
  |(try simp only [Exit.inBlock,Exit.then]
    refine bodyPost_ret (results_none rfl _ _ _) rfl ?_)
 exact ⟨rfl,B.g 5,B.g 8,B.g 7,⟨B.g 0,B.g 1⟩,B.fr⟩
theorem Q50 (H:Yv w pM pW pm pc pw n who ve c ent mat f k v qm M N q pf pr r bt bm bw) (hst:r.st=0) (hok:r.look.ok c) (hS:JX c M) (hx:(Qx c r.look M).1.found=false∧(Qx c r.look M).2=true):
 Calls Tryz.prog 155 #[.pointer (some ⟨bt,0,none⟩),.pointer (some ⟨bm,0,none⟩),.pointer (some ⟨bw,0,none⟩)] w fun e w'=>e=.returned (.tuple #[])∧Xm w' q pf pr {r with look:=(Qx c r.look M).1}∧QN w' pf c (Qx c r.look M).1∧Ql w' pm qm M (N+1)∧(∃p2,w.heap.size≤p2∧Jq w' p2 none none c (QG who)∧QT w' pM pW pm pc pw n who ve c ent mat f (k.end_ who {ev0 with slot:=r.many}) {v with vd:=.pointer (some ⟨p2,0,none⟩)})∧Fr [pW,q,pf,pm,qm] w w':=by
 obtain ⟨a1,a2,a3⟩:=H.ap
 have HST:=hid fun w' h1 h2 h3=>YW w' pf pm qm c r.look M N h1 h2 H.hN a1 H.cf hok hS h3 a2
 unfold Q41 at HST
 generalize Qx c r.look M=x at HST hx
 obtain ⟨x1,x2⟩:=x
 have HFO:=hid fun w' h=>JV w' pf c x1 h
 dsimp only at HST hx
 simp only [hx] at HFO HST
 clear hok hS a1 a2 a3
 have hne:pM≠pW:=fun e=>by have:=H.nd;simp [e] at this
 have HEN:=hid fun w' h1 h2=>Z4 w' pM pW pm pc pw n who ve c ent mat f k v h1 h2 H.hk hne {ev0 with slot:=r.many}
 unfold EvV.val EvV.cells ev0 K8 at HEN
 dsimp only at HEN
 have hk:=H.hk
 have B:=H.bag
 clear H
 obtain ⟨rst,rmany,rlook,rret⟩:=r
 dsimp only [Qa.cells] at*
 subst hst
 have q2:=B.q 2;have q5:=B.q 5
 go_in
 go_wp2_with fail
 clear q2 q5
 refine rgx [0,1,2,3,4,5,6] B fun _ B=> ?_
 iterate 8 refine tb ?_
 refine tc 8 fun K hK=> ?_
 go_simp
 refine (HST.out _ (B.g 8) (B.g 7) (B.g 6)).mono ?_
 rintro e w1 ⟨rfl,h1,h2,f1⟩
 replace B:=B.up2 8 7 (T:=tFd pf c x1) (T':=tM pm qm M (N+1)) h1 h2 f1
 go_wp2_with fail
 refine bk hK ?_
 clear hK K
 try go_frame
 refine tb ?_
 refine wpAnyH_done (by decide+kernel) ?_ _
 have q2:=B.q 2;have q5:=B.q 5
 go_wp2_with fail
 refine (HFO.out _ (B.g 8)).mono ?_
 rintro e w2 ⟨rfl,f2⟩
 replace B:=B.tm f2
 clear q2 q5
 go_wp2_with fail
 replace B:=B.sel [0,2,3,4,5,1,6,7,8]
 refine rgx [0,1,2,3,4] B fun _ B=> ?_
 repeat refine tb ?_
 refine tc 7 fun K hK=> ?_
 go_simp
 refine (HEN.out _ (B.g 0) (B.g 5)).mono ?_
 rintro e w3 ⟨rfl,p,hp,ht,hmp,f3⟩
 replace hp:=Nat.le_trans B.fr.size hp
 replace B:=B.up 5 (T':=tW pW n f who _) hmp.wr f3
 go_wp2_with fail
 refine bk hK ?_
 clear hK K
 try go_frame
 refine wpAnyH_done (by decide+kernel) ?_ _
 go_wp2_with fail
 first
  |go_end0
  |(try simp only [Exit.inBlock,Exit.then]
    refine bodyPost_ret (results_none rfl _ _ _) rfl ?_)
 exact ⟨rfl,B.g 4,B.g 8,B.g 7,⟨p,hp,ht,hmp⟩,B.fr⟩
theorem DL (H:Yv w pM pW pm pc pw n who ve c ent mat f k v qm M N q pf pr r bt bm bw) (hst:r.st=1) (LW:List Nat) (X:World→Prop) (hDW:∀b∈LW,b≠pM∧b≠pW) (HASK:∀w',Fr [] w w'→Calls Tryz.prog 158 #[.pointer (some ⟨q,0,none⟩),.pointer (some ⟨pM,0,none⟩)] w' fun e w2=>e=.returned (.tuple #[])∧X w2∧Fr (q::LW) w' w2):
 Calls Tryz.prog 155 #[.pointer (some ⟨bt,0,none⟩),.pointer (some ⟨bm,0,none⟩),.pointer (some ⟨bw,0,none⟩)] w fun e w'=>e=.returned (.tuple #[])∧X w'∧QT w' pM pW pm pc pw n who ve c ent mat f k v∧Fr (q::LW) w w':=by
 have P0:∀{w'},Fr (q::LW) w w'→QT w' pM pW pm pc pw n who ve c ent mat f k v:=fun g=>⟨H.mb.fr g fun h=>(List.mem_cons.1 h).elim (fun e=>by have:=H.nd;simp [e] at this) fun h=>(hDW _ h).1 rfl,H.wr.fr g fun h=>(List.mem_cons.1 h).elim (fun e=>by have:=H.nd;simp [e] at this) fun h=>(hDW _ h).2 rfl⟩
 have HAS:=hid HASK
 clear HASK
 have hk:=H.hk
 have B:=H.bag
 clear H
 obtain ⟨rst,rmany,rlook,rret⟩:=r
 dsimp only [Qa.cells] at*
 subst hst
 have q2:=B.q 2;have q5:=B.q 5
 go_in
 have q3:=B.q 3
 go_wp2_with fail
 clear q3 q2 q5
 refine (HAS.out _ (Fr.refl [] w)).mono ?_
 rintro e w1 ⟨rfl,hX,f1⟩
 go_wp2_with fail
 first
  |go_end0
  |(try simp only [Exit.inBlock,Exit.then]
    refine bodyPost_ret (results_none rfl _ _ _) rfl ?_)
 exact ⟨rfl,hX,P0 f1,f1⟩
theorem Uo (H:Yv w pM pW pm pc pw n who ve c ent mat f k v qm M N q pf pr r bt bm bw) (hst:r.st=2) (s:Q8) (hfd:r.look.found=true) (hs:s.right) (hw:r.look.word=s.enc) (o1:who≤15) (h0:0≤r.look.at_) (h1:r.look.at_≤1000) (hn:Qj s 10 who 0=none):
 Calls Tryz.prog 155 #[.pointer (some ⟨bt,0,none⟩),.pointer (some ⟨bm,0,none⟩),.pointer (some ⟨bw,0,none⟩)] w fun e w'=>e=.returned (.tuple #[])∧Xm w' q pf pr r.J5∧QN w' pf c r.J5.look∧Ql w' pm qm M (N+1)∧QT w' pM pW pm pc pw n who ve c ent mat f k v∧Fr [pW,q,pf,pm,qm] w w':=by
 have HFN:=hid fun w' h=>JV w' pf c r.look h
 simp only [hfd,if_true] at HFN
 have HAF:=hid fun w' h=>Vd w' s 10 who hs (by omega) (by omega) (by omega) h
 rw [←hw,show ((10:Nat):Int)=10 from rfl,hn] at HAF
 have HGO:=hid fun w' a1 a2=>YR w' q pf pr c r a1 a2 h0 h1 H.ap.2.2
 clear hs hw hfd hn h0 h1
 have hk:=H.hk
 have B:=H.bag
 clear H
 obtain ⟨rst,rmany,rlook,rret⟩:=r
 dsimp only [Qa.cells] at*
 subst hst
 have q2:=B.q 2;have q5:=B.q 5
 go_in
 go_wp2_with fail
 clear q2 q5
 refine (HFN.out _ (B.g 8)).mono ?_
 rintro e w1 ⟨rfl,f1⟩
 replace B:=B.tm f1
 have q4:=B.q 4
 go_wp2_with fail
 clear q4
 refine (HAF.out _ (B.g 6)).mono ?_
 rintro e w2 ⟨rfl,f2⟩
 replace B:=B.tm f2
 have q2:=B.q 2
 go_wp2_with fail
 clear q2
 refine (HGO.out _ (B.g 5) (B.g 8)).mono ?_
 rintro e w9 ⟨rfl,a1,a2,f9⟩
 replace B:=B.up2 5 8 (T:=tRp q pf pr _) (T':=tFd pf c _) a1 a2 f9
 go_wp2_with fail
 first
  |go_end0
  |(try simp only [Exit.inBlock,Exit.then]
    refine bodyPost_ret (results_none rfl _ _ _) rfl ?_)
 exact ⟨rfl,B.g 5,B.g 8,(B.g 7).mono (by omega),⟨B.g 0,B.g 1⟩,B.fr⟩
theorem Q2K (H:Yv w pM pW pm pc pw n who ve c ent mat f k v qm M N q pf pr r bt bm bw) (hst:r.st=2) (s:Q8) (hfd:r.look.found=true) (hs:s.right) (hw:r.look.word=s.enc) (o1:who≤15) (h0:0≤r.look.at_) (h1:r.look.at_≤1000) (u:Q8) (hn:Qj s 10 who 0=some u):
 Calls Tryz.prog 155 #[.pointer (some ⟨bt,0,none⟩),.pointer (some ⟨bm,0,none⟩),.pointer (some ⟨bw,0,none⟩)] w fun e w'=>e=.returned (.tuple #[])∧Xm w' q pf pr r.J5∧QN w' pf c r.J5.look∧Ql w' pm qm (QL M (Q5 c r.look.at_) r.look.word u.enc) (N+1)∧QT w' pM pW pm pc pw n who ve c ent mat f k v∧Fr [pW,q,pf,pm,qm] w w':=by
 have HFN:=hid fun w' h=>JV w' pf c r.look h
 simp only [hfd,if_true] at HFN
 have HAF:=hid fun w' h=>Vd w' s 10 who hs (by omega) (by omega) (by omega) h
 rw [←hw,show ((10:Nat):Int)=10 from rfl,hn] at HAF
 have HGO:=hid fun w' a1 a2=>YR w' q pf pr c r a1 a2 h0 h1 H.ap.2.2
 have HSL:=hid fun w'=>J2 w' c r.look.at_ H.cf
 have HCS:=hid fun w' h=>UH w' pm qm M N (Q5 c r.look.at_) r.look.word u.enc h H.hN
 unfold Q0.val at HSL
 generalize Q5 c r.look.at_=cell at HSL HCS ⊢
 rw [show Q04 (some u)=u.enc from rfl,Option.isSome_some] at HAF
 generalize u.enc=ue at HAF HCS ⊢
 clear hs hw hfd hn h0 h1
 have hk:=H.hk
 have B:=H.bag
 clear H
 obtain ⟨rst,rmany,rlook,rret⟩:=r
 dsimp only [Qa.cells] at*
 subst hst
 have q2:=B.q 2;have q5:=B.q 5
 go_in
 go_wp2_with fail
 clear q2 q5
 refine (HFN.out _ (B.g 8)).mono ?_
 rintro e w1 ⟨rfl,f1⟩
 replace B:=B.tm f1
 have q4:=B.q 4
 go_wp2_with fail
 clear q4
 refine (HAF.out _ (B.g 6)).mono ?_
 rintro e w2 ⟨rfl,f2⟩
 replace B:=B.tm f2
 go_wp2_with fail
 refine rgx [0,1,2,3,4,5,6] B fun _ B=> ?_
 iterate 9 refine tb ?_
 refine tj 10 ?_
 refine tj 11 ?_
 refine tc 9 fun K hK=> ?_
 go_simp
 refine (HSL.out _).mono ?_
 rintro e w3 ⟨rfl,f3⟩
 replace B:=B.tm f3
 go_wp2_with fail
 refine bk hK ?_
 clear hK K
 try go_frame
 refine tc 12 fun K hK=> ?_
 go_simp
 refine (HCS.out _ (B.g 7)).mono ?_
 rintro e w4 ⟨rfl,h4,f4⟩
 replace B:=B.up 7 (T':=tM pm qm _ _) h4 f4
 go_wp2_with fail
 refine bk hK ?_
 clear hK K
 try go_frame
 refine wpAnyH_done (by decide+kernel) ?_ _
 have q2:=B.q 2
 go_wp2_with fail
 clear q2
 refine (HGO.out _ (B.g 5) (B.g 8)).mono ?_
 rintro e w9 ⟨rfl,a1,a2,f9⟩
 replace B:=B.up2 5 8 (T:=tRp q pf pr _) (T':=tFd pf c _) a1 a2 f9
 go_wp2_with fail
 first
  |go_end0
  |(try simp only [Exit.inBlock,Exit.then]
    refine bodyPost_ret (results_none rfl _ _ _) rfl ?_)
 exact ⟨rfl,B.g 5,B.g 8,B.g 7,⟨B.g 0,B.g 1⟩,B.fr⟩
theorem Q76 (H:Yv w pM pW pm pc pw n who ve c ent mat f k v qm M N q pf pr r bt bm bw) (hst:r.st=3) (qr:Nat) (rv:J4) (hpr:pr=some qr) (hrv:JF w qr rv) (hrok:rv.ok) (hqr:qr≠pM∧qr≠pW∧qr≠pm∧qr≠qm∧qr≠q∧qr≠pf∧qr≠bt∧qr≠bm∧qr≠bw∧qr≠0) (h0:0≤r.look.at_) (h1:r.look.at_≤1000) (hx:(Qn rv M).1.done=false):
 Calls Tryz.prog 155 #[.pointer (some ⟨bt,0,none⟩),.pointer (some ⟨bm,0,none⟩),.pointer (some ⟨bw,0,none⟩)] w fun e w'=>e=.returned (.tuple #[])∧Xm w' q pf (some qr) r∧JF w' qr (Qn rv M).1∧QN w' pf c r.look∧Ql w' pm qm (Qn rv M).2 (N+1)∧QT w' pM pW pm pc pw n who ve c ent mat f k v∧Fr [pW,q,pf,pm,qm,qr] w w':=by
 have hq5:(qr≠pm∧qr≠qm):=⟨hqr.2.2.1,hqr.2.2.2.1⟩
 have HRS:=hid fun w' h hm hg=>Yh w' qr pm qm rv M N hrok h hm H.hN hq5 hg
 unfold Y2 at HRS
 generalize Qn rv M=x at HRS hx ⊢
 obtain ⟨x1,x2⟩:=x
 dsimp only at HRS hx ⊢
 have HDN:=hid fun w' h=>YO w' qr x1 h
 have HGO:=hid fun w' r' (e:r'.look=r.look) a1 a2=>YR w' q pf pr c r' a1 (by rw [e];exact a2) (by rw [e];exact h0) (by rw [e];exact h1) H.ap.2.2
 subst hpr
 have hk:=H.hk
 have B:=(H.bag.mono (S1:=[pW,q,pf,pm,qm,qr]) (by simp)).add (tRt (some qr) (some rv)) hrv (fun x hx=>by simp at hx;subst hx;exact Q6 hrv) (fun i x hx hm=>by
  simp at hx
  subst hx
  rcases i with _|_|_|_|_|_|_|_|_|i
  all_goals first|(simp [gt,Th.nil] at hm;done)|(simp [gt,Th.nil] at hm;omega)) (by simp)
 clear H hrok hrv hqr h0 h1 hq5
 obtain ⟨rst,rmany,rlook,rret⟩:=r
 dsimp only [Qa.cells] at*
 subst hst
 simp only [hx] at HRS HDN
 have q2:=B.q 2;have q5:=B.q 5
 go_in
 go_wp2_with fail
 clear q2 q5
 refine rgx [0,1,2,3,4,5,6] B fun _ B=> ?_
 iterate 8 refine tb ?_
 refine tc 8 fun K hK=> ?_
 go_simp
 refine (HRS.out _ (B.g 9) (B.g 7) (B.g 6)).mono ?_
 rintro e w1 ⟨rfl,a1,a2,f1⟩
 replace B:=B.up2 9 7 (T:=tRt (some qr) (some x1)) (T':=tM pm qm _ _) a1 a2 f1
 go_wp2_with fail
 refine bk hK ?_
 clear hK K
 try go_frame
 refine wpAnyH_done (by decide+kernel) ?_ _
 go_wp2_with fail
 first
  |go_end0
  |(try simp only [Exit.inBlock,Exit.then]
    refine bodyPost_ret (results_none rfl _ _ _) rfl ?_)
 exact ⟨rfl,B.g 5,B.g 9,B.g 8,B.g 7,⟨B.g 0,B.g 1⟩,B.fr⟩
theorem Da (H:Yv w pM pW pm pc pw n who ve c ent mat f k v qm M N q pf pr r bt bm bw) (hst:r.st=3) (qr:Nat) (rv:J4) (hpr:pr=some qr) (hrv:JF w qr rv) (hrok:rv.ok) (hqr:qr≠pM∧qr≠pW∧qr≠pm∧qr≠qm∧qr≠q∧qr≠pf∧qr≠bt∧qr≠bm∧qr≠bw∧qr≠0) (h0:0≤r.look.at_) (h1:r.look.at_≤1000) (hm0:0≤r.many) (hm1:r.many≤1000000000) (hx:(Qn rv M).1.done=true∧(Qn rv M).1.swapped=true):
 Calls Tryz.prog 155 #[.pointer (some ⟨bt,0,none⟩),.pointer (some ⟨bm,0,none⟩),.pointer (some ⟨bw,0,none⟩)] w fun e w'=>e=.returned (.tuple #[])∧Xm w' q pf (some qr) ({r with many:=r.many+1}).J5∧JF w' qr (Qn rv M).1∧QN w' pf c ({r with many:=r.many+1}).J5.look∧Ql w' pm qm (Qn rv M).2 (N+1)∧QT w' pM pW pm pc pw n who ve c ent mat f k v∧Fr [pW,q,pf,pm,qm,qr] w w':=by
 have hm2:(-9000000000000000000≤r.many+1∧r.many+1≤9000000000000000000):=by omega
 have hq5:(qr≠pm∧qr≠qm):=⟨hqr.2.2.1,hqr.2.2.2.1⟩
 have HRS:=hid fun w' h hm hg=>Yh w' qr pm qm rv M N hrok h hm H.hN hq5 hg
 unfold Y2 at HRS
 generalize Qn rv M=x at HRS hx ⊢
 obtain ⟨x1,x2⟩:=x
 dsimp only at HRS hx ⊢
 have HDN:=hid fun w' h=>YO w' qr x1 h
 have HGO:=hid fun w' r' (e:r'.look=r.look) a1 a2=>YR w' q pf pr c r' a1 (by rw [e];exact a2) (by rw [e];exact h0) (by rw [e];exact h1) H.ap.2.2
 subst hpr
 have hk:=H.hk
 have B:=(H.bag.mono (S1:=[pW,q,pf,pm,qm,qr]) (by simp)).add (tRt (some qr) (some rv)) hrv (fun x hx=>by simp at hx;subst hx;exact Q6 hrv) (fun i x hx hm=>by
  simp at hx
  subst hx
  rcases i with _|_|_|_|_|_|_|_|_|i
  all_goals first|(simp [gt,Th.nil] at hm;done)|(simp [gt,Th.nil] at hm;omega)) (by simp)
 clear H hrok hrv hqr h0 h1 hq5
 obtain ⟨rst,rmany,rlook,rret⟩:=r
 dsimp only [Qa.cells] at*
 subst hst
 simp only [hx] at HRS HDN
 have q2:=B.q 2;have q5:=B.q 5
 go_in
 go_wp2_with fail
 clear q2 q5
 refine rgx [0,1,2,3,4,5,6] B fun _ B=> ?_
 iterate 8 refine tb ?_
 refine tc 8 fun K hK=> ?_
 go_simp
 refine (HRS.out _ (B.g 9) (B.g 7) (B.g 6)).mono ?_
 rintro e w1 ⟨rfl,a1,a2,f1⟩
 replace B:=B.up2 9 7 (T:=tRt (some qr) (some x1)) (T':=tM pm qm _ _) a1 a2 f1
 go_wp2_with fail
 refine bk hK ?_
 clear hK K
 try go_frame
 refine wpAnyH_done (by decide+kernel) ?_ _
 have q2:=B.q 2;have q5:=B.q 5;have u:=B.u 5
 go_wp2_with fail
 clear q2 q5 u
 refine (HDN.out _ (B.g 9)).mono ?_
 rintro e w2 ⟨rfl,f2⟩
 replace B:=B.tm f2
 have q2:=B.q 2;have q5:=B.q 5;have u:=B.u 5
 go_wp2_with fail
 clear q2 q5 u
 generalize hw:World.setCell _ _ _=w3
 replace B:=(B.s 5).e hw
 have q2:=B.q 2
 go_wp2_with fail
 clear q2
 refine (HGO.out _ ⟨3,rmany+1,rlook,rret⟩ rfl (B.g 5) (B.g 8)).mono ?_
 rintro e w9 ⟨rfl,a1,a2,f9⟩
 replace B:=B.up2 5 8 (T:=tRp q pf _ _) (T':=tFd pf c _) a1 a2 f9
 go_wp2_with fail
 first
  |go_end0
  |(try simp only [Exit.inBlock,Exit.then]
    refine bodyPost_ret (results_none rfl _ _ _) rfl ?_)
 exact ⟨rfl,B.g 5,B.g 9,B.g 8,B.g 7,⟨B.g 0,B.g 1⟩,B.fr⟩
theorem Q2L (H:Yv w pM pW pm pc pw n who ve c ent mat f k v qm M N q pf pr r bt bm bw) (hst:r.st=3) (qr:Nat) (rv:J4) (hpr:pr=some qr) (hrv:JF w qr rv) (hrok:rv.ok) (hqr:qr≠pM∧qr≠pW∧qr≠pm∧qr≠qm∧qr≠q∧qr≠pf∧qr≠bt∧qr≠bm∧qr≠bw∧qr≠0) (h0:0≤r.look.at_) (h1:r.look.at_≤1000) (hm0:0≤r.many) (hm1:r.many≤1000000000) (hx:(Qn rv M).1.done=true∧(Qn rv M).1.swapped=false):
 Calls Tryz.prog 155 #[.pointer (some ⟨bt,0,none⟩),.pointer (some ⟨bm,0,none⟩),.pointer (some ⟨bw,0,none⟩)] w fun e w'=>e=.returned (.tuple #[])∧Xm w' q pf (some qr) r.J5∧JF w' qr (Qn rv M).1∧QN w' pf c r.J5.look∧Ql w' pm qm (Qn rv M).2 (N+1)∧QT w' pM pW pm pc pw n who ve c ent mat f k v∧Fr [pW,q,pf,pm,qm,qr] w w':=by
 have hq5:(qr≠pm∧qr≠qm):=⟨hqr.2.2.1,hqr.2.2.2.1⟩
 have HRS:=hid fun w' h hm hg=>Yh w' qr pm qm rv M N hrok h hm H.hN hq5 hg
 unfold Y2 at HRS
 generalize Qn rv M=x at HRS hx ⊢
 obtain ⟨x1,x2⟩:=x
 dsimp only at HRS hx ⊢
 have HDN:=hid fun w' h=>YO w' qr x1 h
 have HGO:=hid fun w' r' (e:r'.look=r.look) a1 a2=>YR w' q pf pr c r' a1 (by rw [e];exact a2) (by rw [e];exact h0) (by rw [e];exact h1) H.ap.2.2
 subst hpr
 have hk:=H.hk
 have B:=(H.bag.mono (S1:=[pW,q,pf,pm,qm,qr]) (by simp)).add (tRt (some qr) (some rv)) hrv (fun x hx=>by simp at hx;subst hx;exact Q6 hrv) (fun i x hx hm=>by
  simp at hx
  subst hx
  rcases i with _|_|_|_|_|_|_|_|_|i
  all_goals first|(simp [gt,Th.nil] at hm;done)|(simp [gt,Th.nil] at hm;omega)) (by simp)
 clear H hrok hrv hqr h0 h1 hq5
 obtain ⟨rst,rmany,rlook,rret⟩:=r
 dsimp only [Qa.cells] at*
 subst hst
 simp only [hx] at HRS HDN
 have q2:=B.q 2;have q5:=B.q 5
 go_in
 go_wp2_with fail
 clear q2 q5
 refine rgx [0,1,2,3,4,5,6] B fun _ B=> ?_
 iterate 8 refine tb ?_
 refine tc 8 fun K hK=> ?_
 go_simp
 refine (HRS.out _ (B.g 9) (B.g 7) (B.g 6)).mono ?_
 rintro e w1 ⟨rfl,a1,a2,f1⟩
 replace B:=B.up2 9 7 (T:=tRt (some qr) (some x1)) (T':=tM pm qm _ _) a1 a2 f1
 go_wp2_with fail
 refine bk hK ?_
 clear hK K
 try go_frame
 refine wpAnyH_done (by decide+kernel) ?_ _
 have q2:=B.q 2;have q5:=B.q 5;have u:=B.u 5
 go_wp2_with fail
 clear q2 q5 u
 refine (HDN.out _ (B.g 9)).mono ?_
 rintro e w2 ⟨rfl,f2⟩
 replace B:=B.tm f2
 have q2:=B.q 2
 go_wp2_with fail
 clear q2
 refine (HGO.out _ ⟨3,rmany,rlook,rret⟩ rfl (B.g 5) (B.g 8)).mono ?_
 rintro e w9 ⟨rfl,a1,a2,f9⟩
 replace B:=B.up2 5 8 (T:=tRp q pf _ _) (T':=tFd pf c _) a1 a2 f9
 go_wp2_with fail
 first
  |go_end0
  |(try simp only [Exit.inBlock,Exit.then]
    refine bodyPost_ret (results_none rfl _ _ _) rfl ?_)
 exact ⟨rfl,B.g 5,B.g 9,B.g 8,B.g 7,⟨B.g 0,B.g 1⟩,B.fr⟩
end
end Go.Proofs.YtgjklfmnmljilaaGreatDoor
