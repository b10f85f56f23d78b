/- A part of the proof: QuHP to HeldRP. -/
import Derived.Test.YtgjklfmnmljilaaGreatDoorZT01
import Derived.Test.YtgjklfmnmljilaaGreatDoorZT03
import Derived.Test.YtgjklfmnmljilaaGreatDoorZT07
import Derived.Deep.RegionHeld3
import Derived.OrdersHeld
import Derived.OrdersIn
import Derived.RegionTactic
import Derived.Shelf.RegionOpen
namespace Go.Proofs.YtgjklfmnmljilaaGreatDoor
set_option linter.unusedVariables false
set_option linter.unusedSimpArgs false
set_option linter.unusedSectionVars false
set_option linter.unnecessarySimpa false
set_option maxRecDepth 100000
set_option maxHeartbeats 8000000
section
open Go.RowKit
theorem Q8R (w:World) (p pm qm:Nat) (c:Q0) (s:QuS) (M:List Int) (t:Int) (Q:List Int) (h:J9 w p c s) (hM:QD 112 w pm qm M t) (ht0:0≤t) (ht1:t≤1000000000) (hp:p≠pm∧p≠qm) (hQ:Ln Q) (hl:Q7 M 1=(wd Q:Int)) (hn:s.nx=.come):
 Calls Tryz.prog 82 #[.pointer (some ⟨p,0,none⟩),.pointer (some ⟨pm,0,none⟩)] w
  (Jl w p pm qm c (if c.wa≤(Q.length:Int)∨s.w∈Q then {s with line:=Q,e:=7,nx:=.done} else {s with line:=Q,nx:=.push}) M (t+tch M 1)):=by
 have hC:=Q4N w p pm qm c s M t Q h hM ht0 ht1 hp hQ hl
 have:=X3 w p pm qm c s _ _ M _ _ h hp (by rw [hn];rfl) hC
 by_cases hf:c.wa≤(Q.length:Int)∨s.w∈Q
 · rw [if_pos hf] at this ⊢;rw [if_pos hf] at this;exact this
 · rw [if_neg hf] at this ⊢;rw [if_neg hf] at this;exact this
theorem Q8M (w:World) (p pm qm:Nat) (c:Q0) (s:QuS) (M:List Int) (t:Int) (h:J9 w p c s) (hM:QD 112 w pm qm M t) (ht0:0≤t) (ht1:t≤1000000000) (hp:p≠pm∧p≠qm) (hL:Ln s.line) (hn:s.nx=.push) (hok:Ln (s.line++[s.w])) (hcs:Qv M 1 (wd s.line)=true):
 Calls Tryz.prog 82 #[.pointer (some ⟨p,0,none⟩),.pointer (some ⟨pm,0,none⟩)] w
  (Jl w p pm qm c {s with nx:=.closed} (QL M 1 (wd s.line) (wd (s.line++[s.w]):Int)) (t+tch M 1)):=by
 have hC:=Dz w p pm qm c s M t h hM ht0 ht1 hp hL
 rw [if_pos ⟨hok,hcs⟩,if_pos ⟨hok,hcs⟩,if_pos hok,if_pos hok,show YQ s.line s.w=s.line++[s.w] by unfold YQ;rw [if_pos hok]] at hC
 exact X3 w p pm qm c s _ _ _ _ _ h hp (by rw [hn];rfl) hC
theorem Q8N (w:World) (p pm qm:Nat) (c:Q0) (s:QuS) (M:List Int) (t:Int) (h:J9 w p c s) (hM:QD 112 w pm qm M t) (ht0:0≤t) (ht1:t≤1000000000) (hp:p≠pm∧p≠qm) (hn:s.nx=.closed) (h0:Q7 M 0=0):
 Calls Tryz.prog 82 #[.pointer (some ⟨p,0,none⟩),.pointer (some ⟨pm,0,none⟩)] w
  (Jl w p pm qm c {s with e:=0,nx:=.done} M (t+tch M 0)):=by
 have hC:=GQ w p pm qm c s M t h hM ht0 ht1 hp
 rw [if_pos h0,if_pos h0] at hC
 exact X3 w p pm qm c s _ _ _ _ _ h hp (by rw [hn];rfl) hC
theorem Q8O (w:World) (p pm qm:Nat) (c:Q0) (s:QuS) (M:List Int) (t:Int) (Q:List Int) (h:J9 w p c s) (hM:QD 112 w pm qm M t) (ht0:0≤t) (ht1:t≤1000000000) (hp:p≠pm∧p≠qm) (hQ:Ln Q) (hl:Q7 M 1=(wd Q:Int)) (hn:s.nx=.look):
 Calls Tryz.prog 82 #[.pointer (some ⟨p,0,none⟩),.pointer (some ⟨pm,0,none⟩)] w
  (Jl w p pm qm c (if s.w∈Q then {s with line:=Q,nx:=.drop} else {s with line:=Q,e:=8,nx:=.done}) M (t+tch M 1)):=by
 have hC:=Q7i w p pm qm c s M t Q h hM ht0 ht1 hp hQ hl
 have:=X3 w p pm qm c s _ _ M _ _ h hp (by rw [hn];rfl) hC
 by_cases hf:s.w∈Q
 · rw [if_pos hf] at this ⊢;rw [if_pos hf] at this;exact this
 · rw [if_neg hf] at this ⊢;rw [if_neg hf] at this;exact this
theorem Q8Q (w:World) (p pm qm:Nat) (c:Q0) (s:QuS) (M:List Int) (t:Int) (h:J9 w p c s) (hM:QD 112 w pm qm M t) (ht0:0≤t) (ht1:t≤1000000000) (hp:p≠pm∧p≠qm) (hL:Ln s.line) (hn:s.nx=.drop) (hok:s.w∈s.line) (hcs:Qv M 1 (wd s.line)=true):
 Calls Tryz.prog 82 #[.pointer (some ⟨p,0,none⟩),.pointer (some ⟨pm,0,none⟩)] w
  (Jl w p pm qm c {s with e:=s.why,nx:=.done} (QL M 1 (wd s.line) (wd (rm s.line s.w):Int)) (t+tch M 1)):=by
 have hC:=DC w p pm qm c s M t h hM ht0 ht1 hp hL
 rw [if_pos ⟨hok,hcs⟩,if_pos ⟨hok,hcs⟩,if_pos hok,if_pos hok] at hC
 exact X3 w p pm qm c s _ _ _ _ _ h hp (by rw [hn];rfl) hC
theorem Q0P (w:World) (p pm qm:Nat) (c:Q0) (s:QuS) (M:List Int) (t:Int) (h:J9 w p c s) (hM:QD 112 w pm qm M t) (ht0:0≤t) (ht1:t≤1000000000) (hp:p≠pm∧p≠qm) (hL:Ln s.line) (hn:s.nx=.drop) (hok:s.w∈s.line) (hcs:Qv M 1 (wd s.line)=false):
 Calls Tryz.prog 82 #[.pointer (some ⟨p,0,none⟩),.pointer (some ⟨pm,0,none⟩)] w
  (Jl w p pm qm c {s with nx:=.look} M (t+tch M 1)):=by
 have hC:=DC w p pm qm c s M t h hM ht0 ht1 hp hL
 have hne:¬(s.w∈s.line∧Qv M 1 (wd s.line)=true):=fun e=>by rw [hcs] at e;cases e.2
 rw [if_neg hne,if_neg hne,if_pos hok,if_pos hok,show QL M 1 (wd s.line) (wd (rm s.line s.w):Int)=M by unfold QL;rw [if_neg (by rw [hcs];simp)]] at hC
 exact X3 w p pm qm c s _ _ _ _ _ h hp (by rw [hn];rfl) hC
theorem Q4L (w:World) (p pm qm:Nat) (c:Q0) (s:QuS) (M:List Int) (t:Int) (h:J9 w p c s) (hM:QD 112 w pm qm M t) (ht0:0≤t) (ht1:t≤1000000000) (hp:p≠pm∧p≠qm) (hn:s.nx=.closed) (h0:Q7 M 0≠0):
 Calls Tryz.prog 82 #[.pointer (some ⟨p,0,none⟩),.pointer (some ⟨pm,0,none⟩)] w
  (Jl w p pm qm c {s with why:=5,nx:=.look} M (t+tch M 0)):=by
 have hC:=GQ w p pm qm c s M t h hM ht0 ht1 hp
 rw [if_neg h0,if_neg h0] at hC
 exact X3 w p pm qm c s _ _ _ _ _ h hp (by rw [hn];rfl) hC
theorem Q8P (w:World) (p pm qm:Nat) (c:Q0) (s:QuS) (M:List Int) (t:Int) (Q:List Int) (h:J9 w p c s) (hM:QD 112 w pm qm M t) (ht0:0≤t) (ht1:t≤1000000000) (hp:p≠pm∧p≠qm) (hQ:Ln Q) (hl:Q7 M 1=(wd Q:Int)) (hn:s.nx=.head):
 Calls Tryz.prog 82 #[.pointer (some ⟨p,0,none⟩),.pointer (some ⟨pm,0,none⟩)] w
  (Jl w p pm qm c (if Q=[] then {s with line:=Q,e:=0,nx:=.done} else {s with line:=Q,first:=Zc Q,nx:=.pop}) M (t+tch M 1)):=by
 have hC:=Q4M w p pm qm c s M t Q h hM ht0 ht1 hp hQ hl
 have:=X3 w p pm qm c s _ _ M _ _ h hp (by rw [hn];rfl) hC
 by_cases hf:Q=[]
 · rw [if_pos hf] at this ⊢;rw [if_pos hf] at this;exact this
 · rw [if_neg hf] at this ⊢;rw [if_neg hf] at this;exact this
theorem qs_pop (w:World) (p pm qm:Nat) (c:Q0) (s:QuS) (M:List Int) (t:Int) (h:J9 w p c s) (hM:QD 112 w pm qm M t) (ht0:0≤t) (ht1:t≤1000000000) (hp:p≠pm∧p≠qm) (hL:Ln s.line) (hn:s.nx=.pop) (hcs:Qv M 1 (wd s.line)=true):
 Calls Tryz.prog 82 #[.pointer (some ⟨p,0,none⟩),.pointer (some ⟨pm,0,none⟩)] w
  (Jl w p pm qm c {s with nx:=.tell} (QL M 1 (wd s.line) (wd s.line.tail:Int)) (t+tch M 1)):=by
 have hC:=Q0Q w p pm qm c s M t h hM ht0 ht1 hp hL
 rw [if_pos hcs] at hC
 exact X3 w p pm qm c s _ _ _ _ _ h hp (by rw [hn];rfl) hC
theorem ZB (w:World) (c:Q0) (i:Int) (hc:c.fits) (h0:0≤i) (h1:i<c.wo):Calls Tryz.prog 71 #[c.val,.int .i64 i] w fun e w'=>e=.returned (.int .i64 (3+c.wo+i))∧Fr [] w w':=by
 obtain ⟨wo,sl,st,wa,us⟩:=c
 obtain ⟨⟨a0,a1⟩,⟨b0,b1⟩, -⟩:=hc
 unfold Q0.val
 simp only at a0 a1 b0 b1 h1
 have hfr:=(Fr.refl [] w).alloc (.cells #[.int .i64 wo,.int .i64 sl,.int .i64 st,.int .i64 wa,.int .i64 us] 30)
 have HF:=Lib.hid hfr;clear hfr
 go_in
 go_wp2
 go_ret
 exact ⟨rfl,HF.out⟩
theorem Q4J (w:World) (p pm qm:Nat) (c:Q0) (s:QuS) (M:List Int) (t:Int) (h:J9 w p c s) (hM:QD 112 w pm qm M t) (ht0:0≤t) (ht1:t≤1000000000) (hp:p≠pm∧p≠qm) (hc:c.fits) (hf0:0≤s.first) (hf1:s.first<c.wo):
 Calls Tryz.prog 267 #[.pointer (some ⟨p,0,none⟩),.pointer (some ⟨pm,0,none⟩)] w
  (JB w p pm qm c s .head (Qz M (3+c.wo+s.first) (-1)) (t+tch M (3+c.wo+s.first))):=by
 have q0:=cell_of (i:=0) h rfl
 have q1:=cell_of (i:=1) h rfl
 have q2:=cell_of (i:=2) h rfl
 have q3:=cell_of (i:=3) h rfl
 have q4:=cell_of (i:=4) h rfl
 have q7:=cell_of (i:=7) h rfl
 have hg:=fun W:World=>ZB W c s.first hc hf0 hf1
 unfold Q0.val at hg
 have HG:=Lib.hid hg
 have H:=Lib.hid h;have HP:=Lib.hid hp;have HM:=Lib.hid hM
 clear h hM hp hg hc
 go_in
 go_wp2_with fail
 refine wp_region_held_drew (S:=fun w'=>w'.cell? ⟨p,0,none⟩=some (.int .i64 c.wo)∧w'.cell? ⟨p,1,none⟩=some (.int .i64 c.sl)∧w'.cell? ⟨p,2,none⟩=some (.int .i64 c.st)∧w'.cell? ⟨p,3,none⟩=some (.int .i64 c.wa)∧w'.cell? ⟨p,4,none⟩=some (.int .i64 c.us)∧w'.cell? ⟨p,7,none⟩=some (.int .i64 s.first)) (by kernel_rfl) ⟨q0,q1,q2,q3,q4,q7⟩ (fun hHeld=> ?_)
 refine tk 0 ?_
 refine tk 1 ?_
 refine tk 2 ?_
 refine tk 3 ?_
 refine tk 4 ?_
 refine tk 5 ?_
 refine tk 6 ?_
 refine tk 7 ?_
 refine tk 8 ?_
 refine tc 9 (fun K hK=> ?_)
 go_simp
 refine (HG.out w.drew).mono ?_
 rintro en w3 ⟨rfl,f3⟩
 have F3:=(Fr.refl [] w).drew.trans f3
 have HST:=Lib.hid (Dw w3 pm qm M t (3+c.wo+s.first) (-1) (HM.out.fr F3 (by simp) (by simp)) ht0 (by omega))
 go_wp2_with fail
 refine hK.out _ _ ⟨F3.cell q0 (by simp),F3.cell q1 (by simp),F3.cell q2 (by simp),F3.cell q3 (by simp),F3.cell q4 (by simp),F3.cell q7 (by simp)⟩ (fun hHeld=> ?_)
 clear hK K
 try go_frame
 refine tc 10 (fun K hK=> ?_)
 go_simp
 refine (HST.out).mono ?_
 rintro en w4 ⟨rfl,hm4,f4⟩
 go_wp2_with fail
 refine hK.out _ _ ⟨f4.cell (F3.cell q0 (by simp)) (by simp;exact HP.out),f4.cell (F3.cell q1 (by simp)) (by simp;exact HP.out),f4.cell (F3.cell q2 (by simp)) (by simp;exact HP.out),f4.cell (F3.cell q3 (by simp)) (by simp;exact HP.out),f4.cell (F3.cell q4 (by simp)) (by simp;exact HP.out),f4.cell (F3.cell q7 (by simp)) (by simp;exact HP.out)⟩ (fun hHeld=> ?_)
 clear hK K
 try go_frame
 refine wpAnyH_done (by kernel_rfl) ?_ _
 have HQ:=Lib.hid (show JB w p pm qm c s .head _ _ (.returned (QSt.val p .head)) w4 from ⟨rfl,(H.out.fr F3 (by simp)).fr f4 (by simp;exact HP.out),hm4,(F3.mono (by simp)).trans (f4.mono (by simp+contextual))⟩)
 go_wp2
 go_ret
 exact HQ.out
theorem Q8L (w:World) (p pm qm:Nat) (c:Q0) (s:QuS) (M:List Int) (t:Int) (h:J9 w p c s) (hM:QD 112 w pm qm M t) (ht0:0≤t) (ht1:t≤1000000000) (hp:p≠pm∧p≠qm) (hc:c.fits) (hf0:0≤s.first) (hf1:s.first<c.wo) (hn:s.nx=.tell):
 Calls Tryz.prog 82 #[.pointer (some ⟨p,0,none⟩),.pointer (some ⟨pm,0,none⟩)] w
  (Jl w p pm qm c {s with nx:=.head} (Qz M (3+c.wo+s.first) (-1)) (t+tch M (3+c.wo+s.first))):=
 X3 w p pm qm c s _ _ _ _ _ h hp (by rw [hn];rfl) (Q4J w p pm qm c s M t h hM ht0 ht1 hp hc hf0 hf1)
theorem Q5f {M:List Int} {n:Int} (hl:2≤M.length):Q7 (M.set 1 n) 1=n:=by
 have hin:isIn (M.set 1 n) 1=true:=Jh (by omega) (by rw [List.length_set];omega)
 unfold Q7
 rw [if_pos hin]
 show (M.set 1 n).getD 1 0=n
 rw [List.getD_eq_getElem?_getD,List.getElem?_set_self (by omega)]
 rfl
def mQ (M:List Int):List Int:=Q3B (Q7 M 1)
theorem Q7d {M Q:List Int} (hQ:Ln Q) (h:Q7 M 1=(wd Q:Int)):mQ M=Q:=by unfold mQ;rw [h,Q6H hQ]
def MOk (M:List Int):Prop:=2≤M.length∧Ln (mQ M)∧Q7 M 1=(wd (mQ M):Int)
theorem MOk.of {M Q:List Int} (hm:2≤M.length) (hQ:Ln Q) (h:Q7 M 1=(wd Q:Int)):MOk M∧mQ M=Q:=by
 have e:=Q7d hQ h
 exact ⟨⟨hm,by rw [e];exact hQ,by rw [e];exact h⟩,e⟩
theorem MOk.set {M Q:List Int} (hm:2≤M.length) (hQ:Ln Q):MOk (M.set 1 (wd Q:Int))∧mQ (M.set 1 (wd Q:Int))=Q:=
 MOk.of (by rw [List.length_set];exact hm) hQ (Q5f hm)
theorem Q1I {M L:List Int} (h:MOk M) (hL:Ln L):Qv M 1 (wd L:Int)=decide (mQ M=L):=by
 have hin:isIn M 1=true:=Jh (by omega) (by have:=h.1;omega)
 have h1:=h.2.2
 unfold Q7 at h1
 rw [if_pos hin] at h1
 unfold Qv
 rw [hin,Bool.true_and,h1]
 by_cases e:mQ M=L
 · rw [e];simp
 · rw [decide_eq_false e]
   refine decide_eq_false fun hh=>e (wd_inj h.2.1 hL (by omega))
theorem cell1 {M:List Int} (h:2≤M.length) (L:List Int) (n:Int):QL M 1 (wd L:Int) n=if Qv M 1 (wd L:Int)=true then M.set 1 n else M:=rfl
theorem Wm (L:List Int) (i v j:Int):isIn (Qz L i v) j=isIn L j:=by unfold isIn;rw [Di]
theorem He {L:List Int} {i v:Int} (h:isIn L i=true):Q7 (Qz L i v) i=v:=by
 unfold Q7
 rw [Wm,if_pos h]
 unfold Qz
 rw [if_pos h]
 have:=of_decide_eq_true h
 rw [List.getD_eq_getElem?_getD,List.getElem?_set_self (by omega)]
 rfl
theorem Wz {L:List Int} {i j v:Int} (h0:0≤i) (h:i≠j):Q7 (Qz L i v) j=Q7 L j:=by
 unfold Q7
 rw [Wm]
 by_cases hj:isIn L j=true
 · rw [if_pos hj,if_pos hj]
   unfold Qz
   split
   · have:=of_decide_eq_true hj
     rw [List.getD_eq_getElem?_getD,List.getElem?_set_ne (by omega),List.getD_eq_getElem?_getD]
   · rfl
 · rw [if_neg hj,if_neg hj]
theorem W9 (n:Nat) (i:Int):Q7 (List.replicate n 0) i=0:=by
 unfold Q7
 split
 · rw [List.getD_eq_getElem?_getD,List.getElem?_replicate];split<;>rfl
 · rfl
def Qp (c:Q0) (s:QuS) (M:List Int):QuS×List Int:=
 match s.nx with
 |.come=>(if c.wa≤((mQ M).length:Int)∨s.w∈mQ M then {s with line:=mQ M,e:=7,nx:=.done} else {s with line:=mQ M,nx:=.push},M)
 |.push=>if mQ M=s.line then ({s with nx:=.closed},M.set 1 (wd (s.line++[s.w]):Int)) else ({s with nx:=.come},M)
 |.closed=>(if Q7 M 0=0 then {s with e:=0,nx:=.done} else {s with why:=5,nx:=.look},M)
 |.look=>(if s.w∈mQ M then {s with line:=mQ M,nx:=.drop} else {s with line:=mQ M,e:=8,nx:=.done},M)
 |.drop=>if mQ M=s.line then ({s with e:=s.why,nx:=.done},M.set 1 (wd (rm s.line s.w):Int)) else ({s with nx:=.look},M)
 |.head=>(if mQ M=[] then {s with line:=mQ M,e:=0,nx:=.done} else {s with line:=mQ M,first:=Zc (mQ M),nx:=.pop},M)
 |.pop=>if mQ M=s.line then ({s with nx:=.tell},M.set 1 (wd s.line.tail:Int)) else ({s with nx:=.head},M)
 |.tell=>({s with nx:=.head},Qz M (3+c.wo+s.first) (-1))
 |.done=>(s,M)
def qT (s:QuS):Int:=match s.nx with
 |.done=>0
 |_=>1
def QuS.ok (c:Q0) (s:QuS):Prop:=Ln s.line∧(s.nx=.push→Ln (s.line++[s.w]))∧(s.nx=.drop→s.w∈s.line)∧(s.nx=.tell→0≤s.first∧s.first<c.wo)
theorem Q0O (w:World) (p pm qm:Nat) (c:Q0) (s:QuS) (M:List Int) (t:Int) (h:J9 w p c s) (hM:QD 112 w pm qm M t) (ht0:0≤t) (ht1:t≤1000000000) (hp:p≠pm∧p≠qm) (hL:Ln s.line) (hn:s.nx=.push) (hok:Ln (s.line++[s.w])) (hcs:Qv M 1 (wd s.line)=false):
 Calls Tryz.prog 82 #[.pointer (some ⟨p,0,none⟩),.pointer (some ⟨pm,0,none⟩)] w
  (Jl w p pm qm c {s with nx:=.come} M (t+tch M 1)):=by
 have hC:=Dz w p pm qm c s M t h hM ht0 ht1 hp hL
 have hne:¬(Ln (s.line++[s.w])∧Qv M 1 (wd s.line)=true):=fun e=>by rw [hcs] at e;cases e.2
 rw [if_neg hne,if_neg hne,if_pos hok,if_pos hok,show QL M 1 (wd s.line) (wd (YQ s.line s.w):Int)=M by unfold QL;rw [if_neg (by rw [hcs];simp)]] at hC
 exact X3 w p pm qm c s _ _ _ _ _ h hp (by rw [hn];rfl) hC
theorem Q2w (w:World) (p pm qm:Nat) (c:Q0) (s:QuS) (M:List Int) (t:Int) (h:J9 w p c s) (hM:QD 112 w pm qm M t) (ht0:0≤t) (ht1:t≤1000000000) (hp:p≠pm∧p≠qm) (hL:Ln s.line) (hn:s.nx=.pop) (hcs:Qv M 1 (wd s.line)=false):
 Calls Tryz.prog 82 #[.pointer (some ⟨p,0,none⟩),.pointer (some ⟨pm,0,none⟩)] w
  (Jl w p pm qm c {s with nx:=.head} M (t+tch M 1)):=by
 have hC:=Q0Q w p pm qm c s M t h hM ht0 ht1 hp hL
 rw [if_neg (by rw [hcs];simp),show QL M 1 (wd s.line) (wd s.line.tail:Int)=M by unfold QL;rw [if_neg (by rw [hcs];simp)]] at hC
 exact X3 w p pm qm c s _ _ _ _ _ h hp (by rw [hn];rfl) hC
theorem Q6Q (w:World) (p pm qm:Nat) (c:Q0) (s:QuS) (M:List Int) (t:Int) (h:J9 w p c s) (hM:QD 112 w pm qm M t) (ht0:0≤t) (ht1:t≤1000000000) (hp:p≠pm∧p≠qm) (hc:c.fits) (hs:s.ok c) (hm:MOk M) (hlen:3+2*c.wo≤(M.length:Int)):
 Calls Tryz.prog 82 #[.pointer (some ⟨p,0,none⟩),.pointer (some ⟨pm,0,none⟩)] w
  (Jl w p pm qm c (Qp c s M).1 (Qp c s M).2 (t+qT s)):=by
 obtain ⟨hl,hpu,hdr,hte⟩:=hs
 have t1:tch M 1=1:=by unfold tch;rw [if_pos (Jh (by omega) (by have:=hm.1;omega))]
 have t0:tch M 0=1:=by unfold tch;rw [if_pos (Jh (by omega) (by have:=hm.1;omega))]
 have hcq:=Q1I hm hl
 obtain ⟨sw,sl,sf,nx,why,er⟩:=s
 simp only at hl hpu hdr hte hcq
 cases nx with
 |come=>
  have:=Q8R w p pm qm c _ M t (mQ M) h hM ht0 ht1 hp hm.2.1 hm.2.2 rfl
  rw [t1] at this;exact this
 |push=>
  by_cases e:mQ M=sl
  · have:=Q8M w p pm qm c _ M t h hM ht0 ht1 hp hl rfl (hpu rfl) (by show Qv M 1 (wd sl)=true;rw [hcq];exact decide_eq_true e)
    have hcs:Qv M 1 (wd sl:Int)=true:=by rw [hcq];exact decide_eq_true e
    rw [t1,cell1 hm.1,if_pos hcs] at this
    have e2:Qp c ⟨sw,sl,sf,.push,why,er⟩ M=(⟨sw,sl,sf,.closed,why,er⟩,M.set 1 (wd (sl++[sw]):Int)):=by unfold Qp;simp only;rw [if_pos e]
    rw [e2];exact this
  · have hcs:Qv M 1 (wd sl:Int)=false:=by rw [hcq];exact decide_eq_false e
    have:=Q0O w p pm qm c _ M t h hM ht0 ht1 hp hl rfl (hpu rfl) hcs
    rw [t1] at this
    have e2:Qp c ⟨sw,sl,sf,.push,why,er⟩ M=(⟨sw,sl,sf,.come,why,er⟩,M):=by unfold Qp;simp only;rw [if_neg e]
    rw [e2];exact this
 |closed=>
  by_cases e:Q7 M 0=0
  · have:=Q8N w p pm qm c _ M t h hM ht0 ht1 hp rfl e
    rw [t0] at this
    have e2:Qp c ⟨sw,sl,sf,.closed,why,er⟩ M=(⟨sw,sl,sf,.done,why,0⟩,M):=by unfold Qp;simp only;rw [if_pos e]
    rw [e2];exact this
  · have:=Q4L w p pm qm c _ M t h hM ht0 ht1 hp rfl e
    rw [t0] at this
    have e2:Qp c ⟨sw,sl,sf,.closed,why,er⟩ M=(⟨sw,sl,sf,.look,5,er⟩,M):=by unfold Qp;simp only;rw [if_neg e]
    rw [e2];exact this
 |look=>
  have:=Q8O w p pm qm c _ M t (mQ M) h hM ht0 ht1 hp hm.2.1 hm.2.2 rfl
  rw [t1] at this;exact this
 |drop=>
  by_cases e:mQ M=sl
  · have hcs:Qv M 1 (wd sl:Int)=true:=by rw [hcq];exact decide_eq_true e
    have:=Q8Q w p pm qm c _ M t h hM ht0 ht1 hp hl rfl (hdr rfl) hcs
    rw [t1,cell1 hm.1,if_pos hcs] at this
    have e2:Qp c ⟨sw,sl,sf,.drop,why,er⟩ M=(⟨sw,sl,sf,.done,why,why⟩,M.set 1 (wd (rm sl sw):Int)):=by unfold Qp;simp only;rw [if_pos e]
    rw [e2];exact this
  · have hcs:Qv M 1 (wd sl:Int)=false:=by rw [hcq];exact decide_eq_false e
    have:=Q0P w p pm qm c _ M t h hM ht0 ht1 hp hl rfl (hdr rfl) hcs
    rw [t1] at this
    have e2:Qp c ⟨sw,sl,sf,.drop,why,er⟩ M=(⟨sw,sl,sf,.look,why,er⟩,M):=by unfold Qp;simp only;rw [if_neg e]
    rw [e2];exact this
 |head=>
  have:=Q8P w p pm qm c _ M t (mQ M) h hM ht0 ht1 hp hm.2.1 hm.2.2 rfl
  rw [t1] at this;exact this
 |pop=>
  by_cases e:mQ M=sl
  · have hcs:Qv M 1 (wd sl:Int)=true:=by rw [hcq];exact decide_eq_true e
    have:=qs_pop w p pm qm c _ M t h hM ht0 ht1 hp hl rfl hcs
    rw [t1,cell1 hm.1,if_pos hcs] at this
    have e2:Qp c ⟨sw,sl,sf,.pop,why,er⟩ M=(⟨sw,sl,sf,.tell,why,er⟩,M.set 1 (wd sl.tail:Int)):=by unfold Qp;simp only;rw [if_pos e]
    rw [e2];exact this
  · have hcs:Qv M 1 (wd sl:Int)=false:=by rw [hcq];exact decide_eq_false e
    have:=Q2w w p pm qm c _ M t h hM ht0 ht1 hp hl rfl hcs
    rw [t1] at this
    have e2:Qp c ⟨sw,sl,sf,.pop,why,er⟩ M=(⟨sw,sl,sf,.head,why,er⟩,M):=by unfold Qp;simp only;rw [if_neg e]
    rw [e2];exact this
 |tell=>
  obtain ⟨f0,f1⟩:=hte rfl
  have:=Q8L w p pm qm c _ M t h hM ht0 ht1 hp hc f0 f1 rfl
  have tt:tch M (3+c.wo+sf)=1:=by unfold tch;rw [if_pos (Jh (by have:=hc.1;omega) (by have:=hc.1;omega))]
  rw [show tch M (3+c.wo+(QuS.mk sw sl sf .tell why er).first)=1 from tt] at this
  exact this
 |done=>
  refine (Q2u w p pm c _ h rfl).mono fun en w' ⟨he,hw⟩=> ?_
  subst hw
  exact ⟨he,h,by show QD _ _ _ _ _ (t+0);rw [Int.add_zero];exact hM,Fr.refl _ _⟩
def FOk (a n:Nat):Prop:=1≤n∧a+n≤62
def fVal (a n:Nat):Value:=.agg #[.int .i64 a,.int .i64 n]
theorem Yo {n:Nat} (h:n≤62):2 ^ n≤4611686018427387904:=Nat.pow_le_pow_right (n:=2) (by omega) h
theorem KE {n:Nat} (h:n≤62):wrap64 ((2:Int) ^ n)=((2 ^ n:Nat):Int):=by
 have:=Yo h
 have e:(2:Int) ^ n=((2 ^ n:Nat):Int):=by push_cast;rfl
 rw [e]
 generalize 2 ^ n=P at*
 unfold wrap64
 omega
theorem Q97 {n:Nat} (h:n≤62):wrap64 (wrap64 ((2:Int) ^ n) - 1)=((2 ^ n - 1:Nat):Int):=by
 rw [KE h]
 have:=Yo h
 have:=Nat.two_pow_pos n
 generalize 2 ^ n=P at*
 unfold wrap64
 omega
theorem Yr (w:World) (a n:Nat) (h:FOk a n):Calls Tryz.prog 123 #[fVal a n] w fun e w'=>e=.returned (.bool true)∧Fr [] w w':=by
 obtain ⟨h1,h2⟩:=h
 unfold fVal
 have F1:=(Fr.refl [] w).alloc (.cells #[.int .i64 a,.int .i64 n] 142)
 have k1:(0:Int)≤(a:Int):=by omega
 have k2:(a:Int)≤62:=by omega
 have k3:(1:Int)≤(n:Int):=by omega
 have k4:(n:Int)≤62 - (a:Int):=by omega
 have FF:=Lib.hid F1
 clear F1
 go_in
 go_wp2
 go_ret
 exact ⟨rfl,FF.out⟩
theorem Ht (w:World) (a n:Nat) (h:FOk a n):Calls Tryz.prog 144 #[fVal a n] w fun e w'=>e=.returned (.int .i64 ((2 ^ n - 1:Nat):Int))∧Fr [] w w':=by
 have HR:=Lib.hid (Yr (w.alloc (.cells #[.int .i64 a,.int .i64 n] 142)) a n h)
 obtain ⟨h1,h2⟩:=h
 unfold fVal at HR ⊢
 have F1:=(Fr.refl [] w).alloc (.cells #[.int .i64 a,.int .i64 n] 142)
 have hc:=heap_alloc_new w (.cells #[.int .i64 a,.int .i64 n] 142)
 have FF:=Lib.hid F1
 have hn0:(0:Int)≤(n:Int):=by omega
 clear F1
 go_in
 go_wp2_with fail
 refine HR.out.mono ?_
 rintro e w1 ⟨rfl,f1⟩
 have q0:=cell_of (i:=0) (f1.at hc (by simp)) rfl
 have q1:=cell_of (i:=1) (f1.at hc (by simp)) rfl
 have F2:=Lib.hid (FF.out.trans f1)
 go_wp2_with fail
 go_ret
 exact ⟨by rw [←Q97 (n:=n) (by omega)];rfl,F2.out⟩
def DI (w a n:Nat):Nat:=w / 2 ^ a % 2 ^ n
theorem Q6W {w a n:Nat} (hw:w<9223372036854775808) (hn:n≤62):bits .and .i64 ((w:Int) / (2:Int) ^ a) ((2 ^ n - 1:Nat):Int)=((DI w a n:Nat):Int):=by
 have e:(w:Int) / (2:Int) ^ a=((w / 2 ^ a:Nat):Int):=by push_cast;rfl
 have h1:w / 2 ^ a<9223372036854775808:=Nat.lt_of_le_of_lt (Nat.div_le_self _ _) hw
 have h2:2 ^ n - 1<9223372036854775808:=by have:=Yo hn;omega
 rw [e,YE _ _ h1 h2]
 unfold DI
 rw [Nat.and_two_pow_sub_one_eq_mod]
theorem Q7D (w:World) (x a n:Nat) (hx:x<9223372036854775808) (h:FOk a n):Calls Tryz.prog 124 #[.int .i64 x,fVal a n] w fun e w'=>e=.returned (.int .i64 (DI x a n))∧Fr [] w w':=by
 have HR:=Lib.hid (Yr (w.alloc (.cells #[.int .i64 a,.int .i64 n] 142)) a n h)
 have HM:=Lib.hid fun (w':World)=>Ht w' a n h
 have HP:=Lib.hid (Q6W (a:=a) hx (by have:=h.2;omega:n≤62))
 obtain ⟨h1,h2⟩:=h
 unfold fVal at HR HM ⊢
 have F1:=(Fr.refl [] w).alloc (.cells #[.int .i64 a,.int .i64 n] 142)
 have hc:=heap_alloc_new w (.cells #[.int .i64 a,.int .i64 n] 142)
 have FF:=Lib.hid F1
 have ha0:(0:Int)≤(a:Int):=by omega
 clear F1
 go_in
 go_wp2_with fail
 refine HR.out.mono ?_
 rintro e w1 ⟨rfl,f1⟩
 have hc1:=f1.at hc (by simp)
 have q0:=cell_of (i:=0) hc1 rfl
 have q1:=cell_of (i:=1) hc1 rfl
 have F2:=Lib.hid (FF.out.trans f1)
 generalize 2 ^ n - 1=M at HM HP
 go_wp2_with fail
 go_region_held3 (fun w'=>w'.cell? ⟨w.heap.size,0,none⟩=some (.int .i64 a)∧w'.cell? ⟨w.heap.size,1,none⟩=some (.int .i64 n)) (first|go_keep|exact ⟨f3.cell q0 (by simp),f3.cell q1 (by simp)⟩)
  (first|(go_at_call 144;refine (HM.out _).mono ?_;rintro en w3 ⟨rfl,f3⟩))
 have F3:=Lib.hid (F2.out.drew.trans f3)
 go_wp2
 go_ret
 exact ⟨by rw [HP.out];rfl,F3.out⟩
theorem Q7a {a n:Nat} (h:FOk a n):IntKind.i64.wrap (((2 ^ n - 1:Nat):Int)*(2:Int) ^ a)=(((2 ^ n - 1)*2 ^ a:Nat):Int):=by
 obtain ⟨h1,h2⟩:=h
 have e:(2:Int) ^ a=((2 ^ a:Nat):Int):=by push_cast;rfl
 have hp:=Yo h2
 rw [Nat.add_comm,Nat.pow_add] at hp
 have hm:(2 ^ n - 1)*2 ^ a≤2 ^ n*2 ^ a:=Nat.mul_le_mul_right _ (Nat.sub_le _ _)
 rw [e,←Int.natCast_mul]
 generalize (2 ^ n - 1)*2 ^ a=P at*
 rw [IntKind.wrap_i64]
 omega
theorem K3 (w:World) (a n:Nat) (h:FOk a n):Calls Tryz.prog 206 #[fVal a n] w fun e w'=>e=.returned (.int .i64 (((2 ^ n - 1)*2 ^ a:Nat):Int))∧Fr [] w w':=by
 have HM:=Lib.hid fun (w':World)=>Ht w' a n h
 have HP:=Lib.hid (Q7a h)
 obtain ⟨h1,h2⟩:=h
 unfold fVal at HM ⊢
 have F1:=(Fr.refl [] w).alloc (.cells #[.int .i64 a,.int .i64 n] 142)
 have hc:=heap_alloc_new w (.cells #[.int .i64 a,.int .i64 n] 142)
 have FF:=Lib.hid F1
 have q0:=cell_of (i:=0) hc rfl
 have q1:=cell_of (i:=1) hc rfl
 have ha0:(0:Int)≤(a:Int):=by omega
 clear F1 hc
 generalize (2 ^ n - 1)*2 ^ a=K at HP ⊢
 generalize 2 ^ n - 1=M at HM HP
 go_in
 go_wp2_with fail
 generalize w.alloc (.cells #[.int .i64 a,.int .i64 n] 142)=w1 at FF q0 q1 ⊢
 go_region_held3 (fun w'=>w'.cell? ⟨w.heap.size,0,none⟩=some (.int .i64 a)∧w'.cell? ⟨w.heap.size,1,none⟩=some (.int .i64 n)) (first|go_keep|exact ⟨f3.cell q0 (by simp),f3.cell q1 (by simp)⟩)
  (first|(go_at_call 144;refine (HM.out _).mono ?_;rintro en w3 ⟨rfl,f3⟩))
 have F3:=Lib.hid (FF.out.drew.trans f3)
 go_wp2
 go_ret
 exact ⟨by rw [HP.out];rfl,F3.out⟩
theorem UL (a b:Nat) (ha:a<9223372036854775808) (h:a&&& b=0):bits .andNot .i64 (a:Int) (b:Int)=(a:Int):=by
 have h1:(BitVec.ofInt 64 (a:Int)).toNat=a:=by
  rw [BitVec.ofInt_natCast,BitVec.toNat_ofNat];exact Nat.mod_eq_of_lt (by omega)
 show IntKind.i64.wrap ((BitVec.ofInt 64 (a:Int)&&& ~~~ BitVec.ofInt 64 (b:Int)).toNat:Int)=_
 have h2:BitVec.ofInt 64 (a:Int)&&& ~~~ BitVec.ofInt 64 (b:Int)=BitVec.ofInt 64 (a:Int):=by
  apply BitVec.eq_of_getLsbD_eq
  intro i hi
  have hb:(a&&& b).testBit i=false:=by rw [h];simp
  rw [Nat.testBit_and] at hb
  simp only [BitVec.getLsbD_and,BitVec.getLsbD_not,BitVec.ofInt_natCast,BitVec.getLsbD_ofNat,hi,decide_true,Bool.true_and]
  cases h3:a.testBit i with
  |false=>rfl
  |true=>rw [h3] at hb;simp only [Bool.true_and] at hb;rw [hb];rfl
 rw [h2,h1,IntKind.wrap_i64]
 omega
theorem Q8S {w v a n:Nat} (h:FOk a n) (hw:w<2 ^ a) (hv:v<2 ^ n):
 bits .or .i64 (bits .andNot .i64 (w:Int) (((2 ^ n - 1)*2 ^ a:Nat):Int)) (IntKind.i64.wrap (bits .and .i64 (v:Int) ((2 ^ n - 1:Nat):Int)*(2:Int) ^ a))=((w+v*2 ^ a:Nat):Int):=by
 obtain ⟨h1,h2⟩:=h
 have hpa:=Yo (n:=a) (by omega)
 have hpn:=Yo (n:=n) (by omega)
 have hp:=Yo h2
 rw [Nat.add_comm,Nat.pow_add] at hp
 have e1:v&&& (2 ^ n - 1)=v:=by rw [Nat.and_two_pow_sub_one_eq_mod];exact Nat.mod_eq_of_lt hv
 have e2:w&&& ((2 ^ n - 1)*2 ^ a)=0:=by
  apply Nat.eq_of_testBit_eq
  intro i
  rw [Nat.testBit_and,Nat.zero_testBit]
  rcases Nat.lt_or_ge i a with hi|hi
  · rw [Nat.mul_comm,Nat.testBit_two_pow_mul]
    simp [show ¬a≤i by omega]
  · rw [Nat.testBit_lt_two_pow (Nat.lt_of_lt_of_le hw (Nat.pow_le_pow_right (by omega) hi))];rfl
 have hvp:v*2 ^ a<2 ^ n*2 ^ a:=Nat.mul_lt_mul_of_pos_right hv (Nat.two_pow_pos a)
 have e3:(2:Int) ^ a=((2 ^ a:Nat):Int):=by push_cast;rfl
 rw [UL _ _ (by omega) e2,YE _ _ (by omega) (by omega),e1,e3,←Int.natCast_mul,IntKind.wrap_i64]
 have e4:(((v*2 ^ a:Nat):Int)+9223372036854775808) % 18446744073709551616 - 9223372036854775808=((v*2 ^ a:Nat):Int):=by
  generalize v*2 ^ a=P at*
  omega
 rw [e4,UK _ _ (by omega) (by omega)]
 have e5:w|||v*2 ^ a=w+v*2 ^ a:=by rw [Nat.or_comm,Nat.mul_comm v,←Nat.two_pow_add_eq_or_of_lt hw,Nat.add_comm]
 rw [e5]
theorem Q7y (w:World) (x v a n:Nat) (h:FOk a n) (hx:x<2 ^ a) (hv:v<2 ^ n):Calls Tryz.prog 145 #[.int .i64 x,fVal a n,.int .i64 v] w fun e w'=>e=.returned (.int .i64 ((x+v*2 ^ a:Nat):Int))∧Fr [] w w':=by
 have HR:=Lib.hid (Yr (w.alloc (.cells #[.int .i64 a,.int .i64 n] 142)) a n h)
 have HM:=Lib.hid fun (w':World)=>Ht w' a n h
 have HK:=Lib.hid fun (w':World)=>K3 w' a n h
 have HP:=Lib.hid (Q8S h hx hv)
 obtain ⟨h1,h2⟩:=h
 unfold fVal at HR HM HK ⊢
 have F1:=(Fr.refl [] w).alloc (.cells #[.int .i64 a,.int .i64 n] 142)
 have hc:=heap_alloc_new w (.cells #[.int .i64 a,.int .i64 n] 142)
 have FF:=Lib.hid F1
 have ha0:(0:Int)≤(a:Int):=by omega
 clear F1
 generalize x+v*2 ^ a=R at HP ⊢
 generalize (2 ^ n - 1)*2 ^ a=K at HP HK
 generalize 2 ^ n - 1=M at HM HP
 clear hx hv
 go_in
 go_wp2_with fail
 refine HR.out.mono ?_
 rintro e w1 ⟨rfl,f1⟩
 have hc1:=f1.at hc (by simp)
 have q0:=cell_of (i:=0) hc1 rfl
 have q1:=cell_of (i:=1) hc1 rfl
 have F2:=Lib.hid (FF.out.trans f1)
 go_wp2_with fail
 go_region_held3 (fun w'=>w'.cell? ⟨w.heap.size,0,none⟩=some (.int .i64 a)∧w'.cell? ⟨w.heap.size,1,none⟩=some (.int .i64 n)) (first|go_keep|exact ⟨f3.cell q0 (by simp),f3.cell q1 (by simp)⟩|exact ⟨f4.cell (f3.cell q0 (by simp)) (by simp),f4.cell (f3.cell q1 (by simp)) (by simp)⟩)
  (first|(go_at_call 206;refine (HK.out _).mono ?_;rintro en w3 ⟨rfl,f3⟩)|(go_at_call 144;refine (HM.out _).mono ?_;rintro en w4 ⟨rfl,f4⟩))
 have F4:=Lib.hid ((F2.out.drew.trans f3).trans f4)
 go_wp2
 go_ret
 exact ⟨by rw [HP.out];rfl,F4.out⟩
end
section
open Go.RowKit Go.Shelf
attribute [local go_sem] Oper.semAt_some
theorem Q4E {n:Nat} {P:Program} {row:String} {args:Array Value} {w:World} {R:Value→World→Prop} (h:Rows P row args w R):RowsIn Fence.wide n P row args w R:=
 fun c cs _=>let ⟨v,w',r,s⟩:=h c cs;⟨v,w',r,stepsIn_wide.2 s⟩
theorem Q90 {n:Nat} {P:Program} {o:Oper} {a:Act} {w:World} {K:Act→World→Prop} {Q:Exit→Act→World→Prop} (h:o.wp P a w K Q):o.wpIn Fence.wide n P a w K Q:=by
 unfold Oper.wp at h
 unfold Oper.wpIn
 refine ⟨fun _ _=>trivial, ?_⟩
 rw [show Fence.wide.round=none from rfl,Oper.semAt_none]
 generalize (execOp a.eval o).run P w=r at*
 cases r with
 |ok x w'=>
  cases x<;>simp only [Oper.upon,Oper.uponIn] at h ⊢ <;>
   first
    |exact h
    |exact ⟨fun hf=>by simp [Fence.wide] at hf,callsIn_wide.2 h⟩
    |exact ⟨fun hf=>by simp [Fence.wide] at hf,Q4E h⟩
 |halt x w'=>cases x<;>simp only [Oper.upon,Oper.uponIn] at h ⊢ <;>exact h
theorem Q1N {n:Nat} {P:Program} {md:Region.Mode} {ops:Array Oper} {Q:Exit→Act→World→Prop} (hno:¬LetsOut Q):
 ∀(fuel:Nat) (listed:Array Bool) (a:Act) (w:World),wpAny P md ops Q fuel listed a w→wpAnyIn Fence.wide n P md ops Q fuel listed a w
 |0,_,_,_,h=>h
 |fuel+1,_,_,_,h=>⟨h.1,fun i hi=>by
  have h2:=wpOp_mono (fun a' w' h'=>Q1N (n:=n) hno fuel _ a' w' h') (h.2 i hi)
  unfold wpOp at h2
  unfold wpOpIn
  cases ho:ops[i]? with
  |none=>simpa only [ho] using h2
  |some o=>
   simp only [ho] at h2 ⊢
   split
   · rename_i hw
     rw [if_pos hw] at h2
     exact Q90 (h2.resolve_right (fun h=>hno h.2))
   · rename_i hw
     rw [if_neg hw] at h2
     exact ⟨fun _ _=>trivial,h2⟩⟩
def Q71 (Q:Exit→Act→World→Prop):Exit→Act→World→Prop
 |.normal,a,w=>Q .normal a w
 |_,_,_=>False
theorem KT {P:Program} {n r id:Nat} {ops:Array Oper} {Q:Exit→Act→World→Prop} {S:World→Prop} {a:Act} {w:World} (hm:P.follows .mixedOrders=true) (hd:∀o∈ops.toList,∀c,o.op≠.defer c)
 (h:wpAnyH P .any ops (Q71 Q) S ops.size (Array.replicate ops.size false) a w.drew):(Code.region id ops true).wpIn (Fence.wide.inRound r) n P Q a w:=
 wpIn_mono (KU (Q:=Q71 Q) hm hd (Q1N (fun ⟨_,_,h⟩=>h) _ _ _ _ (wpAny_of_held _ _ _ _ h))) fun e a w h=>by
  cases e<;>first|exact h|exact (h:False).elim
end
end Go.Proofs.YtgjklfmnmljilaaGreatDoor
