/- A part of the proof. -/
import Derived.Test.YtgjklfmnmljilaaGreatDoorZR05
namespace Go.Proofs.YtgjklfmnmljilaaGreatDoor
set_option linter.unusedVariables false
set_option linter.unusedSimpArgs false
set_option linter.unusedSectionVars false
set_option linter.unnecessarySimpa false
set_option maxRecDepth 100000
set_option maxHeartbeats 8000000
section
open Go.RowKit
def Q0.fits (c:Q0):Prop:=(1≤c.wo∧c.wo≤8)∧(1≤c.sl∧c.sl≤16)∧(0≤c.st∧c.st≤8)∧(0≤c.wa∧c.wa≤8)∧(1≤c.us∧c.us≤60)
theorem Q0.small.fits {c:Q0} (h:c.small):c.fits:=by
 obtain ⟨h1,h2,h3,h4,h5⟩:=h
 exact ⟨Lb,Lb,Lb,Lb,Lb⟩
theorem GX (w:World) (c:Q0) (hc:c.fits):Calls Tryz.prog 31 #[c.val] w fun e w'=>e=.returned (.bool true)∧Fr [] w w':=by
 obtain ⟨wo,sl,st,wa,us⟩:=c
 obtain ⟨⟨a0,a1⟩,⟨b0,b1⟩,⟨c0,c1⟩,⟨d0,d1⟩,⟨e0,e1⟩⟩:=hc
 unfold Q0.val
 simp only at a0 a1 b0 b1 c0 c1 d0 d1 e0 e1
 have hfr:=(Fr.refl [] w).alloc (.cells #[.int .i64 wo,.int .i64 sl,.int .i64 st,.int .i64 wa,.int .i64 us] 30)
 have HF:=Lib.hid hfr;clear hfr
 go_in
 go_wp2_with fail
 refine (ZT _ 1 wo 8 Lb Lb).mono ?_
 rintro e w1 ⟨rfl,rfl⟩
 go_wp2_with fail
 refine (ZT _ 1 sl 16 Lb Lb).mono ?_
 rintro e w1 ⟨rfl,rfl⟩
 go_wp2_with fail
 refine (ZT _ 0 st 8 Lb Lb).mono ?_
 rintro e w1 ⟨rfl,rfl⟩
 go_wp2_with fail
 refine (ZT _ 0 wa 8 Lb Lb).mono ?_
 rintro e w1 ⟨rfl,rfl⟩
 go_wp2_with fail
 refine (ZT _ 1 us 60 Lb Lb).mono ?_
 rintro e w1 ⟨rfl,rfl⟩
 go_wp2
 go_ret
 exact ⟨rfl,HF.out⟩
theorem Z0O {P:Prop} (h:P:=by
 have hfr:=(Fr.refl [] w).alloc (.cells #[.int .i64 wo,.int .i64 sl,.int .i64 st,.int .i64 wa,.int .i64 us] 30)
 have HF:=Lib.hid hfr;clear hfr
 go_in
 go_wp2
 go_ret
 exact ⟨rfl,HF.out⟩):P:=h
theorem Q1v (w:World) (c:Q0) (hc:c.fits):Calls Tryz.prog 49 #[c.val] w fun e w'=>e=.returned (.int .i64 c.cells)∧Fr [] w w':=by
 obtain ⟨wo,sl,st,wa,us⟩:=c
 obtain ⟨⟨a0,a1⟩,⟨b0,b1⟩, -⟩:=hc
 unfold Q0.val Q0.cells
 simp only at a0 a1 b0 b1
 exact Z0O
theorem Q5v (w:World) (c:Q0) (hc:c.fits):
 Calls Tryz.prog 32 #[c.val] w fun e w'=>∃p q,e=.returned (.tuple #[.pointer (some ⟨p,0,none⟩),.int .i64 0])∧w.heap.size≤p∧w.heap.size≤q∧QJ 112 w' p q (List.replicate c.cells.toNat 0) 0∧Fr [] w w':=by
 have hn1:1≤c.cells:=by have:=hc.1;have:=hc.2.1;unfold Q0.cells;omega
 have hn2:c.cells≤4096:=by have:=hc.1;have:=hc.2.1;unfold Q0.cells;omega
 have HS:=Lib.hid hc
 have HN:=Lib.hid (fun W:World=>Q8K c.cells W hn1 hn2)
 have h1:=Lib.hid (fun W:World=>GX W c hc)
 have h2:=Lib.hid (fun W:World=>Q1v W c hc)
 clear hc
 obtain ⟨wo,sl,st,wa,us⟩:=c
 have hfr:=(Fr.refl [] w).alloc (.cells #[.int .i64 wo,.int .i64 sl,.int .i64 st,.int .i64 wa,.int .i64 us] 30)
 have hbk:=heap_alloc_new w (.cells #[.int .i64 wo,.int .i64 sl,.int .i64 st,.int .i64 wa,.int .i64 us] 30)
 have HF:=Lib.hid hfr;have HB:=Lib.hid hbk;clear hfr hbk
 unfold Q0.val at h1 h2 ⊢
 simp only at h1 h2
 generalize Q0.cells ⟨wo,sl,st,wa,us⟩=nn at*
 go_in
 go_wp2_with fail
 refine (h1.out _).mono ?_
 rintro e w1 ⟨rfl,f1⟩
 have hb1:=f1.at HB.out Lc
 have x0:w1.cell? ⟨w.heap.size,0,none⟩=some (.int .i64 wo):=cell_of hb1 rfl
 have x1:w1.cell? ⟨w.heap.size,1,none⟩=some (.int .i64 sl):=cell_of hb1 rfl
 have x2:w1.cell? ⟨w.heap.size,2,none⟩=some (.int .i64 st):=cell_of hb1 rfl
 have x3:w1.cell? ⟨w.heap.size,3,none⟩=some (.int .i64 wa):=cell_of hb1 rfl
 have x4:w1.cell? ⟨w.heap.size,4,none⟩=some (.int .i64 us):=cell_of hb1 rfl
 have F1:=HF.out.trans f1
 clear hb1 f1
 go_wp2_with fail
 refine (h2.out _).mono ?_
 rintro e w2 ⟨rfl,f2⟩
 have F2:=F1.trans f2
 clear F1 f2 x0 x1 x2 x3 x4
 go_wp2_with fail
 refine (HN.out _).mono ?_
 rintro e w3 ⟨p,q,rfl,hp,hq,hm,f3⟩
 have F3:=F2.trans f3
 have hs:=F2.size
 clear f3 F2
 have HM:=Lib.hid hm;clear hm
 go_wp2
 go_ret2
 exact ⟨p,q,rfl,Lb,Lb,HM.out,F3⟩
theorem info_parts {P:Program} {t:TypeId} {z:Option Value} {s b:Nat} (h:(P.info? t).map (fun i=>(i.zero,i.size,i.bytes))=some (z,s,b)):∃i,P.info? t=some i∧i.zero=z∧i.size=s∧i.bytes=b:=by
 cases hi:P.info? t with
 |none=>rw [hi] at h;cases h
 |some i=>
  rw [hi] at h
  simp only [Option.map_some,Option.some.injEq,Prod.mk.injEq] at h
  exact ⟨i,rfl,h.1,h.2.1,h.2.2⟩
def YL (w:World) (g:Option Addr) (L:List Int):Prop:=
 L.length≤9223372036854775807∧(∀n∈L,0≤n∧n≤255)∧∀(j:Nat) (y:Int),L[j]?=some y→∃b o,g=some ⟨b,o,none⟩∧w.cell? ⟨b,o+j,none⟩=some (.int .u8 y)
theorem YL.fr {w w':World} {g:Option Addr} {L:List Int} (h:YL w g L) (f:Fr [] w w'):YL w' g L:=
 ⟨h.1,h.2.1,fun j y hy=>let ⟨b,o,hg,hc⟩:=h.2.2 j y hy;⟨b,o,hg,f.cell hc Lc⟩⟩
theorem Q8x (w:World) (p pm qm:Nat) (c:Q0) (s:QuS) (M:List Int) (t:Int) (Q:List Int) (h:Jd w p c s) (hM:QJ 112 w pm qm M t) (ht0:0≤t) (ht1:t≤1000000000) (hp:p≠pm∧p≠qm) (hQ:Ln Q) (hl:Q6 M 1=(wd Q:Int)) (hn:s.nx=.come):
 Calls Tryz.prog 82 #[.pointer (some ⟨p,0,none⟩),.pointer (some ⟨pm,0,none⟩)] w
  (Jv w p pm qm c (if c.wa≤(Q.length:Int)∨s.w∈Q then {s with line:=Q,e:=7,nx:=.done} else {s with line:=Q,nx:=.push}) M (t+tch M 1)):=by
 have hC:=Q4u w p pm qm c s M t Q h hM ht0 ht1 hp hQ hl
 have:=X6 w p pm qm c s _ _ M _ _ h hp (by rw [hn];rfl) hC
 by_cases hf:c.wa≤(Q.length:Int)∨s.w∈Q
 · rw [if_pos hf] at this ⊢;rw [if_pos hf] at this;exact this
 · rw [if_neg hf] at this ⊢;rw [if_neg hf] at this;exact this
theorem Q8s (w:World) (p pm qm:Nat) (c:Q0) (s:QuS) (M:List Int) (t:Int) (h:Jd w p c s) (hM:QJ 112 w pm qm M t) (ht0:0≤t) (ht1:t≤1000000000) (hp:p≠pm∧p≠qm) (hL:Ln s.line) (hn:s.nx=.push) (hok:Ln (s.line++[s.w])) (hcs:Qx M 1 (wd s.line)=true):
 Calls Tryz.prog 82 #[.pointer (some ⟨p,0,none⟩),.pointer (some ⟨pm,0,none⟩)] w
  (Jv w p pm qm c {s with nx:=.closed} (QI M 1 (wd s.line) (wd (s.line++[s.w]):Int)) (t+tch M 1)):=by
 have hC:=Dm w p pm qm c s M t h hM ht0 ht1 hp hL
 rw [if_pos ⟨hok,hcs⟩,if_pos ⟨hok,hcs⟩,if_pos hok,if_pos hok,show VD s.line s.w=s.line++[s.w] by unfold VD;rw [if_pos hok]] at hC
 exact X6 w p pm qm c s _ _ _ _ _ h hp (by rw [hn];rfl) hC
theorem Q8t (w:World) (p pm qm:Nat) (c:Q0) (s:QuS) (M:List Int) (t:Int) (h:Jd w p c s) (hM:QJ 112 w pm qm M t) (ht0:0≤t) (ht1:t≤1000000000) (hp:p≠pm∧p≠qm) (hn:s.nx=.closed) (h0:Q6 M 0=0):
 Calls Tryz.prog 82 #[.pointer (some ⟨p,0,none⟩),.pointer (some ⟨pm,0,none⟩)] w
  (Jv w p pm qm c {s with e:=0,nx:=.done} M (t+tch M 0)):=by
 have hC:=Gy w p pm qm c s M t h hM ht0 ht1 hp
 rw [if_pos h0,if_pos h0] at hC
 exact X6 w p pm qm c s _ _ _ _ _ h hp (by rw [hn];rfl) hC
theorem Q8u (w:World) (p pm qm:Nat) (c:Q0) (s:QuS) (M:List Int) (t:Int) (Q:List Int) (h:Jd w p c s) (hM:QJ 112 w pm qm M t) (ht0:0≤t) (ht1:t≤1000000000) (hp:p≠pm∧p≠qm) (hQ:Ln Q) (hl:Q6 M 1=(wd Q:Int)) (hn:s.nx=.look):
 Calls Tryz.prog 82 #[.pointer (some ⟨p,0,none⟩),.pointer (some ⟨pm,0,none⟩)] w
  (Jv w p pm qm c (if s.w∈Q then {s with line:=Q,nx:=.drop} else {s with line:=Q,e:=8,nx:=.done}) M (t+tch M 1)):=by
 have hC:=Q6Q w p pm qm c s M t Q h hM ht0 ht1 hp hQ hl
 have:=X6 w p pm qm c s _ _ M _ _ h hp (by rw [hn];rfl) hC
 by_cases hf:s.w∈Q
 · rw [if_pos hf] at this ⊢;rw [if_pos hf] at this;exact this
 · rw [if_neg hf] at this ⊢;rw [if_neg hf] at this;exact this
theorem Q8w (w:World) (p pm qm:Nat) (c:Q0) (s:QuS) (M:List Int) (t:Int) (h:Jd w p c s) (hM:QJ 112 w pm qm M t) (ht0:0≤t) (ht1:t≤1000000000) (hp:p≠pm∧p≠qm) (hL:Ln s.line) (hn:s.nx=.drop) (hok:s.w∈s.line) (hcs:Qx M 1 (wd s.line)=true):
 Calls Tryz.prog 82 #[.pointer (some ⟨p,0,none⟩),.pointer (some ⟨pm,0,none⟩)] w
  (Jv w p pm qm c {s with e:=s.why,nx:=.done} (QI M 1 (wd s.line) (wd (rm s.line s.w):Int)) (t+tch M 1)):=by
 have hC:=Dn w p pm qm c s M t h hM ht0 ht1 hp hL
 rw [if_pos ⟨hok,hcs⟩,if_pos ⟨hok,hcs⟩,if_pos hok,if_pos hok] at hC
 exact X6 w p pm qm c s _ _ _ _ _ h hp (by rw [hn];rfl) hC
theorem Q0E (w:World) (p pm qm:Nat) (c:Q0) (s:QuS) (M:List Int) (t:Int) (h:Jd w p c s) (hM:QJ 112 w pm qm M t) (ht0:0≤t) (ht1:t≤1000000000) (hp:p≠pm∧p≠qm) (hL:Ln s.line) (hn:s.nx=.drop) (hok:s.w∈s.line) (hcs:Qx M 1 (wd s.line)=false):
 Calls Tryz.prog 82 #[.pointer (some ⟨p,0,none⟩),.pointer (some ⟨pm,0,none⟩)] w
  (Jv w p pm qm c {s with nx:=.look} M (t+tch M 1)):=by
 have hC:=Dn w p pm qm c s M t h hM ht0 ht1 hp hL
 have hne:¬(s.w∈s.line∧Qx M 1 (wd s.line)=true):=fun e=>by rw [hcs] at e;cases e.2
 rw [if_neg hne,if_neg hne,if_pos hok,if_pos hok,show QI M 1 (wd s.line) (wd (rm s.line s.w):Int)=M by unfold QI;rw [if_neg (by rw [hcs];simp)]] at hC
 exact X6 w p pm qm c s _ _ _ _ _ h hp (by rw [hn];rfl) hC
theorem Q4s (w:World) (p pm qm:Nat) (c:Q0) (s:QuS) (M:List Int) (t:Int) (h:Jd w p c s) (hM:QJ 112 w pm qm M t) (ht0:0≤t) (ht1:t≤1000000000) (hp:p≠pm∧p≠qm) (hn:s.nx=.closed) (h0:Q6 M 0≠0):
 Calls Tryz.prog 82 #[.pointer (some ⟨p,0,none⟩),.pointer (some ⟨pm,0,none⟩)] w
  (Jv w p pm qm c {s with why:=5,nx:=.look} M (t+tch M 0)):=by
 have hC:=Gy w p pm qm c s M t h hM ht0 ht1 hp
 rw [if_neg h0,if_neg h0] at hC
 exact X6 w p pm qm c s _ _ _ _ _ h hp (by rw [hn];rfl) hC
theorem Q8v (w:World) (p pm qm:Nat) (c:Q0) (s:QuS) (M:List Int) (t:Int) (Q:List Int) (h:Jd w p c s) (hM:QJ 112 w pm qm M t) (ht0:0≤t) (ht1:t≤1000000000) (hp:p≠pm∧p≠qm) (hQ:Ln Q) (hl:Q6 M 1=(wd Q:Int)) (hn:s.nx=.head):
 Calls Tryz.prog 82 #[.pointer (some ⟨p,0,none⟩),.pointer (some ⟨pm,0,none⟩)] w
  (Jv w p pm qm c (if Q=[] then {s with line:=Q,e:=0,nx:=.done} else {s with line:=Q,first:=Zc Q,nx:=.pop}) M (t+tch M 1)):=by
 have hC:=Q4t w p pm qm c s M t Q h hM ht0 ht1 hp hQ hl
 have:=X6 w p pm qm c s _ _ M _ _ h hp (by rw [hn];rfl) hC
 by_cases hf:Q=[]
 · rw [if_pos hf] at this ⊢;rw [if_pos hf] at this;exact this
 · rw [if_neg hf] at this ⊢;rw [if_neg hf] at this;exact this
theorem qs_pop (w:World) (p pm qm:Nat) (c:Q0) (s:QuS) (M:List Int) (t:Int) (h:Jd w p c s) (hM:QJ 112 w pm qm M t) (ht0:0≤t) (ht1:t≤1000000000) (hp:p≠pm∧p≠qm) (hL:Ln s.line) (hn:s.nx=.pop) (hcs:Qx M 1 (wd s.line)=true):
 Calls Tryz.prog 82 #[.pointer (some ⟨p,0,none⟩),.pointer (some ⟨pm,0,none⟩)] w
  (Jv w p pm qm c {s with nx:=.tell} (QI M 1 (wd s.line) (wd s.line.tail:Int)) (t+tch M 1)):=by
 have hC:=Q0F w p pm qm c s M t h hM ht0 ht1 hp hL
 rw [if_pos hcs] at hC
 exact X6 w p pm qm c s _ _ _ _ _ h hp (by rw [hn];rfl) hC
theorem ZG (w:World) (c:Q0) (i:Int) (hc:c.fits) (h0:0≤i) (h1:i<c.wo):Calls Tryz.prog 71 #[c.val,.int .i64 i] w fun e w'=>e=.returned (.int .i64 (3+c.wo+i))∧Fr [] w w':=by
 obtain ⟨wo,sl,st,wa,us⟩:=c
 obtain ⟨⟨a0,a1⟩,⟨b0,b1⟩, -⟩:=hc
 unfold Q0.val
 simp only at a0 a1 b0 b1 h1
 exact Z0O
theorem Q4q (w:World) (p pm qm:Nat) (c:Q0) (s:QuS) (M:List Int) (t:Int) (h:Jd w p c s) (hM:QJ 112 w pm qm M t) (ht0:0≤t) (ht1:t≤1000000000) (hp:p≠pm∧p≠qm) (hc:c.fits) (hf0:0≤s.first) (hf1:s.first<c.wo):
 Calls Tryz.prog 267 #[.pointer (some ⟨p,0,none⟩),.pointer (some ⟨pm,0,none⟩)] w
  (JH w p pm qm c s .head (Qp M (3+c.wo+s.first) (-1)) (t+tch M (3+c.wo+s.first))):=by
 have q0:=cell_of (i:=0) h rfl
 have q1:=cell_of (i:=1) h rfl
 have q2:=cell_of (i:=2) h rfl
 have q3:=cell_of (i:=3) h rfl
 have q4:=cell_of (i:=4) h rfl
 have q7:=cell_of (i:=7) h rfl
 have hg:=fun W:World=>ZG W c s.first hc hf0 hf1
 unfold Q0.val at hg
 have HG:=Lib.hid hg
 have H:=Lib.hid h;have HP:=Lib.hid hp;have HM:=Lib.hid hM
 clear h hM hp hg hc
 go_in
 go_wp2_with fail
 refine wp_region_held_drew (S:=fun w'=>w'.cell? ⟨p,0,none⟩=some (.int .i64 c.wo)∧w'.cell? ⟨p,1,none⟩=some (.int .i64 c.sl)∧w'.cell? ⟨p,2,none⟩=some (.int .i64 c.st)∧w'.cell? ⟨p,3,none⟩=some (.int .i64 c.wa)∧w'.cell? ⟨p,4,none⟩=some (.int .i64 c.us)∧w'.cell? ⟨p,7,none⟩=some (.int .i64 s.first)) (by kernel_rfl) ⟨q0,q1,q2,q3,q4,q7⟩ (fun hHeld=> ?_)
 refine tk 0 ?_
 refine tk 1 ?_
 refine tk 2 ?_
 refine tk 3 ?_
 refine tk 4 ?_
 refine tk 5 ?_
 refine tk 6 ?_
 refine tk 7 ?_
 refine tk 8 ?_
 refine tc 9 (fun K hK=> ?_)
 go_simp
 refine (HG.out w.drew).mono ?_
 rintro en w3 ⟨rfl,f3⟩
 have F3:=(Fr.refl [] w).drew.trans f3
 have HST:=Lib.hid (Dj w3 pm qm M t (3+c.wo+s.first) (-1) (HM.out.fr F3 Lc Lc) ht0 Lb)
 go_wp2_with fail
 refine hK.out _ _ ⟨F3.cell q0 Lc,F3.cell q1 Lc,F3.cell q2 Lc,F3.cell q3 Lc,F3.cell q4 Lc,F3.cell q7 Lc⟩ (fun hHeld=> ?_)
 clear hK K
 try go_frame
 refine tc 10 (fun K hK=> ?_)
 go_simp
 refine (HST.out).mono ?_
 rintro en w4 ⟨rfl,hm4,f4⟩
 go_wp2_with fail
 refine hK.out _ _ ⟨f4.cell (F3.cell q0 Lc) (by simp;exact HP.out),f4.cell (F3.cell q1 Lc) (by simp;exact HP.out),f4.cell (F3.cell q2 Lc) (by simp;exact HP.out),f4.cell (F3.cell q3 Lc) (by simp;exact HP.out),f4.cell (F3.cell q4 Lc) (by simp;exact HP.out),f4.cell (F3.cell q7 Lc) (by simp;exact HP.out)⟩ (fun hHeld=> ?_)
 clear hK K
 try go_frame
 refine wpAnyH_done (by kernel_rfl) ?_ _
 have HQ:=Lib.hid (show JH w p pm qm c s .head _ _ (.returned (QSt.val p .head)) w4 from ⟨rfl,(H.out.fr F3 Lc).fr f4 (by simp;exact HP.out),hm4,(F3.mono Lc).trans (f4.mono (by simp+contextual))⟩)
 go_wp2
 go_ret
 exact HQ.out
theorem Q8r (w:World) (p pm qm:Nat) (c:Q0) (s:QuS) (M:List Int) (t:Int) (h:Jd w p c s) (hM:QJ 112 w pm qm M t) (ht0:0≤t) (ht1:t≤1000000000) (hp:p≠pm∧p≠qm) (hc:c.fits) (hf0:0≤s.first) (hf1:s.first<c.wo) (hn:s.nx=.tell):
 Calls Tryz.prog 82 #[.pointer (some ⟨p,0,none⟩),.pointer (some ⟨pm,0,none⟩)] w
  (Jv w p pm qm c {s with nx:=.head} (Qp M (3+c.wo+s.first) (-1)) (t+tch M (3+c.wo+s.first))):=
 X6 w p pm qm c s _ _ _ _ _ h hp (by rw [hn];rfl) (Q4q w p pm qm c s M t h hM ht0 ht1 hp hc hf0 hf1)
def mQ (M:List Int):List Int:=Q3h (Q6 M 1)
theorem mQ_wd {M Q:List Int} (hQ:Ln Q) (h:Q6 M 1=(wd Q:Int)):mQ M=Q:=by unfold mQ;rw [h,Q6g hQ]
def MOk (M:List Int):Prop:=2≤M.length∧Ln (mQ M)∧Q6 M 1=(wd (mQ M):Int)
theorem Q1w {M L:List Int} (h:MOk M) (hL:Ln L):Qx M 1 (wd L:Int)=decide (mQ M=L):=by
 have hin:isIn M 1=true:=Jf Lb (by have:=h.1;omega)
 have h1:=h.2.2
 unfold Q6 at h1
 rw [if_pos hin] at h1
 unfold Qx
 rw [hin,Bool.true_and,h1]
 by_cases e:mQ M=L
 · rw [e];simp
 · rw [decide_eq_false e]
   refine decide_eq_false fun hh=>e (wd_inj h.2.1 hL Lb)
theorem cell1 {M:List Int} (h:2≤M.length) (L:List Int) (n:Int):QI M 1 (wd L:Int) n=if Qx M 1 (wd L:Int)=true then M.set 1 n else M:=rfl
theorem GR (L:List Int) (i v j:Int):isIn (Qp L i v) j=isIn L j:=by unfold isIn;rw [UZ]
theorem Xb {L:List Int} {i v:Int} (h:isIn L i=true):Q6 (Qp L i v) i=v:=by
 unfold Q6
 rw [GR,if_pos h]
 unfold Qp
 rw [if_pos h]
 have:=of_decide_eq_true h
 rw [List.getD_eq_getElem?_getD,List.getElem?_set_self Lb]
 rfl
theorem QW {L:List Int} {i j v:Int} (h0:0≤i) (h:i≠j):Q6 (Qp L i v) j=Q6 L j:=by
 unfold Q6
 rw [GR]
 by_cases hj:isIn L j=true
 · rw [if_pos hj,if_pos hj]
   unfold Qp
   split
   · have:=of_decide_eq_true hj
     rw [List.getD_eq_getElem?_getD,List.getElem?_set_ne Lb,List.getD_eq_getElem?_getD]
   · rfl
 · rw [if_neg hj,if_neg hj]
theorem Kk {M:List Int} {n j:Int} (hm:2≤M.length) (hj:j≠1):Q6 (M.set 1 n) j=Q6 M j:=by
 have e:M.set 1 n=Qp M 1 n:=by unfold Qp;rw [if_pos (Jf Lb Lb)];rfl
 rw [e];exact QW Lb (Ne.symm hj)
theorem VL (n:Nat) (i:Int):Q6 (List.replicate n 0) i=0:=by
 unfold Q6
 split
 · rw [List.getD_eq_getElem?_getD,List.getElem?_replicate];split<;>rfl
 · rfl
def Qo (c:Q0) (s:QuS) (M:List Int):QuS×List Int:=
 match s.nx with
 |.come=>(if c.wa≤((mQ M).length:Int)∨s.w∈mQ M then {s with line:=mQ M,e:=7,nx:=.done} else {s with line:=mQ M,nx:=.push},M)
 |.push=>if mQ M=s.line then ({s with nx:=.closed},M.set 1 (wd (s.line++[s.w]):Int)) else ({s with nx:=.come},M)
 |.closed=>(if Q6 M 0=0 then {s with e:=0,nx:=.done} else {s with why:=5,nx:=.look},M)
 |.look=>(if s.w∈mQ M then {s with line:=mQ M,nx:=.drop} else {s with line:=mQ M,e:=8,nx:=.done},M)
 |.drop=>if mQ M=s.line then ({s with e:=s.why,nx:=.done},M.set 1 (wd (rm s.line s.w):Int)) else ({s with nx:=.look},M)
 |.head=>(if mQ M=[] then {s with line:=mQ M,e:=0,nx:=.done} else {s with line:=mQ M,first:=Zc (mQ M),nx:=.pop},M)
 |.pop=>if mQ M=s.line then ({s with nx:=.tell},M.set 1 (wd s.line.tail:Int)) else ({s with nx:=.head},M)
 |.tell=>({s with nx:=.head},Qp M (3+c.wo+s.first) (-1))
 |.done=>(s,M)
def qT (s:QuS):Int:=match s.nx with
 |.done=>0
 |_=>1
def QuS.ok (c:Q0) (s:QuS):Prop:=Ln s.line∧(s.nx=.push→Ln (s.line++[s.w]))∧(s.nx=.drop→s.w∈s.line)∧(s.nx=.tell→0≤s.first∧s.first<c.wo)
theorem Q0D (w:World) (p pm qm:Nat) (c:Q0) (s:QuS) (M:List Int) (t:Int) (h:Jd w p c s) (hM:QJ 112 w pm qm M t) (ht0:0≤t) (ht1:t≤1000000000) (hp:p≠pm∧p≠qm) (hL:Ln s.line) (hn:s.nx=.push) (hok:Ln (s.line++[s.w])) (hcs:Qx M 1 (wd s.line)=false):
 Calls Tryz.prog 82 #[.pointer (some ⟨p,0,none⟩),.pointer (some ⟨pm,0,none⟩)] w
  (Jv w p pm qm c {s with nx:=.come} M (t+tch M 1)):=by
 have hC:=Dm w p pm qm c s M t h hM ht0 ht1 hp hL
 have hne:¬(Ln (s.line++[s.w])∧Qx M 1 (wd s.line)=true):=fun e=>by rw [hcs] at e;cases e.2
 rw [if_neg hne,if_neg hne,if_pos hok,if_pos hok,show QI M 1 (wd s.line) (wd (VD s.line s.w):Int)=M by unfold QI;rw [if_neg (by rw [hcs];simp)]] at hC
 exact X6 w p pm qm c s _ _ _ _ _ h hp (by rw [hn];rfl) hC
theorem Q2h (w:World) (p pm qm:Nat) (c:Q0) (s:QuS) (M:List Int) (t:Int) (h:Jd w p c s) (hM:QJ 112 w pm qm M t) (ht0:0≤t) (ht1:t≤1000000000) (hp:p≠pm∧p≠qm) (hL:Ln s.line) (hn:s.nx=.pop) (hcs:Qx M 1 (wd s.line)=false):
 Calls Tryz.prog 82 #[.pointer (some ⟨p,0,none⟩),.pointer (some ⟨pm,0,none⟩)] w
  (Jv w p pm qm c {s with nx:=.head} M (t+tch M 1)):=by
 have hC:=Q0F w p pm qm c s M t h hM ht0 ht1 hp hL
 rw [if_neg (by rw [hcs];simp),show QI M 1 (wd s.line) (wd s.line.tail:Int)=M by unfold QI;rw [if_neg (by rw [hcs];simp)]] at hC
 exact X6 w p pm qm c s _ _ _ _ _ h hp (by rw [hn];rfl) hC
theorem Q6p (w:World) (p pm qm:Nat) (c:Q0) (s:QuS) (M:List Int) (t:Int) (h:Jd w p c s) (hM:QJ 112 w pm qm M t) (ht0:0≤t) (ht1:t≤1000000000) (hp:p≠pm∧p≠qm) (hc:c.fits) (hs:s.ok c) (hm:MOk M) (hlen:3+2*c.wo≤(M.length:Int)):
 Calls Tryz.prog 82 #[.pointer (some ⟨p,0,none⟩),.pointer (some ⟨pm,0,none⟩)] w
  (Jv w p pm qm c (Qo c s M).1 (Qo c s M).2 (t+qT s)):=by
 obtain ⟨hl,hpu,hdr,hte⟩:=hs
 have t1:tch M 1=1:=by unfold tch;rw [if_pos (Jf Lb (by have:=hm.1;omega))]
 have t0:tch M 0=1:=by unfold tch;rw [if_pos (Jf Lb (by have:=hm.1;omega))]
 have hcq:=Q1w hm hl
 obtain ⟨sw,sl,sf,nx,why,er⟩:=s
 simp only at hl hpu hdr hte hcq
 cases nx with
 |come=>
  have:=Q8x w p pm qm c _ M t (mQ M) h hM ht0 ht1 hp hm.2.1 hm.2.2 rfl
  rw [t1] at this;exact this
 |push=>
  by_cases e:mQ M=sl
  · have:=Q8s w p pm qm c _ M t h hM ht0 ht1 hp hl rfl (hpu rfl) (by show Qx M 1 (wd sl)=true;rw [hcq];exact decide_eq_true e)
    have hcs:Qx M 1 (wd sl:Int)=true:=by rw [hcq];exact decide_eq_true e
    rw [t1,cell1 hm.1,if_pos hcs] at this
    have e2:Qo c ⟨sw,sl,sf,.push,why,er⟩ M=(⟨sw,sl,sf,.closed,why,er⟩,M.set 1 (wd (sl++[sw]):Int)):=by unfold Qo;simp only;rw [if_pos e]
    rw [e2];exact this
  · have hcs:Qx M 1 (wd sl:Int)=false:=by rw [hcq];exact decide_eq_false e
    have:=Q0D w p pm qm c _ M t h hM ht0 ht1 hp hl rfl (hpu rfl) hcs
    rw [t1] at this
    have e2:Qo c ⟨sw,sl,sf,.push,why,er⟩ M=(⟨sw,sl,sf,.come,why,er⟩,M):=by unfold Qo;simp only;rw [if_neg e]
    rw [e2];exact this
 |closed=>
  by_cases e:Q6 M 0=0
  · have:=Q8t w p pm qm c _ M t h hM ht0 ht1 hp rfl e
    rw [t0] at this
    have e2:Qo c ⟨sw,sl,sf,.closed,why,er⟩ M=(⟨sw,sl,sf,.done,why,0⟩,M):=by unfold Qo;simp only;rw [if_pos e]
    rw [e2];exact this
  · have:=Q4s w p pm qm c _ M t h hM ht0 ht1 hp rfl e
    rw [t0] at this
    have e2:Qo c ⟨sw,sl,sf,.closed,why,er⟩ M=(⟨sw,sl,sf,.look,5,er⟩,M):=by unfold Qo;simp only;rw [if_neg e]
    rw [e2];exact this
 |look=>
  have:=Q8u w p pm qm c _ M t (mQ M) h hM ht0 ht1 hp hm.2.1 hm.2.2 rfl
  rw [t1] at this;exact this
 |drop=>
  by_cases e:mQ M=sl
  · have hcs:Qx M 1 (wd sl:Int)=true:=by rw [hcq];exact decide_eq_true e
    have:=Q8w w p pm qm c _ M t h hM ht0 ht1 hp hl rfl (hdr rfl) hcs
    rw [t1,cell1 hm.1,if_pos hcs] at this
    have e2:Qo c ⟨sw,sl,sf,.drop,why,er⟩ M=(⟨sw,sl,sf,.done,why,why⟩,M.set 1 (wd (rm sl sw):Int)):=by unfold Qo;simp only;rw [if_pos e]
    rw [e2];exact this
  · have hcs:Qx M 1 (wd sl:Int)=false:=by rw [hcq];exact decide_eq_false e
    have:=Q0E w p pm qm c _ M t h hM ht0 ht1 hp hl rfl (hdr rfl) hcs
    rw [t1] at this
    have e2:Qo c ⟨sw,sl,sf,.drop,why,er⟩ M=(⟨sw,sl,sf,.look,why,er⟩,M):=by unfold Qo;simp only;rw [if_neg e]
    rw [e2];exact this
 |head=>
  have:=Q8v w p pm qm c _ M t (mQ M) h hM ht0 ht1 hp hm.2.1 hm.2.2 rfl
  rw [t1] at this;exact this
 |pop=>
  by_cases e:mQ M=sl
  · have hcs:Qx M 1 (wd sl:Int)=true:=by rw [hcq];exact decide_eq_true e
    have:=qs_pop w p pm qm c _ M t h hM ht0 ht1 hp hl rfl hcs
    rw [t1,cell1 hm.1,if_pos hcs] at this
    have e2:Qo c ⟨sw,sl,sf,.pop,why,er⟩ M=(⟨sw,sl,sf,.tell,why,er⟩,M.set 1 (wd sl.tail:Int)):=by unfold Qo;simp only;rw [if_pos e]
    rw [e2];exact this
  · have hcs:Qx M 1 (wd sl:Int)=false:=by rw [hcq];exact decide_eq_false e
    have:=Q2h w p pm qm c _ M t h hM ht0 ht1 hp hl rfl hcs
    rw [t1] at this
    have e2:Qo c ⟨sw,sl,sf,.pop,why,er⟩ M=(⟨sw,sl,sf,.head,why,er⟩,M):=by unfold Qo;simp only;rw [if_neg e]
    rw [e2];exact this
 |tell=>
  obtain ⟨f0,f1⟩:=hte rfl
  have:=Q8r w p pm qm c _ M t h hM ht0 ht1 hp hc f0 f1 rfl
  have tt:tch M (3+c.wo+sf)=1:=by unfold tch;rw [if_pos (Jf (by have:=hc.1;omega) (by have:=hc.1;omega))]
  rw [show tch M (3+c.wo+(QuS.mk sw sl sf .tell why er).first)=1 from tt] at this
  exact this
 |done=>
  refine (Q2f w p pm c _ h rfl).mono fun en w' ⟨he,hw⟩=> ?_
  subst hw
  exact ⟨he,h,by show QJ _ _ _ _ _ (t+0);rw [Int.add_zero];exact hM,Fr.refl _ _⟩
end
section
def J6 (word:Int) (d:Nat) (own more:Int):Option (Q7×Int):=(dec word).bind fun s=>(Qk s d own more).map fun t=>(t,t.enc)
structure Qi where
 kind:Int
 own:Int
 at_:Int
 word:Int
 found:Bool
deriving DecidableEq
def Jq (s:Q7) (kind own:Int):Bool:=
 if kind=0 then Jp s&&decide (s.own=own)
 else if kind=1 then Jp s
 else if kind=2 then isV s 0
 else if kind=3 then Jp s||isV s 0
 else if kind=4 then (if isV s 2 then s.br||decide (own=1)||decide (own=2) else isV s 3&&decide (own=2))
 else if kind=5 then isV s 6
 else if kind=6 then isV s 2
 else false
def JC (word kind own:Int):Bool:=match dec word with|some s=>Jq s kind own|none=>false
def QE (kind own from_:Int):Qi:=⟨kind,own,max from_ 0,0,false⟩
def Qi.all (c:Q0) (f:Qi):Bool:=decide (c.sl≤f.at_)
def QB (c:Q0) (f:Qi) (M:List Int):Qi×Bool:=
 if f.found||f.all c then (f,true)
 else
  let word:=Q6 M (c.slot f.at_)
  if JC word f.kind f.own then ({f with word:=word,found:=true},true)
  else ({f with at_:=f.at_+1},decide (c.sl≤f.at_+1))
def Qi.again (f:Qi):Qi:={f with found:=false}
def Qi.go (f:Qi):Qi:=if f.found then {f with found:=false,at_:=f.at_+1} else f
inductive RSt where
 |swap|look|age|QO|done
deriving DecidableEq
structure J2 where
 cell:Int
 word:Int
 epoch:Int
 st:RSt
 swapped:Bool
 done:Bool
deriving DecidableEq
def Q5 (c:Q0) (i:Int):Int:=if 0≤i∧i<c.sl then c.slot i else -1
def Jb (c:Q0) (i word:Int):J2:=⟨Q5 c i,word,0,.swap,false,false⟩
def J2.fin (r:J2):J2:={r with st:=.done,done:=true}
def Qn (r:J2) (M:List Int):J2×List Int:=
 match r.st with
 |.swap=>match J6 r.word 11 0 4095 with
  |some (_,next)=>if Qx M r.cell r.word then ({r with word:=next,swapped:=true,st:=.look},QI M r.cell r.word next) else (r.fin,M)
  |none=>(r.fin,M)
 |.look=>({r with epoch:=Q6 M 2,st:=.age},M)
 |.age=>match J6 r.word 17 0 r.epoch with
  |some (_,next)=>({r with st:=.QO},QI M r.cell r.word next)
  |none=>({r with st:=.QO},M)
 |.QO=>(r.fin,VU M 2 1)
 |.done=>(r.fin,M)
structure Qd where
 w:Int
 st:Int
 look:Option Qi
 i:Int
 word:Int
 gen:Int
 passes:Bool
 ret:Option J2
 e:Int
deriving DecidableEq
def Jc (w:Int):Qd:=⟨w,0,none,0,0,0,false,none,0⟩
def QU (w i:Int):Qd:=⟨w,13,none,i,0,0,false,none,0⟩
def Qd.end_ (t:Qd) (e:Int):Qd:={t with e:=e,st:=15}
def Qd.search (t:Qd) (st kind own:Int):Qd:={t with look:=some (QE kind own 0),st:=st}
def Qd.lk (t:Qd):Qi:=t.look.getD ⟨0,0,0,0,false⟩
def Qd.rt (t:Qd):J2:=t.ret.getD ⟨0,0,0,.done,false,false⟩
def X3 (c:Q0) (t:Qd) (M:List Int) (i word:Int) (d:Nat):Qd×List Int×Bool:=
 match J6 word d t.w 0 with
 |some (s,next)=>if Qx M (Q5 c i) word then ({t with i:=i,word:=next,gen:=s.gen},QI M (Q5 c i) word next,true) else (t,M,false)
 |none=>(t,M,false)
def Zz (c:Q0) (t:Qd) (M:List Int) (d:Nat):Qd×List Int×Bool:=
 match X3 c t M t.lk.at_ t.lk.word d with
 |(t',M',true)=>(t',M',true)
 |(_,_,false)=>({t with look:=some t.lk.again},M,false)
def Qg (c:Q0) (t:Qd) (M:List Int) (good:Bool):Qd×List Int:=
 let (f,fend):=QB c t.lk M
 let t1:={t with look:=some f}
 let found:=f.found
 let all:=fend&& !f.found
 if t.st=0 then (if Q6 M 0≠0 then t.end_ 5 else t.search 1 0 t.w,M)
 else if t.st=1 then (if found then {t1 with st:=2} else if all then t1.search 3 1 t.w else t1,M)
 else if t.st=2 then
  match Zz c t M 3 with
  |(t',M',true)=>({t' with st:=10},M')
  |(t',M',false)=>({t' with st:=1},M')
 else if t.st=3 then (if found then {t1 with st:=4} else if all then t1.search 7 2 t.w else t1,M)
 else if t.st=4 then
  match Zz c t M 3 with
  |(t',M',true)=>(if ((dec t.lk.word).getD ⟨0,0,0,false,false,0,0,0,0⟩).own≠t.w then {t' with passes:=false,look:=some (QE 0 ((dec t.lk.word).getD ⟨0,0,0,false,false,0,0,0,0⟩).own 0),st:=5} else {t' with st:=10},M')
  |(t',M',false)=>({t' with st:=3},M')
 else if t.st=5 then (if found&&t.passes then {t1 with passes:=false,look:=some f.go} else if found then {t1 with passes:=true,st:=6} else if all then {t1 with st:=10} else t1,M)
 else if t.st=6 then ({t with look:=some t.lk.go,st:=5},match J6 t.lk.word 9 t.w 0 with|some (_,next)=>QI M (Q5 c t.lk.at_) t.lk.word next|none=>M)
 else if t.st=7 then (if found then {t1 with st:=8} else if all then t1.end_ 3 else t1,M)
 else if t.st=8 then
  match Zz c t M 0 with
  |(t',M',true)=>({t' with st:=9},M')
  |(t',M',false)=>({t' with st:=7},M')
 else if t.st=9 then
  match X3 c t M t.i t.word (if good then 1 else 2) with
  |(t',M',ok)=>(if ok&&good then {t' with st:=10} else t'.end_ 6,M')
 else if t.st=10 then (if Q6 M 0=0 then t.end_ 0 else {t with st:=11},M)
 else if t.st=11 then
  (match dec (Q6 M (Q5 c t.i)) with
    |some s=>if s.st=3∧s.own=t.w∧s.gen=t.gen then {t with ret:=some (Jb c t.i (Q6 M (Q5 c t.i))),st:=12} else t.end_ 5
    |none=>t.end_ 5,M)
 else if t.st=12 then
  let (r,M'):=Qn t.rt M
  (if r.done then (if r.swapped then {t with ret:=some r}.end_ 5 else {t with ret:=some r,st:=11}) else {t with ret:=some r},M')
 else if t.st=13 then ({t with word:=Q6 M (Q5 c t.i),st:=14},M)
 else if t.st=14 then
  match J6 t.word 16 t.w 0 with
  |none=>(t.end_ 5,M)
  |some (s,_)=>match X3 c t M t.i t.word 16 with
   |(t',M',true)=>(if s.st=3 then {t' with st:=10} else {t' with st:=9},M')
   |(t',M',false)=>({t' with st:=13},M')
 else (t,M)
structure QC where
 w:Int
 i:Int
 gen:Int
 discard:Bool
 st:Int
 closed:Int
 word:Int
 ret:Option J2
 e:Int
deriving DecidableEq
def JD (w i gen:Int) (discard:Bool):QC:=⟨w,i,gen,discard,0,0,0,none,0⟩
def QC.end_ (g:QC) (e:Int):QC:={g with e:=e,st:=4}
def QC.rt (g:QC):J2:=g.ret.getD ⟨0,0,0,.done,false,false⟩
def Qv (c:Q0) (g:QC) (M:List Int):QC×List Int:=
 if g.st=0 then (if Q6 M 0=2 then {g with closed:=Q6 M 0}.end_ 5 else {g with closed:=Q6 M 0,st:=1},M)
 else if g.st=1 then
  (if Q5 c g.i<0 then g.end_ 2
  else
   let g1:={g with word:=Q6 M (Q5 c g.i)}
   match dec g1.word with
   |some s=>if s.st=3∧s.own=g.w∧s.gen=g.gen then
     (if s.str≠0∧g.discard=false then g1.end_ 8
     else if g.discard||s.br||decide (c.us≤s.us)||decide (g.closed≠0) then {g1 with ret:=some (Jb c g.i g1.word),st:=3} else {g1 with st:=2})
    else g1.end_ 2
   |none=>g1.end_ 2,M)
 else if g.st=2 then
  match J6 g.word 4 g.w 0 with
  |some (_,next)=>if Qx M (Q5 c g.i) g.word then ({g with st:=1}.end_ 0,QI M (Q5 c g.i) g.word next) else ({g with st:=1},M)
  |none=>({g with st:=1},M)
 else if g.st=3 then
  let (r,M'):=Qn g.rt M
  (if r.done then (if r.swapped then {g with ret:=some r}.end_ 0 else {g with ret:=some r,st:=1}) else {g with ret:=some r},M')
 else (g,M)
structure QN where
 opens:Bool
 w:Int
 i:Int
 gen:Int
 n:Int
 st:Int
 word:Int
 next:Int
 stream:Int
 e:Int
deriving DecidableEq
def QN.end_ (g:QN) (e:Int):QN:={g with e:=e,st:=3}
def VT (a b:Int):Int:=(((List.range 8).find? fun i=>a.toNat.testBit i != b.toNat.testBit i).getD 64:Nat)
def QA (c:Q0) (g:QN) (M:List Int):QN×List Int:=
 if g.st=0 then (if Q6 M 0=2 then {g with st:=1}.end_ 5 else {g with st:=1},M)
 else if g.st=1 then
  (if Q5 c g.i<0 then g.end_ 2
  else
   let g1:={g with word:=Q6 M (Q5 c g.i)}
   match dec g1.word with
   |some s=>if s.st=3∧s.own=g.w∧s.gen=g.gen then
     (if g.opens=true∧s.br=true then g1.end_ 9
     else match Qk s (if g.opens then 14 else 15) g.w (if g.opens then c.st else g.n) with
      |some t=>{g1 with next:=t.enc,stream:=VT s.str t.str,st:=2}
      |none=>g1.end_ (if g.opens then 10 else 11))
    else g1.end_ 2
   |none=>g1.end_ 2,M)
 else if g.st=2 then
  if Qx M (Q5 c g.i) g.word then ({g with st:=1}.end_ 0,QI M (Q5 c g.i) g.word g.next) else ({g with st:=1},M)
 else (g,M)
structure Qf where
 w:Int
 st:Int
 epoch:Int
 closed:Int
 queue:List Int
 look:Option Qi
 i:Int
 word:Int
 other:Int
 head:Int
 ret:Option J2
def Qz (w:Int):Qf:=⟨w,0,0,0,[],none,0,0,0,0,none⟩
def Qf.lk (t:Qf):Qi:=t.look.getD ⟨0,0,0,0,false⟩
def Qf.rt (t:Qf):J2:=t.ret.getD ⟨0,0,0,.done,false,false⟩
def Qf.search (t:Qf) (st kind own:Int):Qf:={t with look:=some (QE kind own 0),st:=st}
def Qf.another (c:Q0) (t:Qf):Qf×Bool:=
 let o:=if t.other+1=t.w then t.other+2 else t.other+1
 ({t with other:=o},decide (o<c.wo))
def Xk (c:Q0) (t:Qf) (M:List Int) (d:Nat) (own:Int):List Int×Bool:=
 match J6 t.word d own 0 with
 |some (_,next)=>if Qx M (Q5 c t.i) t.word then (QI M (Q5 c t.i) t.word next,true) else (M,false)
 |none=>(M,false)
def isW (word:Int):Int:=match dec word with|some s=>s.st|none=> -1
def epW (word:Int):Int:=match dec word with|some s=>s.ep|none=>0
def Ql (c:Q0) (t:Qf) (M:List Int):Qf×List Int:=
 let (f,fend):=QB c t.lk M
 let t1:=if f.found then {t with look:=some f,i:=f.at_,word:=f.word} else {t with look:=some f}
 let all:=fend&& !f.found
 if t.st=0 then ({t with epoch:=Q6 M 2,st:=1},M)
 else if t.st=1 then ({t with st:=2},Qp M (3+t.w) (t.epoch+1))
 else if t.st=2 then ({t with closed:=Q6 M 0}.search 3 4 (Q6 M 0),M)
 else if t.st=3 then (if f.found then {t1 with ret:=some (Jb c t1.i t1.word),st:=4} else if all then t1.search 5 5 t.w else t1,M)
 else if t.st=4 then
  let (r,M'):=Qn t.rt M
  (if r.done then {t with ret:=some r,look:=some t.lk.again,st:=3} else {t with ret:=some r},M')
 else if t.st=5 then
  (if f.found then
    (match {t1 with other:= -1,st:=6}.another c with
      |(t2,true)=>t2
      |(t2,false)=>{t2 with st:=7})
  else if all&&decide (t.closed≠0) then {t1 with st:=15} else if all then {t1 with st:=8} else t1,M)
 else if t.st=6 then
  (let word:=Q6 M (3+t.other)
  if 1≤word∧word - 1≤epW t.word then {t with look:=some t.lk.go,st:=5}
  else match t.another c with
   |(t2,true)=>t2
   |(t2,false)=>{t2 with st:=7},M)
 else if t.st=7 then ({t with look:=some t.lk.go,st:=5},(Xk c t M 12 t.w).1)
 else if t.st=8 then (if mQ M=[] then {t with queue:=mQ M,st:=15} else {t with queue:=mQ M,head:=Zc (mQ M)}.search 9 3 t.w,M)
 else if t.st=9 then (if f.found then {t1 with st:=10} else if all then {t1 with st:=15} else t1,M)
 else if t.st=10 then
  match Xk c t M (if isW t.word=2 then 5 else 7) t.head with
  |(M',true)=>({t with st:=11},M')
  |(M',false)=>({t with look:=some t.lk.again,st:=9},M')
 else if t.st=11 then (if mQ M=t.queue then ({t with st:=12},M.set 1 (wd t.queue.tail:Int)) else ({t with st:=13},M))
 else if t.st=12 then ({t with st:=8},Qp M (3+c.wo+t.head) (t.i+1))
 else if t.st=13 then
  (let word:=Q6 M (Q5 c t.i)
  if isW word=4∨isW word=5 then {t with word:=word,st:=14} else {t with word:=word,st:=8},M)
 else if t.st=14 then
  match Xk c t M (if isW t.word=4 then 6 else 8) t.w with
  |(M',true)=>({t with st:=2},M')
  |(M',false)=>({t with st:=13},M')
 else if t.st=15 then ({t with st:=16},Qp M (3+t.w) 0)
 else if t.st=16 then (if Q6 M 2=t.epoch then {t with st:=17} else {t with st:=0},M)
 else (t,M)
structure Kh where
 op:Int
 dl:Int
 wait:Bool
 force:Bool
 slot:Int
 gen:Int
 stream:Int
deriving DecidableEq
def Yy:Kh:=⟨0,0,false,false,0,0,0⟩
structure EvV where
 ended:Bool
 who:Int
 at_:Int
 ask:Kh
 e:Int
 slot:Int
 gen:Int
 stream:Int
 cI:Int
 cL:Int
 cE:Int
 cO:Int
deriving DecidableEq
def ev0:EvV:=⟨false,0,0,Yy,0,0,0,0,0,0,0,0⟩
structure QD where
 kind:Int
 who:Int
 ask:Kh
 n:Int
 good:Bool
structure Tw2 where
 r:List Int
 l:List Int
 n:Int
 d:Bool
def Y7:Tw2:=⟨[],[],0,false⟩
def QH (c:Q0) (s:Tw2) (M:List Int):Tw2:=
 if s.d then s
 else
  let x:=Q6 M (c.slot s.r.length)
  if ((s.r++[x]).length:Int)<c.sl then {s with r:=s.r++[x]} else ⟨[],s.r++[x],s.n+1,decide (0<s.n)&&decide (s.r++[x]=s.l)⟩
def Gh (word:Int):Bool:=match dec word with|some s=>decide (s.st=0)|none=>true
def Gf (word:Int):Bool:=match dec word with|some s=>decide (s.st=2)|none=>false
def Gd (word:Int):Bool:=match dec word with|some s=>decide (s.st=3)|none=>false
def Ja (L:List Int) (f:Int→Bool):Int:=((L.filter f).length:Nat)
def Uv (word:Int):Bool:= !Gh word&& !Gf word&& !Gd word
structure Qy where
 st:Int
 many:Int
 look:Qi
 ret:Option J2
def Qy.rt (t:Qy):J2:=t.ret.getD ⟨0,0,0,.done,false,false⟩
def JV (who:Int):Qy:=⟨0,0,QE 6 who 0,none⟩
def Qy.QO (r:Qy):Qy:={r with look:=r.look.go,st:=0}
inductive Yh where
 |none
 |get (t:Qd)
 |give (g:QC)
 |strm (s:QN)
 |Xl (r:Qy)
 |close (force:Bool) (drain:Option QuS)
 |stats (t:Tw2)
structure Q8 where
 st:Int
 ask:Kh
 half:Bool
 word:Int
 grant:Int
 work:Yh
 tw:Option Tw2
 qu:Option QuS
 ti:Option Qf
 parks:Bool
 timed:Bool
 ans:EvV
def Ju:Q8:=⟨0,Yy,false,0,0,.none,none,none,none,false,false,ev0⟩
structure Qa where
 c:Q0
 M:List Int
 now:Int
 ahead:List Bool
 good:Int
 bad:Int
 evs:List EvV
 ws:List Q8
 entries:Int
 at_:Int
def Qa.wk (m:Qa) (k:Nat):Q8:=m.ws.getD k Ju
def Qa.setW (m:Qa) (k:Nat) (x:Q8):Qa:={m with ws:=m.ws.set k x}
def Qa.Qr (m:Qa):Qa×Bool:=
 let g:=m.ahead.headD true
 ({m with ahead:=m.ahead.tail,good:=if g then m.good+1 else m.good,bad:=if g then m.bad else m.bad+1},g)
def Q8.QT (k:Q8) (who:Int) (parks:Bool):Q8:={k with ti:=some (Qz who),parks:=parks,st:=5}
def Q8.end_ (k:Q8) (who:Int) (ans:EvV):Q8:={k with ans:=ans}.QT who false
def XR (who:Int):QuS:=⟨who,[],0,.come,0,0⟩
def QX (who:Int):QuS:=⟨who,[],0,.look,4,0⟩
def XT:QuS:=⟨0,[],0,.head,0,0⟩
def QSt.isDone:QSt→Bool
 |.done=>true
 |_=>false
def JI (opens:Bool) (who slot gen n:Int):QN:=⟨opens,who,slot,gen,n,0,0,0,0,0⟩
def Vg (c:Q0) (who:Int) (k:Q8):Yh:=
 if k.ask.op=0 then (if 0<k.grant then .get (QU who (k.grant - 1)) else .get (Jc who))
 else if k.ask.op=1 then .give (JD who k.ask.slot k.ask.gen false)
 else if k.ask.op=2 then .give (JD who k.ask.slot k.ask.gen true)
 else if k.ask.op=3 then .strm (JI true who k.ask.slot k.ask.gen 0)
 else if k.ask.op=4 then .strm (JI false who k.ask.slot k.ask.gen k.ask.stream)
 else if k.ask.op=5 then .Xl (JV who)
 else if k.ask.op=6 then .close k.ask.force none
 else .stats Y7
def XE (k:Q8) (c:Q0) (who:Int) (M:List Int):Q8×List Int:=
 if k.half=false then ({k with word:=Q6 M 2,half:=true},M)
 else ({k with half:=false,work:=Vg c who k,st:=2},Qp M (3+who) (k.word+1))
def Xi (m:Qa) (who:Nat) (t:Qd):Qa:=
 let k:=m.wk who
 let (m1,good):=if t.st=9 then m.Qr else (m,false)
 let (t',M'):=Qg m.c t m.M good
 let m2:={m1 with M:=M'}
 let k1:={k with work:=.get t'}
 if t'.st=15 then
  (if t'.e=3 then
    (if k.ask.wait then m2.setW who {k1 with qu:=some (XR who),st:=4} else m2.setW who {k1 with tw:=some Y7,st:=3})
  else m2.setW who (k1.end_ who (if t'.e=0 then {ev0 with slot:=t'.i,gen:=t'.gen} else {ev0 with e:=t'.e})))
 else m2.setW who k1
def J4 (m:Qa) (who:Nat) (r:Qy):Qa:=
 let k:=m.wk who
 if r.st=0 then
  let (f,fend):=QB m.c r.look m.M
  if f.found then m.setW who {k with work:=.Xl {r with look:=f,st:=1}}
  else if fend then m.setW who ({k with work:=.Xl {r with look:=f}}.end_ who {ev0 with slot:=r.many})
  else m.setW who {k with work:=.Xl {r with look:=f}}
 else if r.st=1 then
  let s:=(dec r.look.word).getD ⟨0,0,0,false,false,0,0,0,0⟩
  let (m1,good):=m.Qr
  if good&& !s.mkd&& !s.br then m1.setW who {k with work:=.Xl {r with st:=2}}
  else m1.setW who {k with work:=.Xl {r with ret:=some (Jb m.c r.look.at_ r.look.word),st:=3}}
 else if r.st=2 then
  let M':=match J6 r.look.word 10 who 0 with|some (_,next)=>QI m.M (Q5 m.c r.look.at_) r.look.word next|none=>m.M
  {m with M:=M'}.setW who {k with work:=.Xl r.QO}
 else
  let (t,M'):=Qn r.rt m.M
  let r1:={r with ret:=some t}
  {m with M:=M'}.setW who {k with work:=.Xl (if t.done then {r1 with many:=if t.swapped then r.many+1 else r.many}.QO else r1)}
def QM (m:Qa) (who:Nat):Qa:=
 let k:=m.wk who
 match k.work with
 |.none=>m
 |.get t=>Xi m who t
 |.give g=>
  let (g',M'):=Qv m.c g m.M
  {m with M:=M'}.setW who (if g'.st=4 then {k with work:=.give g'}.end_ who {ev0 with e:=g'.e} else {k with work:=.give g'})
 |.strm s=>
  let (s',M'):=QA m.c s m.M
  {m with M:=M'}.setW who (if s'.st=3 then {k with work:=.strm s'}.end_ who {ev0 with e:=s'.e,stream:=if s'.e=0 then s'.stream else 0} else {k with work:=.strm s'})
 |.Xl r=>J4 m who r
 |.close force drain=>
  (match drain with
  |some q=>
   let (q',M'):=Qo m.c q m.M
   {m with M:=M'}.setW who (if q'.nx.isDone then {k with work:=.close force (some q')}.end_ who ev0 else {k with work:=.close force (some q')})
  |none=>{m with M:=if force then Qp m.M 0 2 else QI m.M 0 0 1}.setW who {k with work:=.close force (some XT)})
 |.stats t=>
  let t':=QH m.c t m.M
  m.setW who (if t'.d then {k with work:=.stats t'}.end_ who {ev0 with cI:=Ja t'.l Gf,cL:=Ja t'.l Gd,cE:=Ja t'.l Gh,cO:=Ja t'.l Uv} else {k with work:=.stats t'})
def Xd (m:Qa) (who:Nat):Qa:=
 let k:=m.wk who
 let t':=QH m.c (k.tw.getD Y7) m.M
 let k1:={k with tw:=some t'}
 if t'.d then
  (if t'.l.any (fun x=>JC x 3 who) then m.setW who {k1 with work:=.get (Jc who),st:=2} else m.setW who (k1.end_ who {ev0 with e:=3}))
 else m.setW who k1
def Xc (m:Qa) (who:Nat):Qa:=
 let k:=m.wk who
 let (q',M'):=Qo m.c (k.qu.getD (XR who)) m.M
 let k1:={k with qu:=some q'}
 {m with M:=M'}.setW who
  (if q'.nx.isDone then (if q'.e≠0∧q'.e≠8 then k1.end_ who {ev0 with e:=q'.e} else {k1 with timed:=decide (q'.e=0)}.QT who true) else k1)
def QK (m:Qa) (who:Nat):Qa:=
 let k:=m.wk who
 let (t',M'):=Ql m.c (k.ti.getD (Qz who)) m.M
 let k1:={k with ti:=some t'}
 let m1:={m with M:=M'}
 if t'.st=17 then
  (if k.parks then m1.setW who {k1 with st:=6}
  else {m1 with evs:=m.evs++[{k.ans with ended:=true,who:=who,at_:=m.at_,ask:=k.ask}]}.setW who {k1 with st:=0})
 else m1.setW who k1
def J7 (m:Qa) (who:Nat):Qa:=
 let k:=m.wk who
 let cell:=3+m.c.wo+(who:Int)
 if k.half=false then m.setW who {k with word:=Q6 m.M cell,half:=true}
 else
  let m1:={m with M:=Qp m.M cell 0}
  let k1:={k with half:=false}
  if k.word<0 then m1.setW who (k1.end_ who {ev0 with e:=5}) else m1.setW who {k1 with grant:=k.word,st:=1}
def Jo (m:Qa) (who:Nat):Qa:=
 let k:=m.wk who
 let (q',M'):=Qo m.c (k.qu.getD (QX who)) m.M
 let k1:={k with qu:=some q'}
 {m with M:=M'}.setW who
  (if q'.nx.isDone then (if q'.e=8 then {k1 with timed:=false,st:=6} else k1.end_ who {ev0 with e:=q'.e}) else k1)
def XZ (m:Qa) (who:Nat):Bool:=decide (Q6 m.M (3+m.c.wo+(who:Int))≠0)
def XB (m:Qa) (who:Nat):Qa:=
 let k:=m.wk who
 if XZ m who then J7 (m.setW who {k with st:=7}) who
 else Jo (m.setW who {k with qu:=some (QX who),st:=8}) who
def JG (m:Qa) (who:Nat):Bool:=XZ m who||((m.wk who).timed&&decide ((m.wk who).ask.dl≤m.now))
def Qs (m:Qa) (who:Nat):Qa:=
 let k:=m.wk who
 if k.st=1 then (let (k',M'):=XE k m.c who m.M;{m with M:=M'}.setW who k')
 else if k.st=2 then QM m who
 else if k.st=3 then Xd m who
 else if k.st=4 then Xc m who
 else if k.st=5 then QK m who
 else if k.st=6 then XB m who
 else if k.st=7 then J7 m who
 else if k.st=8 then Jo m who
 else m
def Qa.has (m:Qa) (w:Int):Bool:=decide (0≤w)&&decide (w<m.ws.length)
def Ud (m:Qa) (w:Int):Qa×Bool:=
 if m.has w then
  let k:=m.wk w.toNat
  if k.st=0∨(k.st=6∧JG m w.toNat=false) then (m,false) else (Qs m w.toNat,true)
 else (m,false)
def Vi (m:Qa) (x:QD):Qa×Bool:=
 if m.has x.who=true∧(m.wk x.who.toNat).st=0∧m.evs.length<1999∧0≤x.ask.op∧x.ask.op<8 then
  ({m with evs:=m.evs++[{ev0 with who:=x.who,at_:=m.at_,ask:=x.ask}]}.setW x.who.toNat {Ju with st:=1,ask:=x.ask},true)
 else (m,false)
def K9 (m:Qa) (i:Int):Qa×Bool:=
 if Q5 m.c i<0 then (m,false)
 else match J6 (Q6 m.M (Q5 m.c i)) 13 0 0 with
  |some (_,next)=>({m with M:=Qp m.M (Q5 m.c i) next},true)
  |none=>(m,false)
def doV (m:Qa) (x:QD):Qa×Bool:=
 let m:={m with at_:=m.entries,entries:=m.entries+1}
 if x.kind=0 then Vi m x
 else if x.kind=1 then Ud m x.who
 else if x.kind=2 then ({m with now:=m.now+min (max x.n 0) (1099511627776 - m.now)},true)
 else if x.kind=3 then (if m.ahead.length<1000 then ({m with ahead:=m.ahead++[x.good]},true) else (m,false))
 else if x.kind=4 then K9 m x.ask.slot
 else (m,false)
def J5 (c:Q0):Qa:=⟨c,List.replicate c.cells.toNat 0,0,[],0,0,[],List.replicate c.wo.toNat Ju,0,0⟩
end
section
inductive UD where
 |no
 |b1 (i g:Int)
 |b2 (i g:Int)
 |ga (i g:Int)
 |si (i g:Int)
 |de (i g:Int) (n:Nat) (o:Bool)
deriving DecidableEq
def turns (r:UD) (i g:Int) (n:Nat):Bool:=match r with
 |.de i' g' n' _=>decide (i'=i)&&decide (g'=g)&&decide (n'=n)
 |_=>false
variable {L:Int→Option (Int×Int×Int)} {G:Int→Int} {shut:Prop} {hw hg:Int→Int} {hs:Int→Nat→Bool} {r:Nat→UD}
def upL (L:Int→Option (Int×Int×Int)) (i:Int) (x:Option (Int×Int×Int)):Int→Option (Int×Int×Int):=fun j=>if j=i then x else L j
def upG (G:Int→Int) (i x:Int):Int→Int:=fun j=>if j=i then x else G j
end
end Go.Proofs.YtgjklfmnmljilaaGreatDoor
