/- A part of the proof: TpGc to TpSd. -/
import Derived.Test.YtgjklfmnmljilaaGreatDoorZT03
import Derived.Test.YtgjklfmnmljilaaGreatDoorZT13
import Derived.Test.YtgjklfmnmljilaaGreatDoorZT17
import Derived.Test.YtgjklfmnmljilaaGreatDoorZT20
import Derived.Shelf.Spec.TrailingZeros
namespace Go.Proofs.YtgjklfmnmljilaaGreatDoor
set_option linter.unusedVariables false
set_option linter.unusedSimpArgs false
set_option linter.unusedSectionVars false
set_option linter.unnecessarySimpa false
set_option maxRecDepth 100000
set_option maxHeartbeats 8000000
section
open Go.RowKit Go.Shelf Go.Lib
attribute [local go_sem] Oper.semAt_some
theorem GJ {c:Q0} {i:Int} (hc:c.fits) (h:0≤Q5 c i):0≤i∧i<c.sl∧Q5 c i=c.slot i:=by
 unfold Q5 at h ⊢
 split at h
 · rename_i h';rw [if_pos h'];exact ⟨h'.1,h'.2,rfl⟩
 · omega
structure Qy.ok (c:Q0) (g:Qy):Prop where
 s0:0≤g.st
 s1:g.st≤4
 w0:0≤g.w
 w1:g.w≤15
 wd:g.st=2→∃s,Q8.right s∧g.word=s.enc
 rt:g.st=3→∃r,g.ret=some r∧r.ok
def Q0f (w:World) (p pm qm:Nat) (pr:Option Nat) (c:Q0) (n:Int) (x:Qy×List Int) (e:Ending) (w':World):Prop:=
 e=.returned (.bool (decide (x.1.st=4)))∧∃pr',XW w' p pm qm pr' c x.1∧Ql w' pm qm x.2 (n+1)∧Fr (p::pm::qm::pr.toList) w w'∧(∀b,pr'=some b→pr=some b∨w.heap.size≤b)
theorem Q39 {w w2:World} {p pm qm:Nat} {pr:Option Nat} {c:Q0} {n:Int} {x:Qy×List Int} {e:Ending} (h:Zw w p pm qm pr c n x e w2):Q0f w p pm qm pr c n x (.returned (.bool (decide (x.1.st=4)))) w2:=⟨rfl,h.2⟩
theorem Q7r {w:World} {p pm qm:Nat} {pr:Option Nat} {c:Q0} {g:Qy} {n:Int} {X:Qy×List Int} (hb:Xb w p pr c g)
 (h:(g.st=0∧Calls Tryz.prog 207 #[.pointer (some ⟨p,0,none⟩),.pointer (some ⟨pm,0,none⟩)] w (Zw w p pm qm pr c n X))∨(g.st=1∧Calls Tryz.prog 208 #[.pointer (some ⟨p,0,none⟩),.pointer (some ⟨pm,0,none⟩)] w (Zw w p pm qm pr c n X))∨(g.st=2∧Calls Tryz.prog 209 #[.pointer (some ⟨p,0,none⟩),.pointer (some ⟨pm,0,none⟩)] w (Zw w p pm qm pr c n X))∨(g.st=3∧Calls Tryz.prog 210 #[.pointer (some ⟨p,0,none⟩),.pointer (some ⟨pm,0,none⟩)] w (Zw w p pm qm pr c n X))):
 Calls Tryz.prog 147 #[.pointer (some ⟨p,0,none⟩),.pointer (some ⟨pm,0,none⟩)] w (Q0f w p pm qm pr c n X):=by
 have B:=Bag.one hb
 clear hb
 obtain ⟨gw,gi,ggen,gdis,gst,gclosed,gword,gret,ge⟩:=g
 obtain ⟨X1,X2⟩:=X
 dsimp only at h
 rcases h with ⟨rfl,h⟩|⟨rfl,h⟩|⟨rfl,h⟩|⟨rfl,h⟩
 all_goals
  have HC:=hid h
  clear h
  have q:=B.q 0
  go_in
  go_wp2_with fail
  refine HC.out.mono ?_
  rintro e w2 h2
  have HX:=hid (Q39 h2)
  obtain ⟨rfl,pr',ht, -⟩:=h2
  clear q
  have q:=(Bag.one ht.blk).q 0
  dsimp only at HX q
  clear ht
  generalize X1.st=xs at HX q
  by_cases h4:xs=4
  · subst h4
    go_wp2
    go_ret
    exact HX.out
  · rw [decide_eq_false h4] at HX
    go_wp2
    go_ret
    first
    |exact HX.out
    |(rw [show (xs==4)=false by simp [h4]];exact HX.out)
theorem Q5q (w:World) (p pm qm:Nat) (pr:Option Nat) (c:Q0) (g:Qy) (M:List Int) (n:Int) (hT:XW w p pm qm pr c g) (hM:Ql w pm qm M n) (hn:n≤1000000000) (hok:g.ok c) (hlive:g.st≠4) (hS:JX c M) (hc:c.fits) (hG:Qf w 0 Qc):
 Calls Tryz.prog 147 #[.pointer (some ⟨p,0,none⟩),.pointer (some ⟨pm,0,none⟩)] w (Q0f w p pm qm pr c n (Qt c g M)):=by
 have h0:=hok.s0;have h1:=hok.s1
 refine Q7r hT.blk ?_
 rcases (by omega:g.st=0∨g.st=1∨g.st=2∨g.st=3) with h|h|h|h
 · exact .inl ⟨h,Q3a hT hM hG hn h⟩
 · refine .inr (.inl ⟨h, ?_⟩)
   by_cases hneg:Q5 c g.i<0
   · exact Q7s hT hM hG h hc hneg
   · obtain ⟨a,b,e⟩:=GJ hc (by omega:0≤Q5 c g.i)
     obtain ⟨s,hs,hld⟩:=hS g.i a b
     exact Q7t hT hM hG hn h hc s hneg hs (by rw [e];exact hld)
 · obtain ⟨s,hs,hw⟩:=hok.wd h
   exact .inr (.inr (.inl ⟨h,Q5r hT hM hG hn s h hs hw hok.w0 hok.w1 hc⟩))
 · obtain ⟨r,hr,hrk⟩:=hok.rt h
   exact .inr (.inr (.inr ⟨h,Q5s hT hM hG hn r hr h hrk⟩))
def Q9G (w:World) (c:Q0) (g:Qy) (e:Ending) (w':World):Prop:=∃p,e=.returned (.pointer (some ⟨p,0,none⟩))∧w.heap.size≤p∧Xb w' p none c g∧Fr [] w w'
theorem Q1r (w:World) (c:Q0) (who i gen:Int) (dis:Bool):Calls Tryz.prog 97 #[c.val,.int .i64 who,.int .i64 i,.int .i64 gen,.bool dis] w (Q9G w c (Ju who i gen dis)):=by
 obtain ⟨wo,sl,sst,wa,us⟩:=c
 dsimp only [Q0.val]
 go_in
 go_wp2
 go_ret
 exact ⟨_,rfl,Nat.le_succ _,by rw [←World.size_alloc];exact heap_alloc_new _ _,((Fr.refl [] w).alloc _).alloc _⟩
theorem Q1s (w:World) (p:Nat) (pr:Option Nat) (c:Q0) (g:Qy) (h:Xb w p pr c g) (hst:g.st=4):Calls Tryz.prog 148 #[.pointer (some ⟨p,0,none⟩)] w fun e w'=>e=.returned (.tuple #[.int .i64 g.e,.bool true])∧Fr [] w w':=by
 have B:=Bag.one h
 clear h
 rw [hst] at B
 clear hst
 have q:=B.q 0
 go_in
 go_wp2_with fail
 go_region
 all_goals go_wp2
 all_goals go_ret2
 all_goals exact ⟨rfl,(Fr.refl [] w).drew⟩
def Vo (w:World):Prop:=TabAt 2 Lib.deBruijn64tab w
theorem Vo.fr {w w':World} (h:Vo w) {S:List Nat} (f:Fr S w w') (hb:2∉S):Vo w':=fun j hj=>f.cell (h j hj) hb
def tzRen:Go.Shelf.Ren:=⟨fun|27=>249|28=>262|29=>263|n=>n,fun|0=>0|3=>3|4=>4|5=>5|22=>249|25=>241|27=>247|53=>250|54=>251|n=>n,fun|0=>1|1=>2|n=>n⟩
theorem tzLays:Lays7.n27 Tryz.prog tzRen where
 mixed:=by kernel_rfl
 f27:=Tryz.func249.trans (congrArg some (by kernel_rfl))
 f28:=Tryz.func262.trans (congrArg some (by kernel_rfl))
 f29:=Tryz.func263.trans (congrArg some (by kernel_rfl))
 t0:=Tryz.underlying0
 a0:=Tryz.isAgg0
 z0:=Tryz.sizeOf0
 v0:=Tryz.zeroValue0
 i0:=by kernel_rfl
 t3:=Tryz.underlying3
 a3:=Tryz.isAgg3
 z3:=Tryz.sizeOf3
 v3:=Tryz.zeroValue3
 i3:=by kernel_rfl
 t4:=Tryz.underlying4
 a4:=Tryz.isAgg4
 z4:=Tryz.sizeOf4
 v4:=Tryz.zeroValue4
 i4:=by kernel_rfl
 t5:=Tryz.underlying5
 a5:=Tryz.isAgg5
 z5:=Tryz.sizeOf5
 v5:=Tryz.zeroValue5
 i5:=by kernel_rfl
 t22:=Tryz.underlying249
 a22:=Tryz.isAgg249
 z22:=Tryz.sizeOf249
 v22:=Tryz.zeroValue249
 i22:=by kernel_rfl
 t25:=Tryz.underlying241
 a25:=Tryz.isAgg241
 z25:=Tryz.sizeOf241
 v25:=Tryz.zeroValue241
 i25:=by kernel_rfl
 t27:=Tryz.underlying247
 a27:=Tryz.isAgg247
 z27:=Tryz.sizeOf247
 v27:=Tryz.zeroValue247
 i27:=by kernel_rfl
 t53:=Tryz.underlying250
 a53:=Tryz.isAgg250
 z53:=Tryz.sizeOf250
 v53:=Tryz.zeroValue250
 i53:=by kernel_rfl
 t54:=Tryz.underlying251
 a54:=Tryz.isAgg251
 z54:=Tryz.sizeOf251
 g0:=by kernel_rfl
 g1:=by kernel_rfl
theorem tz_any (w:World) (x:Nat) (hx:x<18446744073709551616) (hT:Vo w):Calls Tryz.prog 249 #[.int .u64 (x:Int)] w fun e w'=>e=.returned (.int .i64 (Lib.ctz 64 x))∧Fr [] w w':=by
 refine (Any7.bits_TrailingZeros tzLays x hx w (fun _=>hT)).mono ?_
 rintro e w' ⟨rfl,rfl⟩
 exact ⟨rfl,Fr.refl _ _⟩
theorem Q5C:∀x,x<256→(((List.range 8).find? fun i=>x.testBit i).getD 64)=Lib.ctz 64 x:=by decide+kernel
theorem Q7Q {a b:Int} (a0:0≤a) (a1:a<256) (b0:0≤b) (b1:b<256):VP a b=(Lib.ctz 64 (a.toNat ^^^ b.toNat):Nat):=by
 have h:a.toNat ^^^ b.toNat<2 ^ 8:=Nat.xor_lt_two_pow (by omega) (by omega)
 rw [←Q5C _ h]
 unfold VP
 congr 2
 simp only [Nat.testBit_xor]
def Q1L (d:Nat) (no:Int) (who more:Int) (s:Q8):Q8×Int:=
 match Qj s d who more with
 |some u=>(u,0)
 |none=>(XA,no)
def Q5P (who more:Int) (s:Q8):Q8×Int:=if s.br=true then (XA,9) else Q1L 14 10 who more s
abbrev tCl (b1 b2:Nat) (o1 o2:Obj):Th:=⟨false,[b1,b2,0],fun w=>w.heap[b1]?=some o1∧w.heap[b2]?=some o2∧Qf w 0 Qc,fun f h k=>⟨f.at k.1 (h _ (by simp)),f.at k.2.1 (h _ (by simp)),k.2.2.fr f (h _ (by simp))⟩⟩
theorem Bag.cl {w:World} {b1 b2:Nat} {o1 o2:Obj} (h1:w.heap[b1]?=some o1) (h2:w.heap[b2]?=some o2) (hG:Qf w 0 Qc):Bag [] w [tCl b1 b2 o1 o2] w:=
 have h0:0<w.heap.size:=World.block_lt_of_cell? _ _ (hG 0 _ rfl).1
 (Bag.nil [] w).add (tCl b1 b2 o1 o2) ⟨h1,h2,hG⟩ (fun x hx=>by simp at hx;rcases hx with rfl|rfl|rfl;exact Q6 h1;exact Q6 h2;exact h0) (fun i x hx=>by simp [gt,Th.nil]) (fun h=>by cases h)
theorem clfin {P:Prop} (h:P:=by
 go_in
 go_wp2_with fail
 generalize hw:World.alloc w _=w1,hb:(World.heap w).size=b
 generalize hw2:World.alloc w1 _=w2
 replace B:=B.al2 hw hb hw2
 clear hb hw hw2 r1 r2 l1 l2
 refine (HN.out _ (B.g 0).2.2).mono ?_
 rintro e w3 ⟨rfl,f⟩
 replace B:=B.tm f
 clear f
 cases co
 all_goals
  simp only [Option.isSome_none,Option.getD_none,Option.isSome_some,Option.getD_some,XA,Q8.val]
  have q:=B.qa 2;have u:=B.ua 2
  go_wp2_with fail
  clear q u
  generalize hw:World.alloc w3 _=w4,hb:(World.heap w3).size=b4
  replace B:=B.al hw hb
  generalize hw5:World.setCell _ _ _=w5
  replace B:=(((((((((B.s 2).s 2).s 2).s 2).s 2).s 2).s 2).s 2).s 2).e hw5
  have q:=B.q 2
  refine ⟨rfl,_, ?_,rfl,B.fr⟩
  simp [results,Tryz.f152,Tryz.f153,go_sem,q,XA]):P:=h
theorem Q2k (w:World) (s:Q8) (c:Q0) (who:Int) (b1 b2:Nat) (h:s.right) (o0:0≤who) (o1:who≤15) (hb1:w.heap[b1]?=some (.cells #[.int .i64 who] 3 (0,0))) (hb2:w.heap[b2]?=some (.cells #[.int .i64 c.wo,.int .i64 c.sl,.int .i64 c.st,.int .i64 c.wa,.int .i64 c.us] 30 (0,0))) (hG:Qf w 0 Qc):
 Calls Tryz.prog 152 #[s.val,.pointer (some ⟨b1,0,none⟩),.pointer (some ⟨b2,0,none⟩)] w fun e w'=>e=.returned (.tuple #[(Q5P who c.st s).1.val,.int .i64 (Q5P who c.st s).2])∧Fr [] w w':=by
 have HN:=hid fun w' hg=>Yq w' s 14 who c.st h (by decide) o0 o1 hg
 have B:=Bag.cl hb1 hb2 hG
 have r1:=cell_of (i:=0) hb1 rfl;have r2:=cell_of (i:=2) hb2 rfl;have l1:=Q6 hb1;have l2:=Q6 hb2
 clear h hb1 hb2 hG
 unfold Q5P Q1L
 generalize Qj s 14 who c.st=co at HN ⊢
 obtain ⟨zst,zso,zstr,zbr,zmkd,zus,zgen,zep,zver⟩:=s
 dsimp only [Q8.val] at HN ⊢
 cases zbr
 · rw [if_neg (by simp)]
   exact clfin
 · rw [if_pos rfl]
   dsimp only [XA]
   go_in
   go_wp2_with fail
   generalize hw:World.alloc w _=w1,hb:(World.heap w).size=b
   generalize hw2:World.alloc w1 _=w2
   replace B:=B.al2 hw hb hw2
   have q:=B.q 2
   refine ⟨rfl,_, ?_,rfl,B.fr⟩
   simp [results,Tryz.f152,go_sem,q]
theorem Q2i (w:World) (s:Q8) (n:Int) (who:Int) (b1 b2:Nat) (h:s.right) (o0:0≤who) (o1:who≤15) (hb1:w.heap[b1]?=some (.cells #[.int .i64 who] 3 (0,0))) (hb2:w.heap[b2]?=some (.cells #[.int .i64 n] 3 (0,0))) (hG:Qf w 0 Qc):
 Calls Tryz.prog 153 #[s.val,.pointer (some ⟨b1,0,none⟩),.pointer (some ⟨b2,0,none⟩)] w fun e w'=>e=.returned (.tuple #[(Q1L 15 11 who n s).1.val,.int .i64 (Q1L 15 11 who n s).2])∧Fr [] w w':=by
 have HN:=hid fun w' hg=>Yq w' s 15 who n h (by decide) o0 o1 hg
 have B:=Bag.cl hb1 hb2 hG
 have r1:=cell_of (i:=0) hb1 rfl;have r2:=cell_of (i:=0) hb2 rfl;have l1:=Q6 hb1;have l2:=Q6 hb2
 clear h hb1 hb2 hG
 unfold Q1L
 generalize Qj s 15 who n=co at HN ⊢
 obtain ⟨zst,zso,zstr,zbr,zmkd,zus,zgen,zep,zver⟩:=s
 dsimp only [Q8.val] at HN ⊢
 exact clfin
def Vm (w:World) (p b1 b2:Nat) (fn:FuncId) (c:Q0) (g:QI):Prop:=
 w.heap[p]?=some (.cells #[.int .i64 c.wo,.int .i64 c.sl,.int .i64 c.st,.int .i64 c.wa,.int .i64 c.us,.int .i64 g.w,.int .i64 g.i,.int .i64 g.gen,.int .i64 g.st,.int .i64 g.word,.int .i64 g.next,.int .i64 g.stream,.func (.func fn) #[] #[.pointer (some ⟨b1,0,none⟩),.pointer (some ⟨b2,0,none⟩)],.int .i64 g.e] 199 (0,0))
theorem Vm.fr {w w':World} {p b1 b2:Nat} {fn:FuncId} {c:Q0} {g:QI} (h:Vm w p b1 b2 fn c g) {S:List Nat} (f:Fr S w w') (hp:p∉S):Vm w' p b1 b2 fn c g:=f.at h hp
def Q89 (fn:FuncId) (b1 b2:Nat) (o1 o2:Obj) (s:Q8) (r:Q8×Int):Prop:=∀w:World,w.heap[b1]?=some o1→w.heap[b2]?=some o2→Qf w 0 Qc→
 Calls Tryz.prog fn #[s.val,.pointer (some ⟨b1,0,none⟩),.pointer (some ⟨b2,0,none⟩)] w fun e w'=>e=.returned (.tuple #[r.1.val,.int .i64 r.2])∧Fr [] w w'
structure Wt (w:World) (p b1 b2 pm qm:Nat):Prop where
 pp:p≠pm∧p≠qm∧0<p∧0<pm∧0<qm∧p<w.heap.size∧pm<w.heap.size∧qm<w.heap.size∧b1≠p∧b1≠pm∧b1≠qm∧b1<w.heap.size∧b2≠p∧b2≠pm∧b2≠qm∧b2<w.heap.size
def Q3o (w:World) (p b1 b2 pm qm:Nat) (fn:FuncId) (c:Q0) (n:Int) (x:QI) (M:List Int) (e:Ending) (w':World):Prop:=
 e=.returned (.tuple #[])∧Vm w' p b1 b2 fn c x∧Ql w' pm qm M (n+1)∧Fr [p,pm,qm] w w'
def Gu (c:Q0) (g:QI) (s:Q8):Q8×Int:=if g.opens=true then Q5P g.w c.st s else Q1L 15 11 g.w g.n s
theorem EA (c:Q0) (g:QI) (M:List Int) (hst:g.st=1):Qu c g M=(if Q5 c g.i<0 then g.end_ 2 else
 match dec (Q7 M (Q5 c g.i)) with
 |some s=>if s.st=3∧s.own=g.w∧s.gen=g.gen then
   (if (Gu c g s).2≠0 then {g with word:=Q7 M (Q5 c g.i)}.end_ (Gu c g s).2
   else {g with word:=Q7 M (Q5 c g.i),next:=(Gu c g s).1.enc,stream:=VP s.str (Gu c g s).1.str,st:=2})
  else {g with word:=Q7 M (Q5 c g.i)}.end_ 2
 |none=>{g with word:=Q7 M (Q5 c g.i)}.end_ 2,M):=by
 obtain ⟨gop,gw,gi,ggen,gn,gst,gword,gnext,gstr,ge⟩:=g
 dsimp only at hst
 subst hst
 have e:Qu c ⟨gop,gw,gi,ggen,gn,1,gword,gnext,gstr,ge⟩ M=(if Q5 c gi<0 then QI.end_ ⟨gop,gw,gi,ggen,gn,1,gword,gnext,gstr,ge⟩ 2
  else
   match dec (Q7 M (Q5 c gi)) with
   |some s=>if s.st=3∧s.own=gw∧s.gen=ggen then
     (if gop=true∧s.br=true then QI.end_ ⟨gop,gw,gi,ggen,gn,1,Q7 M (Q5 c gi),gnext,gstr,ge⟩ 9
     else match Qj s (if gop then 14 else 15) gw (if gop then c.st else gn) with
      |some t=>⟨gop,gw,gi,ggen,gn,2,Q7 M (Q5 c gi),t.enc,VP s.str t.str,ge⟩
      |none=>QI.end_ ⟨gop,gw,gi,ggen,gn,1,Q7 M (Q5 c gi),gnext,gstr,ge⟩ (if gop then 10 else 11))
    else QI.end_ ⟨gop,gw,gi,ggen,gn,1,Q7 M (Q5 c gi),gnext,gstr,ge⟩ 2
   |none=>QI.end_ ⟨gop,gw,gi,ggen,gn,1,Q7 M (Q5 c gi),gnext,gstr,ge⟩ 2,M):=rfl
 rw [e]
 clear e
 unfold Gu Q5P Q1L
 dsimp only
 congr 1
 split
 · rfl
 · cases dec (Q7 M (Q5 c gi)) with
   |none=>rfl
   |some s=>
    dsimp only
    split
    · cases gop
      · cases hn:Qj s 15 gw gn<;>simp [hn]
      · cases hbr:s.br
        · cases hn:Qj s 14 gw c.st<;>simp [hn]
        · simp
    · rfl
abbrev tS (p b1 b2 fn:Nat) (wo sl sst wa us gw gi ggen gst gword gnext gstr ge:Int):Th:=tR p #[.int .i64 wo,.int .i64 sl,.int .i64 sst,.int .i64 wa,.int .i64 us,.int .i64 gw,.int .i64 gi,.int .i64 ggen,.int .i64 gst,.int .i64 gword,.int .i64 gnext,.int .i64 gstr,.func (.func fn) #[] #[.pointer (some ⟨b1,0,none⟩),.pointer (some ⟨b2,0,none⟩)],.int .i64 ge] 199
theorem Uh {S0:List Nat} {w0 w:World} {L:List Th} {p b1 b2 fn:Nat} {wo sl sst wa us gw gi ggen gst gword gnext gstr ge:Int} (B:Bag S0 w0 (tS p b1 b2 fn wo sl sst wa us gw gi ggen gst gword gnext gstr ge::L) w) (e:Int):
 Calls Tryz.prog 211 #[.pointer (some ⟨p,0,none⟩),.int .i64 e] w fun en w'=>en=.returned (.tuple #[])∧Bag S0 w0 (tS p b1 b2 fn wo sl sst wa us gw gi ggen 3 gword gnext gstr e::L) w':=by
 have q:=B.q 0;have u:=B.u 0
 go_in
 go_wp2_with fail
 clear q u
 generalize hw:World.setCell _ _ _=w2
 replace B:=((B.s 0).s 0).e hw
 go_end0
 exact ⟨rfl,B⟩
theorem Wt.bag {w:World} {p b1 b2 pm qm:Nat} {M:List Int} {n:Int} {A:Array Value} {t:TypeId} (hf:Wt w p b1 b2 pm qm) (hb:w.heap[p]?=some (.cells A t (0,0))) (hM:Ql w pm qm M n):Bag [p,pm,qm] w [tR p A t,tM pm qm M n] w:=by
 have hne:=hM.ne
 have pp:=hf.pp
 refine Bag.of ?_ (by simp;omega) (by simp;omega) ?_
 · simp only [List.forall_mem_cons];exact ⟨hb,hM,by simp⟩
 · intro T hT ho x hx
   simp only [List.mem_cons,List.not_mem_nil,or_false] at hT
   rcases hT with rfl|rfl<;>(simp at hx;rcases hx with rfl|rfl<;>simp)
theorem Q8E {P:Prop} (h:P:=by
 first
  |go_end0
  |(try simp only [Exit.inBlock,Exit.then]
    refine bodyPost_ret (results_none rfl _ _ _) rfl ?_)
 have hx:=HX.out
 try simp [*] at hx
 subst hx
 exact ⟨rfl,B.g 0,Ql.mono (B.g 1) (by omega),B.fr⟩):P:=h
theorem Q1J {a b:Int} (a0:0≤a) (a1:a<256) (b0:0≤b) (b1:b<256):IntKind.u64.wrap (bits BinOp.xor IntKind.i64 a b)=((a.toNat ^^^ b.toNat:Nat):Int):=by
 obtain ⟨m,rfl⟩:=Int.eq_ofNat_of_zero_le a0
 obtain ⟨k,rfl⟩:=Int.eq_ofNat_of_zero_le b0
 have hx:m ^^^ k<2 ^ 8:=Nat.xor_lt_two_pow (by omega) (by omega)
 have h1:(BitVec.ofInt 64 (m:Int)).toNat=m:=by
  rw [BitVec.ofInt_natCast,BitVec.toNat_ofNat];exact Nat.mod_eq_of_lt (by omega)
 have h2:(BitVec.ofInt 64 (k:Int)).toNat=k:=by
  rw [BitVec.ofInt_natCast,BitVec.toNat_ofNat];exact Nat.mod_eq_of_lt (by omega)
 show IntKind.u64.wrap (IntKind.i64.wrap ((BitVec.ofInt 64 (m:Int) ^^^ BitVec.ofInt 64 (k:Int)).toNat:Int))=_
 rw [BitVec.toNat_xor,h1,h2,IntKind.wrap_i64]
 have e1:((m:Int)).toNat=m:=rfl
 have e2:((k:Int)).toNat=k:=rfl
 rw [e1,e2]
 have e:∀n:Int,n=((m ^^^ k:Nat):Int)→(n+9223372036854775808) % 18446744073709551616 - 9223372036854775808=n:=fun n hn=>by omega
 rw [e _ rfl]
 show (((m ^^^ k:Nat):Int) % _)=_
 simp only [IntKind.bits]
 omega
abbrev tE (b1 b2:Nat) (o1 o2:Obj):Th:=⟨false,[b1,b2,0,2],fun w=>w.heap[b1]?=some o1∧w.heap[b2]?=some o2∧Qf w 0 Qc∧Vo w,fun f h k=>⟨f.at k.1 (h _ (by simp)),f.at k.2.1 (h _ (by simp)),k.2.2.1.fr f (h _ (by simp)),k.2.2.2.fr f (h _ (by simp))⟩⟩
theorem EB (w:World) (p b1 b2 pm qm:Nat) (fn:FuncId) (o1 o2:Obj) (c:Q0) (g:QI) (M:List Int) (n:Int) (hb:Vm w p b1 b2 fn c g) (hf:Wt w p b1 b2 pm qm) (h1:w.heap[b1]?=some o1) (h2:w.heap[b2]?=some o2) (hM:Ql w pm qm M n) (hn:n≤1000000000) (hst:g.st=1) (hc:c.fits) (hneg:Q5 c g.i<0):
 Calls Tryz.prog 212 #[.pointer (some ⟨p,0,none⟩),.pointer (some ⟨pm,0,none⟩)] w (Q3o w p b1 b2 pm qm fn c n (Qu c g M).1 M):=by
 have HSL:=hid fun w'=>J2 w' c g.i hc
 generalize hX:(Qu c g M).1=X
 rw [EA c g M hst,if_pos hneg] at hX
 have HX:=hid hX
 clear hX hc
 have pp:=hf.pp
 obtain ⟨wo,sl,sst,wa,us⟩:=c
 obtain ⟨gop,gw,gi,ggen,gn,gst,gword,gnext,gstr,ge⟩:=g
 dsimp only [Q0.val] at hst hneg HSL
 subst hst
 generalize Q5 _ _=cell at HSL hneg
 have B:=hf.bag hb hM
 dsimp only at B
 clear hb hf h1 h2 hM pp
 go_in
 go_wp2_with fail
 refine rg B fun _ B=> ?_
 iterate 8 refine tb ?_
 refine to fun K hK=> ?_
 go_simp
 refine (HSL.out _).mono ?_
 rintro e w1 ⟨rfl,f⟩
 replace B:=B.tm f
 go_wp2_with fail
 refine bk hK ?_
 clear hK K
 try go_frame
 refine tb ?_
 refine wpAnyH_done (by decide+kernel) ?_ _
 go_wp2_with fail
 refine (Uh B 2).mono ?_
 rintro e w3 ⟨rfl,B⟩
 go_wp2
 exact Q8E
theorem EC (w:World) (p b1 b2 pm qm:Nat) (fn:FuncId) (o1 o2:Obj) (c:Q0) (g:QI) (M:List Int) (n:Int) (hb:Vm w p b1 b2 fn c g) (hf:Wt w p b1 b2 pm qm) (h1:w.heap[b1]?=some o1) (h2:w.heap[b2]?=some o2) (hM:Ql w pm qm M n) (hn:n≤1000000000) (s u:Q8) (en:Int) (hst:g.st=1) (hc:c.fits) (hpos:0≤Q5 c g.i) (hs:s.right) (hld:Q7 M (Q5 c g.i)=s.enc) (hbec:Gu c g s=(u,en)) (hBE:(s.st=3∧s.own=g.w∧s.gen=g.gen)→Q89 fn b1 b2 o1 o2 s (u,en)) (hu:en=0→u.right) (hcf:∀(args:Array Value) (wx:World),(callFunc fn args).run Tryz.prog wx=.ok (.enter fn args) wx) (hG:Qf w 0 Qc) (hTZ:Vo w) (h2p:2<p∧2<pm∧2<qm):
 Calls Tryz.prog 212 #[.pointer (some ⟨p,0,none⟩),.pointer (some ⟨pm,0,none⟩)] w (Q3o w p b1 b2 pm qm fn c n (Qu c g M).1 M):=by
 have HSL:=hid fun w'=>J2 w' c g.i hc
 have HLD:=hid fun w' h=>Za w' pm qm M n (Q5 c g.i) h hn
 rw [hld] at HLD
 have HD:=hid fun w' h=>Je w' s hs h
 have HEN:=hid fun h w' hg=>XI w' u (hu h) hg
 have HTP:=hid fun (he:en=0) w' ht=>tz_any w' (s.str.toNat ^^^ u.str.toNat) (Nat.lt_of_lt_of_le (Nat.xor_lt_two_pow (n:=8) (by have:=hs.str1;omega) (by have:=(hu he).str1;omega)) (by decide)) ht
 have HXO:=hid fun (h:en=0)=>Q1J hs.str0 (by have:=hs.str1;omega) (hu h).str0 (by have:=(hu h).str1;omega)
 have HBO:=hid fun (h:en=0)=>Q7Q hs.str0 (by have:=hs.str1;omega) (hu h).str0 (by have:=(hu h).str1;omega)
 have HBE:=hid hBE
 unfold Q89 at HBE
 generalize hX:(Qu c g M).1=X
 rw [EA c g M hst,if_neg (by omega),hld,QO hs] at hX
 dsimp only at hX
 rw [hbec] at hX
 have HX:=hid hX
 clear hX hc hld hBE hbec hs hu
 have pp:=hf.pp
 obtain ⟨wo,sl,sst,wa,us⟩:=c
 obtain ⟨gop,gw,gi,ggen,gn,gst,gword,gnext,gstr,ge⟩:=g
 obtain ⟨zst,zso,zstr,zbr,zmkd,zus,zgen,zep,zver⟩:=s
 obtain ⟨ust,uso,ustr,ubr,umkd,uus,ugen,uep,uver⟩:=u
 dsimp only [Q0.val,Q8.val] at hst hpos HSL HLD HD HEN HTP HXO HBO HBE HX
 subst hst
 generalize Q5 _ _=cell at HSL hpos HLD
 generalize Q8.enc ⟨zst,_,_,_,_,_,_,_,_⟩=en1 at HLD HD HX
 generalize Q8.enc ⟨ust,_,_,_,_,_,_,_,_⟩=ue at HEN HX
 generalize zstr.toNat ^^^ ustr.toNat=xr at HTP HXO HBO
 have B0:=hf.bag hb hM
 dsimp only at B0
 have B:=B0.add (tE b1 b2 o1 o2) ⟨h1,h2,hG,hTZ⟩ (fun x hx=>by simp at hx;omega) (fun i x hx hm=>by
  rcases i with _|_|i
  · simp [gt] at hx hm;omega
  · simp [gt] at hx hm;omega
  · simp [gt,Th.nil] at hm) (fun h=>by cases h)
 simp only [List.cons_append,List.nil_append] at B
 clear B0
 clear hb hf h1 h2 hM pp hG hTZ h2p
 have hcase:(zst≠3∧(zst != 3)=true)∨(zst=3∧zso≠gw∧(zso != gw)=true)∨(zst=3∧zso=gw∧zgen≠ggen∧(zgen != ggen)=true)∨(zst=3∧zso=gw∧zgen=ggen):=by simp;omega
 go_in
 go_wp2_with fail
 refine rg B fun _ B=> ?_
 iterate 8 refine tb ?_
 refine to fun K hK=> ?_
 go_simp
 refine (HSL.out _).mono ?_
 rintro e w1 ⟨rfl,f⟩
 replace B:=B.tm f
 go_wp2_with fail
 refine bk hK ?_
 clear hK K
 try go_frame
 refine tb ?_
 refine wpAnyH_done (by decide+kernel) ?_ _
 have hpn:¬cell<0:=by omega
 go_wp2_with fail
 refine (HLD.out _ (B.g 1)).mono ?_
 rintro e w2 ⟨rfl,h,f⟩
 replace B:=B.M h f
 have q:=B.q 0;have v:=B.u 0
 go_wp2_with fail
 clear q v
 generalize hw:World.setCell _ _ _=w3
 replace B:=(B.s 0).e hw
 refine (HD.out _ (B.g 2).2.2.1).mono ?_
 rintro e w4 ⟨rfl,f⟩
 replace B:=B.tm f
 go_wp2_with fail
 generalize hb:(World.heap _).size=b,hw:World.alloc _ _=w5
 replace B:=B.al hw hb
 rcases hcase with ⟨d1,d2⟩|⟨rfl,d1,d2⟩|⟨rfl,rfl,d1,d2⟩|⟨rfl,rfl,rfl⟩
 all_goals
  refine rg B fun _ B=> ?_
  repeat first|refine tb ?_|refine tv ?_
  refine wpAnyH_done (by decide+kernel) ?_ _
 iterate 3
  · go_wp2_with fail
    refine (Uh (B.tk 3) 2).mono ?_
    rintro e w3 ⟨rfl,B⟩
    go_wp2
    exact Q8E
 go_wp2_with fail
 refine rg B fun _ B=> ?_
 iterate 5 refine tb ?_
 refine wpAnyH_ready (rs:=[5,9]) (by kernel_rfl) (by simp) ?_
 refine AllReadyH.cons (o:=_) rfl (fun K hK=> ?_) (AllReadyH.cons (o:=_) rfl (fun K hK=> ?_) AllReadyH.nil)
 all_goals
  simp only [List.getElem_toArray,List.getElem_cons_succ,List.getElem_cons_zero]
  go_simp
  first
   |(refine (HBE.out (by simp) _ (B.g 2).1 (B.g 2).2.1 (B.g 2).2.2.1).mono ?_
     rintro e w6 ⟨rfl,f⟩
     replace B:=B.tm f
     go_wp2_with fail
     refine bk hK ?_
     clear hK K
     try go_frame
     refine tj 6 ?_
     refine tj 7 ?_
     refine tj 8 ?_
     refine tc 9 fun K hK=> ?_
     go_simp
     generalize hb:(World.heap _).size=b7,hw:World.alloc _ _=w7
     replace B:=B.al hw hb
     refine bk hK ?_
     clear hK K
     try go_frame)
   |(generalize hb:(World.heap _).size=b7,hw:World.alloc _ _=w7
     replace B:=B.al hw hb
     refine bk hK ?_
     clear hK K
     try go_frame
     refine tc 5 fun K hK=> ?_
     go_simp
     refine (HBE.out (by simp) _ (B.g 2).1 (B.g 2).2.1 (B.g 2).2.2.1).mono ?_
     rintro e w6 ⟨rfl,f⟩
     replace B:=B.tm f
     go_wp2_with fail
     refine bk hK ?_
     clear hK K
     try go_frame
     refine tj 6 ?_
     refine tj 7 ?_
     refine tj 8 ?_)
  have q:=B.q 4;have v:=B.u 4
  refine to fun K hK=> ?_
  go_simp
  clear q v
  generalize hw8:World.setCell _ _ _=w8
  replace B:=(((((((((B.s 4).s 4).s 4).s 4).s 4).s 4).s 4).s 4).s 4).e hw8
  refine bk hK ?_
  clear hK K
  try go_frame
  refine tb ?_
  refine wpAnyH_done (by decide+kernel) ?_ _
  by_cases he:en=0
  · subst he
    have n1:¬b=p:=by simpa [gt] using B.nd 3 0 (by decide) b (by simp [gt])
    have n2:¬b7=p:=by simpa [gt] using B.nd 4 0 (by decide) b7 (by simp [gt])
    have n3:¬p=b:=fun e=>n1 e.symm
    have n4:¬p=b7:=fun e=>n2 e.symm
    have hbo:=HBO.out (by simp)
    have q4:=B.q 4
    go_wp2_with fail
    refine (HEN.out (by simp) _ (B.g 2).2.2.1).mono ?_
    rintro e w9 ⟨rfl,f⟩
    replace B:=B.tm f
    clear q4
    have q:=B.q 0;have v:=B.u 0;have q3:=B.q 3;have q4:=B.q 4
    go_wp2_with fail
    rw [HXO.out (by simp)]
    clear q v q3 q4
    generalize hw10:World.setCell _ _ _=w10
    replace B:=(B.s 0).e hw10
    refine (HTP.out (by simp) _ (B.g 2).2.2.2).mono ?_
    rintro e w11 ⟨rfl,f⟩
    replace B:=B.tm f
    have q:=B.q 0;have v:=B.u 0
    go_wp2_with fail
    clear q v
    generalize hw12:World.setCell _ _ _=w12
    replace B:=(((B.s 0).s 0).e hw12).tk 3
    exact Q8E
  · have hne:(en != 0)=true:=by simp [he]
    go_wp2_with fail
    refine (Uh (B.tk 3) en).mono ?_
    rintro e w3 ⟨rfl,B⟩
    go_wp2
    exact Q8E
end
end Go.Proofs.YtgjklfmnmljilaaGreatDoor
