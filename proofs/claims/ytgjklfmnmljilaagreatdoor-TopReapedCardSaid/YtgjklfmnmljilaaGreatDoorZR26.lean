/- A part of the proof. -/
import Derived.Test.YtgjklfmnmljilaaGreatDoorZR25
import Derived.Shelf.Spec.TrailingZeros
import Derived.Laws.CopyOwn
namespace Go.Proofs.YtgjklfmnmljilaaGreatDoor
set_option linter.unusedVariables false
set_option linter.unusedSimpArgs false
set_option linter.unusedSectionVars false
set_option linter.unnecessarySimpa false
set_option maxRecDepth 100000
set_option maxHeartbeats 8000000
section
open Go.RowKit Go.Shelf Go.Lib
attribute [local go_sem] Oper.semAt_some
def Yj (w:World):Prop:=TabAt 2 Lib.deBruijn64tab w
theorem Yj.fr {w w':World} (h:Yj w) {S:List Nat} (f:Fr S w w') (hb:2∉S):Yj w':=fun j hj=>f.cell (h j hj) hb
def tzRen:Go.Shelf.Ren:=⟨fun|27=>249|28=>262|29=>263|n=>n,fun|0=>0|3=>3|4=>4|5=>5|22=>249|25=>241|27=>247|53=>250|54=>251|n=>n,fun|0=>1|1=>2|n=>n⟩
theorem tzLays:Lays7.n27 Tryz.prog tzRen where
 mixed:=by kernel_rfl
 f27:=Tryz.func249.trans (congrArg some (by kernel_rfl))
 f28:=Tryz.func262.trans (congrArg some (by kernel_rfl))
 f29:=Tryz.func263.trans (congrArg some (by kernel_rfl))
 t0:=Tryz.underlying0
 a0:=Tryz.isAgg0
 z0:=Tryz.sizeOf0
 v0:=Tryz.zeroValue0
 i0:=by kernel_rfl
 t3:=Tryz.underlying3
 a3:=Tryz.isAgg3
 z3:=Tryz.sizeOf3
 v3:=Tryz.zeroValue3
 i3:=by kernel_rfl
 t4:=Tryz.underlying4
 a4:=Tryz.isAgg4
 z4:=Tryz.sizeOf4
 v4:=Tryz.zeroValue4
 i4:=by kernel_rfl
 t5:=Tryz.underlying5
 a5:=Tryz.isAgg5
 z5:=Tryz.sizeOf5
 v5:=Tryz.zeroValue5
 i5:=by kernel_rfl
 t22:=Tryz.underlying249
 a22:=Tryz.isAgg249
 z22:=Tryz.sizeOf249
 v22:=Tryz.zeroValue249
 i22:=by kernel_rfl
 t25:=Tryz.underlying241
 a25:=Tryz.isAgg241
 z25:=Tryz.sizeOf241
 v25:=Tryz.zeroValue241
 i25:=by kernel_rfl
 t27:=Tryz.underlying247
 a27:=Tryz.isAgg247
 z27:=Tryz.sizeOf247
 v27:=Tryz.zeroValue247
 i27:=by kernel_rfl
 t53:=Tryz.underlying250
 a53:=Tryz.isAgg250
 z53:=Tryz.sizeOf250
 v53:=Tryz.zeroValue250
 i53:=by kernel_rfl
 t54:=Tryz.underlying251
 a54:=Tryz.isAgg251
 z54:=Tryz.sizeOf251
 g0:=by kernel_rfl
 g1:=by kernel_rfl
theorem tz_any (w:World) (x:Nat) (hx:x<18446744073709551616) (hT:Yj w):Calls Tryz.prog 249 #[.int .u64 (x:Int)] w fun e w'=>e=.returned (.int .i64 (Lib.ctz 64 x))∧Fr [] w w':=by
 refine (Any7.bits_TrailingZeros tzLays x hx w (fun _=>hT)).mono ?_
 rintro e w' ⟨rfl,rfl⟩
 exact ⟨rfl,Fr.refl _ _⟩
theorem Q5m:∀x,x<256→(((List.range 8).find? fun i=>x.testBit i).getD 64)=Lib.ctz 64 x:=by decide+kernel
theorem Q7q {a b:Int} (a0:0≤a) (a1:a<256) (b0:0≤b) (b1:b<256):VT a b=(Lib.ctz 64 (a.toNat ^^^ b.toNat):Nat):=by
 have h:a.toNat ^^^ b.toNat<2 ^ 8:=Nat.xor_lt_two_pow Lb Lb
 rw [←Q5m _ h]
 unfold VT
 congr 2
 simp only [Nat.testBit_xor]
def Q1z (d:Nat) (no:Int) (who more:Int) (s:Q7):Q7×Int:=
 match Qk s d who more with
 |some u=>(u,0)
 |none=>(XA,no)
def Q5A (who more:Int) (s:Q7):Q7×Int:=if s.br=true then (XA,9) else Q1z 14 10 who more s
abbrev tCl (b1 b2:Nat) (o1 o2:Obj):Th:=⟨false,[b1,b2,0],fun w=>w.heap[b1]?=some o1∧w.heap[b2]?=some o2∧Qe w 0 Qc,fun f h k=>⟨f.at k.1 (h _ Lc),f.at k.2.1 (h _ Lc),k.2.2.fr f (h _ Lc)⟩⟩
theorem Bag.cl {w:World} {b1 b2:Nat} {o1 o2:Obj} (h1:w.heap[b1]?=some o1) (h2:w.heap[b2]?=some o2) (hG:Qe w 0 Qc):Bag [] w [tCl b1 b2 o1 o2] w:=
 have h0:0<w.heap.size:=World.block_lt_of_cell? _ _ (hG 0 _ rfl).1
 (Bag.nil [] w).add (tCl b1 b2 o1 o2) ⟨h1,h2,hG⟩ (fun x hx=>by simp at hx;rcases hx with rfl|rfl|rfl;exact Q9 h1;exact Q9 h2;exact h0) (fun i x hx=>by simp [gt,Th.nil]) (fun h=>by cases h)
theorem clfin {P:Prop} (h:P:=by
 go_in
 go_wp2_with fail
 generalize hw:World.alloc w _=w1,hb:(World.heap w).size=b
 generalize hw2:World.alloc w1 _=w2
 replace B:=B.al2 hw hb hw2
 clear hb hw hw2 r1 r2 l1 l2
 refine (HN.out _ (B.g 0).2.2).mono ?_
 rintro e w3 ⟨rfl,f⟩
 replace B:=B.tm f
 clear f
 cases co
 all_goals
  simp only [Option.isSome_none,Option.getD_none,Option.isSome_some,Option.getD_some,XA,Q7.val]
  have q:=B.qa 2;have u:=B.ua 2
  go_wp2_with fail
  clear q u
  generalize hw:World.alloc w3 _=w4,hb:(World.heap w3).size=b4
  replace B:=B.al hw hb
  generalize hw5:World.setCell _ _ _=w5
  replace B:=(((((((((B.s 2).s 2).s 2).s 2).s 2).s 2).s 2).s 2).s 2).e hw5
  have q:=B.q 2
  refine ⟨rfl,_, ?_,rfl,B.fr⟩
  simp [results,Tryz.f152,Tryz.f153,go_sem,q,XA]):P:=h
theorem Q26 (w:World) (s:Q7) (c:Q0) (who:Int) (b1 b2:Nat) (h:s.right) (o0:0≤who) (o1:who≤15) (hb1:w.heap[b1]?=some (.cells #[.int .i64 who] 3 (0,0))) (hb2:w.heap[b2]?=some (.cells #[.int .i64 c.wo,.int .i64 c.sl,.int .i64 c.st,.int .i64 c.wa,.int .i64 c.us] 30 (0,0))) (hG:Qe w 0 Qc):
 Calls Tryz.prog 152 #[s.val,.pointer (some ⟨b1,0,none⟩),.pointer (some ⟨b2,0,none⟩)] w fun e w'=>e=.returned (.tuple #[(Q5A who c.st s).1.val,.int .i64 (Q5A who c.st s).2])∧Fr [] w w':=by
 have HN:=hid fun w' hg=>Yu w' s 14 who c.st h (by decide) o0 o1 hg
 have B:=Bag.cl hb1 hb2 hG
 have r1:=cell_of (i:=0) hb1 rfl;have r2:=cell_of (i:=2) hb2 rfl;have l1:=Q9 hb1;have l2:=Q9 hb2
 clear h hb1 hb2 hG
 unfold Q5A Q1z
 generalize Qk s 14 who c.st=co at HN ⊢
 obtain ⟨zst,zso,zstr,zbr,zmkd,zus,zgen,zep,zver⟩:=s
 dsimp only [Q7.val] at HN ⊢
 cases zbr
 · rw [if_neg Lc]
   exact clfin
 · rw [if_pos rfl]
   dsimp only [XA]
   go_in
   go_wp2_with fail
   generalize hw:World.alloc w _=w1,hb:(World.heap w).size=b
   generalize hw2:World.alloc w1 _=w2
   replace B:=B.al2 hw hb hw2
   have q:=B.q 2
   refine ⟨rfl,_, ?_,rfl,B.fr⟩
   simp [results,Tryz.f152,go_sem,q]
theorem Q24 (w:World) (s:Q7) (n:Int) (who:Int) (b1 b2:Nat) (h:s.right) (o0:0≤who) (o1:who≤15) (hb1:w.heap[b1]?=some (.cells #[.int .i64 who] 3 (0,0))) (hb2:w.heap[b2]?=some (.cells #[.int .i64 n] 3 (0,0))) (hG:Qe w 0 Qc):
 Calls Tryz.prog 153 #[s.val,.pointer (some ⟨b1,0,none⟩),.pointer (some ⟨b2,0,none⟩)] w fun e w'=>e=.returned (.tuple #[(Q1z 15 11 who n s).1.val,.int .i64 (Q1z 15 11 who n s).2])∧Fr [] w w':=by
 have HN:=hid fun w' hg=>Yu w' s 15 who n h (by decide) o0 o1 hg
 have B:=Bag.cl hb1 hb2 hG
 have r1:=cell_of (i:=0) hb1 rfl;have r2:=cell_of (i:=0) hb2 rfl;have l1:=Q9 hb1;have l2:=Q9 hb2
 clear h hb1 hb2 hG
 unfold Q1z
 generalize Qk s 15 who n=co at HN ⊢
 obtain ⟨zst,zso,zstr,zbr,zmkd,zus,zgen,zep,zver⟩:=s
 dsimp only [Q7.val] at HN ⊢
 exact clfin
def Vn (w:World) (p b1 b2:Nat) (fn:FuncId) (c:Q0) (g:QN):Prop:=
 w.heap[p]?=some (.cells #[.int .i64 c.wo,.int .i64 c.sl,.int .i64 c.st,.int .i64 c.wa,.int .i64 c.us,.int .i64 g.w,.int .i64 g.i,.int .i64 g.gen,.int .i64 g.st,.int .i64 g.word,.int .i64 g.next,.int .i64 g.stream,.func (.func fn) #[] #[.pointer (some ⟨b1,0,none⟩),.pointer (some ⟨b2,0,none⟩)],.int .i64 g.e] 199 (0,0))
theorem Vn.fr {w w':World} {p b1 b2:Nat} {fn:FuncId} {c:Q0} {g:QN} (h:Vn w p b1 b2 fn c g) {S:List Nat} (f:Fr S w w') (hp:p∉S):Vn w' p b1 b2 fn c g:=f.at h hp
def Q7N (fn:FuncId) (b1 b2:Nat) (o1 o2:Obj) (s:Q7) (r:Q7×Int):Prop:=∀w:World,w.heap[b1]?=some o1→w.heap[b2]?=some o2→Qe w 0 Qc→
 Calls Tryz.prog fn #[s.val,.pointer (some ⟨b1,0,none⟩),.pointer (some ⟨b2,0,none⟩)] w fun e w'=>e=.returned (.tuple #[r.1.val,.int .i64 r.2])∧Fr [] w w'
structure Wd (w:World) (p b1 b2 pm qm:Nat):Prop where
 pp:p≠pm∧p≠qm∧0<p∧0<pm∧0<qm∧p<w.heap.size∧pm<w.heap.size∧qm<w.heap.size∧b1≠p∧b1≠pm∧b1≠qm∧b1<w.heap.size∧b2≠p∧b2≠pm∧b2≠qm∧b2<w.heap.size
def Q34 (w:World) (p b1 b2 pm qm:Nat) (fn:FuncId) (c:Q0) (n:Int) (x:QN) (M:List Int) (e:Ending) (w':World):Prop:=
 e=.returned (.tuple #[])∧Vn w' p b1 b2 fn c x∧Qm w' pm qm M (n+1)∧Fr [p,pm,qm] w w'
def Gi (c:Q0) (g:QN) (s:Q7):Q7×Int:=if g.opens=true then Q5A g.w c.st s else Q1z 15 11 g.w g.n s
theorem Eo (c:Q0) (g:QN) (M:List Int) (hst:g.st=1):QA c g M=(if Q5 c g.i<0 then g.end_ 2 else
 match dec (Q6 M (Q5 c g.i)) with
 |some s=>if s.st=3∧s.own=g.w∧s.gen=g.gen then
   (if (Gi c g s).2≠0 then {g with word:=Q6 M (Q5 c g.i)}.end_ (Gi c g s).2
   else {g with word:=Q6 M (Q5 c g.i),next:=(Gi c g s).1.enc,stream:=VT s.str (Gi c g s).1.str,st:=2})
  else {g with word:=Q6 M (Q5 c g.i)}.end_ 2
 |none=>{g with word:=Q6 M (Q5 c g.i)}.end_ 2,M):=by
 obtain ⟨gop,gw,gi,ggen,gn,gst,gword,gnext,gstr,ge⟩:=g
 dsimp only at hst
 subst hst
 have e:QA c ⟨gop,gw,gi,ggen,gn,1,gword,gnext,gstr,ge⟩ M=(if Q5 c gi<0 then QN.end_ ⟨gop,gw,gi,ggen,gn,1,gword,gnext,gstr,ge⟩ 2
  else
   match dec (Q6 M (Q5 c gi)) with
   |some s=>if s.st=3∧s.own=gw∧s.gen=ggen then
     (if gop=true∧s.br=true then QN.end_ ⟨gop,gw,gi,ggen,gn,1,Q6 M (Q5 c gi),gnext,gstr,ge⟩ 9
     else match Qk s (if gop then 14 else 15) gw (if gop then c.st else gn) with
      |some t=>⟨gop,gw,gi,ggen,gn,2,Q6 M (Q5 c gi),t.enc,VT s.str t.str,ge⟩
      |none=>QN.end_ ⟨gop,gw,gi,ggen,gn,1,Q6 M (Q5 c gi),gnext,gstr,ge⟩ (if gop then 10 else 11))
    else QN.end_ ⟨gop,gw,gi,ggen,gn,1,Q6 M (Q5 c gi),gnext,gstr,ge⟩ 2
   |none=>QN.end_ ⟨gop,gw,gi,ggen,gn,1,Q6 M (Q5 c gi),gnext,gstr,ge⟩ 2,M):=rfl
 rw [e]
 clear e
 unfold Gi Q5A Q1z
 dsimp only
 congr 1
 split
 · rfl
 · cases dec (Q6 M (Q5 c gi)) with
   |none=>rfl
   |some s=>
    dsimp only
    split
    · cases gop
      · cases hn:Qk s 15 gw gn<;>simp [hn]
      · cases hbr:s.br
        · cases hn:Qk s 14 gw c.st<;>simp [hn]
        · simp
    · rfl
abbrev tS (p b1 b2 fn:Nat) (wo sl sst wa us gw gi ggen gst gword gnext gstr ge:Int):Th:=tR p #[.int .i64 wo,.int .i64 sl,.int .i64 sst,.int .i64 wa,.int .i64 us,.int .i64 gw,.int .i64 gi,.int .i64 ggen,.int .i64 gst,.int .i64 gword,.int .i64 gnext,.int .i64 gstr,.func (.func fn) #[] #[.pointer (some ⟨b1,0,none⟩),.pointer (some ⟨b2,0,none⟩)],.int .i64 ge] 199
theorem U5 {S0:List Nat} {w0 w:World} {L:List Th} {p b1 b2 fn:Nat} {wo sl sst wa us gw gi ggen gst gword gnext gstr ge:Int} (B:Bag S0 w0 (tS p b1 b2 fn wo sl sst wa us gw gi ggen gst gword gnext gstr ge::L) w) (e:Int):
 Calls Tryz.prog 211 #[.pointer (some ⟨p,0,none⟩),.int .i64 e] w fun en w'=>en=.returned (.tuple #[])∧Bag S0 w0 (tS p b1 b2 fn wo sl sst wa us gw gi ggen 3 gword gnext gstr e::L) w':=by
 have q:=B.q 0;have u:=B.u 0
 go_in
 go_wp2_with fail
 clear q u
 generalize hw:World.setCell _ _ _=w2
 replace B:=((B.s 0).s 0).e hw
 go_end0
 exact ⟨rfl,B⟩
theorem Wd.bag {w:World} {p b1 b2 pm qm:Nat} {M:List Int} {n:Int} {A:Array Value} {t:TypeId} (hf:Wd w p b1 b2 pm qm) (hb:w.heap[p]?=some (.cells A t (0,0))) (hM:Qm w pm qm M n):Bag [p,pm,qm] w [tR p A t,tM pm qm M n] w:=by
 have hne:=hM.ne
 have pp:=hf.pp
 refine Bag.of ?_ (by simp;omega) (by simp;omega) ?_
 · simp only [List.forall_mem_cons];exact ⟨hb,hM,Lc⟩
 · intro T hT ho x hx
   simp only [List.mem_cons,List.not_mem_nil,or_false] at hT
   rcases hT with rfl|rfl<;>(simp at hx;rcases hx with rfl|rfl<;>simp)
theorem Q8k {P:Prop} (h:P:=by
 first
  |go_end0
  |(try simp only [Exit.inBlock,Exit.then]
    refine bodyPost_ret (results_none rfl _ _ _) rfl ?_)
 have hx:=HX.out
 try simp [*] at hx
 subst hx
 exact ⟨rfl,B.g 0,Qm.mono (B.g 1) Lb,B.fr⟩):P:=h
theorem Q1x {a b:Int} (a0:0≤a) (a1:a<256) (b0:0≤b) (b1:b<256):IntKind.u64.wrap (bits BinOp.xor IntKind.i64 a b)=((a.toNat ^^^ b.toNat:Nat):Int):=by
 obtain ⟨m,rfl⟩:=Int.eq_ofNat_of_zero_le a0
 obtain ⟨k,rfl⟩:=Int.eq_ofNat_of_zero_le b0
 have hx:m ^^^ k<2 ^ 8:=Nat.xor_lt_two_pow Lb Lb
 have h1:(BitVec.ofInt 64 (m:Int)).toNat=m:=by
  exact Z0k
 have h2:(BitVec.ofInt 64 (k:Int)).toNat=k:=by
  exact Z0k
 show IntKind.u64.wrap (IntKind.i64.wrap ((BitVec.ofInt 64 (m:Int) ^^^ BitVec.ofInt 64 (k:Int)).toNat:Int))=_
 rw [BitVec.toNat_xor,h1,h2,IntKind.wrap_i64]
 have e1:((m:Int)).toNat=m:=rfl
 have e2:((k:Int)).toNat=k:=rfl
 rw [e1,e2]
 have e:∀n:Int,n=((m ^^^ k:Nat):Int)→(n+9223372036854775808) % 18446744073709551616 - 9223372036854775808=n:=fun n hn=>by omega
 rw [e _ rfl]
 show (((m ^^^ k:Nat):Int) % _)=_
 simp only [IntKind.bits]
 omega
abbrev tE (b1 b2:Nat) (o1 o2:Obj):Th:=⟨false,[b1,b2,0,2],fun w=>w.heap[b1]?=some o1∧w.heap[b2]?=some o2∧Qe w 0 Qc∧Yj w,fun f h k=>⟨f.at k.1 (h _ Lc),f.at k.2.1 (h _ Lc),k.2.2.1.fr f (h _ Lc),k.2.2.2.fr f (h _ Lc)⟩⟩
theorem Ep (w:World) (p b1 b2 pm qm:Nat) (fn:FuncId) (o1 o2:Obj) (c:Q0) (g:QN) (M:List Int) (n:Int) (hb:Vn w p b1 b2 fn c g) (hf:Wd w p b1 b2 pm qm) (h1:w.heap[b1]?=some o1) (h2:w.heap[b2]?=some o2) (hM:Qm w pm qm M n) (hn:n≤1000000000) (hst:g.st=1) (hc:c.fits) (hneg:Q5 c g.i<0):
 Calls Tryz.prog 212 #[.pointer (some ⟨p,0,none⟩),.pointer (some ⟨pm,0,none⟩)] w (Q34 w p b1 b2 pm qm fn c n (QA c g M).1 M):=by
 have HSL:=hid fun w'=>J9 w' c g.i hc
 generalize hX:(QA c g M).1=X
 rw [Eo c g M hst,if_pos hneg] at hX
 have HX:=hid hX
 clear hX hc
 have pp:=hf.pp
 obtain ⟨wo,sl,sst,wa,us⟩:=c
 obtain ⟨gop,gw,gi,ggen,gn,gst,gword,gnext,gstr,ge⟩:=g
 dsimp only [Q0.val] at hst hneg HSL
 subst hst
 generalize Q5 _ _=cell at HSL hneg
 have B:=hf.bag hb hM
 dsimp only at B
 clear hb hf h1 h2 hM pp
 go_in
 go_wp2_with fail
 refine rg B fun _ B=> ?_
 iterate 8 refine tb ?_
 refine to fun K hK=> ?_
 go_simp
 refine (HSL.out _).mono ?_
 rintro e w1 ⟨rfl,f⟩
 replace B:=B.tm f
 go_wp2_with fail
 refine bk hK ?_
 clear hK K
 try go_frame
 refine tb ?_
 refine wpAnyH_done (by decide+kernel) ?_ _
 go_wp2_with fail
 refine (U5 B 2).mono ?_
 rintro e w3 ⟨rfl,B⟩
 go_wp2
 exact Q8k
theorem Er (w:World) (p b1 b2 pm qm:Nat) (fn:FuncId) (o1 o2:Obj) (c:Q0) (g:QN) (M:List Int) (n:Int) (hb:Vn w p b1 b2 fn c g) (hf:Wd w p b1 b2 pm qm) (h1:w.heap[b1]?=some o1) (h2:w.heap[b2]?=some o2) (hM:Qm w pm qm M n) (hn:n≤1000000000) (s u:Q7) (en:Int) (hst:g.st=1) (hc:c.fits) (hpos:0≤Q5 c g.i) (hs:s.right) (hld:Q6 M (Q5 c g.i)=s.enc) (hbec:Gi c g s=(u,en)) (hBE:(s.st=3∧s.own=g.w∧s.gen=g.gen)→Q7N fn b1 b2 o1 o2 s (u,en)) (hu:en=0→u.right) (hcf:∀(args:Array Value) (wx:World),(callFunc fn args).run Tryz.prog wx=.ok (.enter fn args) wx) (hG:Qe w 0 Qc) (hTZ:Yj w) (h2p:2<p∧2<pm∧2<qm):
 Calls Tryz.prog 212 #[.pointer (some ⟨p,0,none⟩),.pointer (some ⟨pm,0,none⟩)] w (Q34 w p b1 b2 pm qm fn c n (QA c g M).1 M):=by
 have HSL:=hid fun w'=>J9 w' c g.i hc
 have HLD:=hid fun w' h=>Za w' pm qm M n (Q5 c g.i) h hn
 rw [hld] at HLD
 have HD:=hid fun w' h=>Ji w' s hs h
 have HEN:=hid fun h w' hg=>XJ w' u (hu h) hg
 have HTP:=hid fun (he:en=0) w' ht=>tz_any w' (s.str.toNat ^^^ u.str.toNat) (Nat.lt_of_lt_of_le (Nat.xor_lt_two_pow (n:=8) (by have:=hs.str1;omega) (by have:=(hu he).str1;omega)) (by decide)) ht
 have HXO:=hid fun (h:en=0)=>Q1x hs.str0 (by have:=hs.str1;omega) (hu h).str0 (by have:=(hu h).str1;omega)
 have HBO:=hid fun (h:en=0)=>Q7q hs.str0 (by have:=hs.str1;omega) (hu h).str0 (by have:=(hu h).str1;omega)
 have HBE:=hid hBE
 unfold Q7N at HBE
 generalize hX:(QA c g M).1=X
 rw [Eo c g M hst,if_neg Lb,hld,QF hs] at hX
 dsimp only at hX
 rw [hbec] at hX
 have HX:=hid hX
 clear hX hc hld hBE hbec hs hu
 have pp:=hf.pp
 obtain ⟨wo,sl,sst,wa,us⟩:=c
 obtain ⟨gop,gw,gi,ggen,gn,gst,gword,gnext,gstr,ge⟩:=g
 obtain ⟨zst,zso,zstr,zbr,zmkd,zus,zgen,zep,zver⟩:=s
 obtain ⟨ust,uso,ustr,ubr,umkd,uus,ugen,uep,uver⟩:=u
 dsimp only [Q0.val,Q7.val] at hst hpos HSL HLD HD HEN HTP HXO HBO HBE HX
 subst hst
 generalize Q5 _ _=cell at HSL hpos HLD
 generalize Q7.enc ⟨zst,_,_,_,_,_,_,_,_⟩=en1 at HLD HD HX
 generalize Q7.enc ⟨ust,_,_,_,_,_,_,_,_⟩=ue at HEN HX
 generalize zstr.toNat ^^^ ustr.toNat=xr at HTP HXO HBO
 have B0:=hf.bag hb hM
 dsimp only at B0
 have B:=B0.add (tE b1 b2 o1 o2) ⟨h1,h2,hG,hTZ⟩ (fun x hx=>by simp at hx;omega) (fun i x hx hm=>by
  rcases i with _|_|i
  · simp [gt] at hx hm;omega
  · simp [gt] at hx hm;omega
  · simp [gt,Th.nil] at hm) (fun h=>by cases h)
 simp only [List.cons_append,List.nil_append] at B
 clear B0
 clear hb hf h1 h2 hM pp hG hTZ h2p
 have hcase:(zst≠3∧(zst != 3)=true)∨(zst=3∧zso≠gw∧(zso != gw)=true)∨(zst=3∧zso=gw∧zgen≠ggen∧(zgen != ggen)=true)∨(zst=3∧zso=gw∧zgen=ggen):=by simp;omega
 go_in
 go_wp2_with fail
 refine rg B fun _ B=> ?_
 iterate 8 refine tb ?_
 refine to fun K hK=> ?_
 go_simp
 refine (HSL.out _).mono ?_
 rintro e w1 ⟨rfl,f⟩
 replace B:=B.tm f
 go_wp2_with fail
 refine bk hK ?_
 clear hK K
 try go_frame
 refine tb ?_
 refine wpAnyH_done (by decide+kernel) ?_ _
 have hpn:¬cell<0:=Lb
 go_wp2_with fail
 refine (HLD.out _ (B.g 1)).mono ?_
 rintro e w2 ⟨rfl,h,f⟩
 replace B:=B.M h f
 have q:=B.q 0;have v:=B.u 0
 go_wp2_with fail
 clear q v
 generalize hw:World.setCell _ _ _=w3
 replace B:=(B.s 0).e hw
 refine (HD.out _ (B.g 2).2.2.1).mono ?_
 rintro e w4 ⟨rfl,f⟩
 replace B:=B.tm f
 go_wp2_with fail
 generalize hb:(World.heap _).size=b,hw:World.alloc _ _=w5
 replace B:=B.al hw hb
 rcases hcase with ⟨d1,d2⟩|⟨rfl,d1,d2⟩|⟨rfl,rfl,d1,d2⟩|⟨rfl,rfl,rfl⟩
 all_goals
  refine rg B fun _ B=> ?_
  repeat first|refine tb ?_|refine tv ?_
  refine wpAnyH_done (by decide+kernel) ?_ _
 iterate 3
  · go_wp2_with fail
    refine (U5 (B.tk 3) 2).mono ?_
    rintro e w3 ⟨rfl,B⟩
    go_wp2
    exact Q8k
 go_wp2_with fail
 refine rg B fun _ B=> ?_
 iterate 5 refine tb ?_
 refine wpAnyH_ready (rs:=[5,9]) (by kernel_rfl) Lc ?_
 refine AllReadyH.cons (o:=_) rfl (fun K hK=> ?_) (AllReadyH.cons (o:=_) rfl (fun K hK=> ?_) AllReadyH.nil)
 all_goals
  simp only [List.getElem_toArray,List.getElem_cons_succ,List.getElem_cons_zero]
  go_simp
  first
   |(refine (HBE.out Lc _ (B.g 2).1 (B.g 2).2.1 (B.g 2).2.2.1).mono ?_
     rintro e w6 ⟨rfl,f⟩
     replace B:=B.tm f
     go_wp2_with fail
     refine bk hK ?_
     clear hK K
     try go_frame
     refine tj 6 ?_
     refine tj 7 ?_
     refine tj 8 ?_
     refine tc 9 fun K hK=> ?_
     go_simp
     generalize hb:(World.heap _).size=b7,hw:World.alloc _ _=w7
     replace B:=B.al hw hb
     refine bk hK ?_
     clear hK K
     try go_frame)
   |(generalize hb:(World.heap _).size=b7,hw:World.alloc _ _=w7
     replace B:=B.al hw hb
     refine bk hK ?_
     clear hK K
     try go_frame
     refine tc 5 fun K hK=> ?_
     go_simp
     refine (HBE.out Lc _ (B.g 2).1 (B.g 2).2.1 (B.g 2).2.2.1).mono ?_
     rintro e w6 ⟨rfl,f⟩
     replace B:=B.tm f
     go_wp2_with fail
     refine bk hK ?_
     clear hK K
     try go_frame
     refine tj 6 ?_
     refine tj 7 ?_
     refine tj 8 ?_)
  have q:=B.q 4;have v:=B.u 4
  refine to fun K hK=> ?_
  go_simp
  clear q v
  generalize hw8:World.setCell _ _ _=w8
  replace B:=(((((((((B.s 4).s 4).s 4).s 4).s 4).s 4).s 4).s 4).s 4).e hw8
  refine bk hK ?_
  clear hK K
  try go_frame
  refine tb ?_
  refine wpAnyH_done (by decide+kernel) ?_ _
  by_cases he:en=0
  · subst he
    have n1:¬b=p:=by simpa [gt] using B.nd 3 0 (by decide) b (by simp [gt])
    have n2:¬b7=p:=by simpa [gt] using B.nd 4 0 (by decide) b7 (by simp [gt])
    have n3:¬p=b:=fun e=>n1 e.symm
    have n4:¬p=b7:=fun e=>n2 e.symm
    have hbo:=HBO.out Lc
    have q4:=B.q 4
    go_wp2_with fail
    refine (HEN.out Lc _ (B.g 2).2.2.1).mono ?_
    rintro e w9 ⟨rfl,f⟩
    replace B:=B.tm f
    clear q4
    have q:=B.q 0;have v:=B.u 0;have q3:=B.q 3;have q4:=B.q 4
    go_wp2_with fail
    rw [HXO.out Lc]
    clear q v q3 q4
    generalize hw10:World.setCell _ _ _=w10
    replace B:=(B.s 0).e hw10
    refine (HTP.out Lc _ (B.g 2).2.2.2).mono ?_
    rintro e w11 ⟨rfl,f⟩
    replace B:=B.tm f
    have q:=B.q 0;have v:=B.u 0
    go_wp2_with fail
    clear q v
    generalize hw12:World.setCell _ _ _=w12
    replace B:=(((B.s 0).s 0).e hw12).tk 3
    exact Q8k
  · have hne:(en != 0)=true:=by simp [he]
    go_wp2_with fail
    refine (U5 (B.tk 3) en).mono ?_
    rintro e w3 ⟨rfl,B⟩
    go_wp2
    exact Q8k
def Gj (w:World) (p b1 b2 pm qm:Nat) (fn:FuncId) (c:Q0) (n:Int) (x:QN×List Int) (e:Ending) (w':World):Prop:=
 e=.returned (.bool (decide (x.1.st=3)))∧Vn w' p b1 b2 fn c x.1∧Qm w' pm qm x.2 (n+1)∧Fr [p,pm,qm] w w'
theorem Q8h (c:Q0) (g:QN) (M:List Int) (hst:g.st=0):QA c g M=(if Q6 M 0=2 then {g with st:=1}.end_ 5 else {g with st:=1},M):=by
 unfold QA;rw [if_pos hst]
theorem Q8g (c:Q0) (g:QN) (M:List Int) (hst:g.st=2):QA c g M=(if Qx M (Q5 c g.i) g.word then ({g with st:=1}.end_ 0,QI M (Q5 c g.i) g.word g.next) else ({g with st:=1},M)):=by
 unfold QA;rw [if_neg Lb,if_neg Lb,if_pos hst]
theorem Z0s {P:Prop} (h:P:=by
 go_wp2
 go_ret
 have hx:=HX.out
 simp [*] at hx
 subst hx
 exact ⟨rfl,B.g 0,Qm.mono (B.g 1) Lb,B.fr⟩):P:=h
theorem Q22 (w:World) (p b1 b2 pm qm:Nat) (fn:FuncId) (c:Q0) (g:QN) (M:List Int) (n:Int) (hb:Vn w p b1 b2 fn c g) (hf:Wd w p b1 b2 pm qm) (hM:Qm w pm qm M n) (hn:n≤1000000000) (hst:g.st=0):
 Calls Tryz.prog 150 #[.pointer (some ⟨p,0,none⟩),.pointer (some ⟨pm,0,none⟩)] w (Gj w p b1 b2 pm qm fn c n (QA c g M)):=by
 have HL:=hid fun w' h=>Za w' pm qm M n 0 h hn
 generalize hX:QA c g M=X
 rw [Q8h c g M hst] at hX
 have B:=hf.bag hb hM
 have HX:=hid hX
 clear hX hf hM hb
 obtain ⟨wo,sl,sst,wa,us⟩:=c
 obtain ⟨gop,gw,gi,ggen,gn,gst,gword,gnext,gstr,ge⟩:=g
 dsimp only at hst B
 subst hst
 have q:=B.q 0;have u:=B.u 0
 go_in
 go_wp2_with fail
 clear q u
 generalize hw:World.setCell _ _ _=w1
 replace B:=(B.s 0).e hw
 refine (HL.out _ (B.g 1)).mono ?_
 rintro e w2 ⟨rfl,h,f⟩
 replace B:=B.M h f
 by_cases h2:Q6 M 0=2
 · go_wp2_with fail
   refine (U5 B 5).mono ?_
   rintro e w3 ⟨rfl,B⟩
   have q:=B.q 0
   exact Z0s
 · have q:=B.q 0
   exact Z0s
theorem Q21 (w:World) (p b1 b2 pm qm:Nat) (fn:FuncId) (c:Q0) (g:QN) (M:List Int) (n:Int) (hb:Vn w p b1 b2 fn c g) (hf:Wd w p b1 b2 pm qm) (hM:Qm w pm qm M n) (hn:n≤1000000000) (hst:g.st=2) (hc:c.fits):
 Calls Tryz.prog 150 #[.pointer (some ⟨p,0,none⟩),.pointer (some ⟨pm,0,none⟩)] w (Gj w p b1 b2 pm qm fn c n (QA c g M)):=by
 have HSL:=hid fun w'=>J9 w' c g.i hc
 have HC:=hid fun w' h=>Uw w' pm qm M n (Q5 c g.i) g.word g.next h hn
 have hno:=fun h=>K8 (M:=M) (i:=Q5 c g.i) (o:=g.word) (v:=g.next) h
 generalize hX:QA c g M=X
 rw [Q8g c g M hst] at hX
 have B:=hf.bag hb hM
 have HX:=hid hX
 clear hX hf hM hb
 obtain ⟨wo,sl,sst,wa,us⟩:=c
 obtain ⟨gop,gw,gi,ggen,gn,gst,gword,gnext,gstr,ge⟩:=g
 dsimp only [Q0.val] at hst B HSL HC hno
 subst hst
 have q:=B.q 0;have u:=B.u 0
 go_in
 go_wp2_with fail
 clear q u
 generalize hw:World.setCell _ _ _=w1
 replace B:=(B.s 0).e hw
 refine rgx [0] B fun _ B=> ?_
 iterate 9 refine tb ?_
 refine tj 10 ?_
 refine tj 11 ?_
 refine tj 12 ?_
 refine tj 13 ?_
 refine tj 14 ?_
 refine tj 15 ?_
 refine tj 16 ?_
 refine tj 17 ?_
 refine tc 9 fun K hK=> ?_
 go_simp
 refine (HSL.out _).mono ?_
 rintro e w2 ⟨rfl,f⟩
 replace B:=B.tm f
 go_wp2_with fail
 refine bk hK ?_
 clear hK K
 try go_frame
 refine to fun K hK=> ?_
 go_simp
 refine (HC.out _ (B.g 1)).mono ?_
 rintro e w3 ⟨rfl,h,f⟩
 replace B:=B.M h f
 go_wp2_with fail
 refine bk hK ?_
 clear hK K
 try go_frame
 refine wpAnyH_done (by decide+kernel) ?_ _
 rcases (by cases Qx M (Q5 ⟨wo,sl,sst,wa,us⟩ gi) gword<;>simp:Qx M (Q5 ⟨wo,sl,sst,wa,us⟩ gi) gword=true∨Qx M (Q5 ⟨wo,sl,sst,wa,us⟩ gi) gword=false) with h2|h2
 · rw [h2]
   go_wp2_with fail
   refine (U5 B 0).mono ?_
   rintro e w3 ⟨rfl,B⟩
   have q:=B.q 0
   exact Z0s
 · rw [h2]
   rw [hno h2] at B
   have q:=B.q 0
   exact Z0s
theorem Q23 (w:World) (p b1 b2 pm qm:Nat) (fn:FuncId) (c:Q0) (g:QN) (M:List Int) (n:Int) (X:QN) (hb:Vn w p b1 b2 fn c g) (hst:g.st=1)
 (hC:Calls Tryz.prog 212 #[.pointer (some ⟨p,0,none⟩),.pointer (some ⟨pm,0,none⟩)] w (Q34 w p b1 b2 pm qm fn c n X M)):
 Calls Tryz.prog 150 #[.pointer (some ⟨p,0,none⟩),.pointer (some ⟨pm,0,none⟩)] w (Gj w p b1 b2 pm qm fn c n (X,M)):=by
 have HC:=hid hC
 clear hC
 obtain ⟨wo,sl,sst,wa,us⟩:=c
 obtain ⟨gop,gw,gi,ggen,gn,gst,gword,gnext,gstr,ge⟩:=g
 unfold Vn at hb
 dsimp only at hst hb
 subst hst
 have q8:=cl 8 hb
 clear hb
 go_in
 go_wp2_with fail
 refine HC.out.mono ?_
 rintro e w2 ⟨rfl,hb2,hm2,f2⟩
 have HX:RowKit.Hid (Gj w p b1 b2 pm qm fn ⟨wo,sl,sst,wa,us⟩ n (X,M) (.returned (.bool (decide (X.st=3)))) w2):=hid ⟨rfl,hb2,hm2,f2⟩
 clear hm2 f2
 unfold Vn at hb2
 generalize X.st=xs at HX hb2
 have r8:=cl 8 hb2
 clear hb2 q8
 by_cases h4:xs=3
 · subst h4
   go_wp2
   go_ret
   exact HX.out
 · rw [decide_eq_false h4] at HX
   go_wp2
   go_ret
   first
   |exact HX.out
   |(rw [show (xs==3)=false by simp [h4]];exact HX.out)
def Gl (w:World) (b1 b2:Nat) (fn:FuncId) (c:Q0) (g:QN):Prop:=w.heap[b1]?=some (.cells #[.int .i64 g.w] 3 (0,0))∧
 (if g.opens=true then fn=152∧w.heap[b2]?=some (.cells #[.int .i64 c.wo,.int .i64 c.sl,.int .i64 c.st,.int .i64 c.wa,.int .i64 c.us] 30 (0,0)) else fn=153∧w.heap[b2]?=some (.cells #[.int .i64 g.n] 3 (0,0)))
theorem Gl.ov {w w':World} {b1 b2:Nat} {fn:FuncId} {c:Q0} {g:QN} (h:Gl w b1 b2 fn c g) {S:List Nat} (f:Fr S w w') (h1:b1∉S) (h2:b2∉S):Gl w' b1 b2 fn c g:=by
 obtain ⟨a,b⟩:=h
 refine ⟨f.at a h1, ?_⟩
 split at b
 · rename_i hg;rw [if_pos hg];exact ⟨b.1,f.at b.2 h2⟩
 · rename_i hg;rw [if_neg hg];exact ⟨b.1,f.at b.2 h2⟩
theorem Q5z {c:Q0} {g:QN} {s:Q7} (hs:s.right) (h:(Gi c g s).2=0):(Gi c g s).1.right:=by
 unfold Gi Q5A Q1z at*
 split at h
 · rename_i hg
   rw [if_pos hg]
   split at h
   · cases h
   · rename_i hb
     rw [if_neg hb]
     cases hn:Qk s 14 g.w c.st with
     |none=>rw [hn] at h;cases h
     |some u=>exact JF hs hn
 · rename_i hg
   rw [if_neg hg]
   cases hn:Qk s 15 g.w g.n with
   |none=>rw [hn] at h;cases h
   |some u=>exact JF hs hn
theorem Q9e {w:World} {b1 b2:Nat} {fn:FuncId} {c:Q0} {g:QN} (h:Gl w b1 b2 fn c g) (o0:0≤g.w) (o1:g.w≤15):∃O1 O2,w.heap[b1]?=some O1∧w.heap[b2]?=some O2∧(∀(args:Array Value) (wx:World),(callFunc fn args).run Tryz.prog wx=.ok (.enter fn args) wx)∧∀s:Q7,s.right→Q7N fn b1 b2 O1 O2 s (Gi c g s):=by
 obtain ⟨a,b⟩:=h
 unfold Gi
 split at b
 · obtain ⟨rfl,b⟩:=b
   rename_i hg
   refine ⟨_,_,a,b,fun args wx=>Qu Tryz.func152 (by kernel_rfl) rfl args wx,fun s hs w' e1 e2 hG=> ?_⟩
   rw [if_pos hg]
   exact Q26 w' s c g.w b1 b2 hs o0 o1 e1 e2 hG
 · obtain ⟨rfl,b⟩:=b
   rename_i hg
   refine ⟨_,_,a,b,fun args wx=>Qu Tryz.func153 (by kernel_rfl) rfl args wx,fun s hs w' e1 e2 hG=> ?_⟩
   rw [if_neg hg]
   exact Q24 w' s g.n g.w b1 b2 hs o0 o1 e1 e2 hG
theorem sn_mem (c:Q0) (g:QN) (M:List Int) (hst:g.st=1):QA c g M=((QA c g M).1,M):=by
 rw [Eo c g M hst]
structure QN.ok (g:QN):Prop where
 s0:0≤g.st
 s1:g.st≤3
 w0:0≤g.w
 w1:g.w≤15
theorem Q4a (w:World) (p b1 b2 pm qm:Nat) (fn:FuncId) (c:Q0) (g:QN) (M:List Int) (n:Int) (hb:Vn w p b1 b2 fn c g) (hf:Wd w p b1 b2 pm qm) (hcp:Gl w b1 b2 fn c g) (hM:Qm w pm qm M n) (hn:n≤1000000000) (hok:g.ok) (hlive:g.st≠3) (hS:X5 c M) (hc:c.fits) (hG:Qe w 0 Qc) (hTZ:Yj w) (h2p:2<p∧2<pm∧2<qm):
 Calls Tryz.prog 150 #[.pointer (some ⟨p,0,none⟩),.pointer (some ⟨pm,0,none⟩)] w (Gj w p b1 b2 pm qm fn c n (QA c g M)):=by
 have h0:=hok.s0;have h1:=hok.s1
 rcases (by omega:g.st=0∨g.st=1∨g.st=2) with h|h|h
 · exact Q22 w p b1 b2 pm qm fn c g M n hb hf hM hn h
 · rw [sn_mem c g M h]
   refine Q23 w p b1 b2 pm qm fn c g M n _ hb h ?_
   obtain ⟨O1,O2,e1,e2,hcf,hbec⟩:=Q9e hcp hok.w0 hok.w1
   by_cases hneg:Q5 c g.i<0
   · exact Ep w p b1 b2 pm qm fn O1 O2 c g M n hb hf e1 e2 hM hn h hc hneg
   · obtain ⟨a,b,e⟩:=Gt hc (by omega:0≤Q5 c g.i)
     obtain ⟨s,hs,hld⟩:=hS g.i a b
     exact Er w p b1 b2 pm qm fn O1 O2 c g M n hb hf e1 e2 hM hn s (Gi c g s).1 (Gi c g s).2 h hc Lb hs (by rw [e];exact hld) rfl (fun _=>hbec s hs) (Q5z hs) hcf hG hTZ h2p
 · exact Q21 w p b1 b2 pm qm fn c g M n hb hf hM hn h hc
theorem Q0y (w:World) (p b1 b2:Nat) (fn:FuncId) (c:Q0) (g:QN) (hb:Vn w p b1 b2 fn c g) (hst:g.st=3):
 Calls Tryz.prog 151 #[.pointer (some ⟨p,0,none⟩)] w fun e w'=>e=.returned (.tuple #[.int .i64 g.e,.int .i64 (if g.e=0 then g.stream else 0),.bool true])∧Fr [] w w':=by
 unfold Vn at hb
 rw [hst] at hb
 have q8:=cl 8 hb;have q13:=cl 13 hb;have q11:=cl 11 hb
 clear hb
 generalize g.e=en at*
 generalize g.stream=gs at*
 by_cases he:en=0
 · subst he
   exact Z0H
 · rw [if_neg he]
   have hen:(en != 0)=true:=by simp [he]
   go_in
   go_wp2
   go_ret3
   exact ⟨rfl,Fr.refl [] w⟩
def SNew (w:World) (c:Q0) (g:QN) (e:Ending) (w':World):Prop:=∃p b1 b2 fn,e=.returned (.pointer (some ⟨p,0,none⟩))∧w.heap.size≤p∧w.heap.size≤b1∧w.heap.size≤b2∧p≠b1∧p≠b2∧b1≠b2∧Vn w' p b1 b2 fn c g∧Gl w' b1 b2 fn c g∧Fr [] w w'
theorem Q4d (w:World) (c:Q0) (who i gen n:Int):Calls Tryz.prog 101 #[c.val,.int .i64 who,.int .i64 i,.int .i64 gen] w (SNew w c (JI true who i gen n)):=by
 obtain ⟨wo,sl,sst,wa,us⟩:=c
 unfold Q0.val
 dsimp only
 have h0:=heap_alloc_new w (.cells #[.int .i64 wo,.int .i64 sl,.int .i64 sst,.int .i64 wa,.int .i64 us] 30 (0,0))
 have h1:=heap_alloc_new (w.alloc (.cells #[.int .i64 wo,.int .i64 sl,.int .i64 sst,.int .i64 wa,.int .i64 us] 30 (0,0))) (.cells #[.int .i64 who] 3 (0,0))
 have h2:=heap_alloc_new ((w.alloc (.cells #[.int .i64 wo,.int .i64 sl,.int .i64 sst,.int .i64 wa,.int .i64 us] 30 (0,0))).alloc (.cells #[.int .i64 who] 3 (0,0))) (.cells #[.int .i64 wo,.int .i64 sl,.int .i64 sst,.int .i64 wa,.int .i64 us,.int .i64 who,.int .i64 i,.int .i64 gen,.int .i64 0,.int .i64 0,.int .i64 0,.int .i64 0,.func (.func 152) #[] #[.pointer (some ⟨w.heap.size+1,0,none⟩),.pointer (some ⟨w.heap.size,0,none⟩)],.int .i64 0] 199 (0,0))
 replace h0:=Qh h0 (.cells #[.int .i64 who] 3 (0,0))
 replace h0:=Qh h0 (.cells #[.int .i64 wo,.int .i64 sl,.int .i64 sst,.int .i64 wa,.int .i64 us,.int .i64 who,.int .i64 i,.int .i64 gen,.int .i64 0,.int .i64 0,.int .i64 0,.int .i64 0,.func (.func 152) #[] #[.pointer (some ⟨w.heap.size+1,0,none⟩),.pointer (some ⟨w.heap.size,0,none⟩)],.int .i64 0] 199 (0,0))
 replace h1:=Qh h1 (.cells #[.int .i64 wo,.int .i64 sl,.int .i64 sst,.int .i64 wa,.int .i64 us,.int .i64 who,.int .i64 i,.int .i64 gen,.int .i64 0,.int .i64 0,.int .i64 0,.int .i64 0,.func (.func 152) #[] #[.pointer (some ⟨w.heap.size+1,0,none⟩),.pointer (some ⟨w.heap.size,0,none⟩)],.int .i64 0] 199 (0,0))
 have hF:=(((Fr.refl [] w).alloc (.cells #[.int .i64 wo,.int .i64 sl,.int .i64 sst,.int .i64 wa,.int .i64 us] 30 (0,0))).alloc (.cells #[.int .i64 who] 3 (0,0))).alloc (.cells #[.int .i64 wo,.int .i64 sl,.int .i64 sst,.int .i64 wa,.int .i64 us,.int .i64 who,.int .i64 i,.int .i64 gen,.int .i64 0,.int .i64 0,.int .i64 0,.int .i64 0,.func (.func 152) #[] #[.pointer (some ⟨w.heap.size+1,0,none⟩),.pointer (some ⟨w.heap.size,0,none⟩)],.int .i64 0] 199 (0,0))
 simp only [World.size_alloc] at h1 h2
 have HX:=hid (And.intro h2 (And.intro h1 (And.intro h0 hF)))
 clear h0 h1 h2 hF
 go_in
 go_wp2
 go_ret
 exact ⟨_,w.heap.size+1,w.heap.size,152,rfl,Lb,Lb,Lb,Lb,Lb,Lb,HX.out.1,⟨HX.out.2.1,by rw [if_pos (show (JI true who i gen n).opens=true from rfl)];exact ⟨rfl,HX.out.2.2.1⟩⟩,HX.out.2.2.2⟩
theorem Q4b (w:World) (c:Q0) (who i gen n:Int):Calls Tryz.prog 103 #[c.val,.int .i64 who,.int .i64 i,.int .i64 gen,.int .i64 n] w (SNew w c (JI false who i gen n)):=by
 obtain ⟨wo,sl,sst,wa,us⟩:=c
 unfold Q0.val
 dsimp only
 have h0:=heap_alloc_new w (.cells #[.int .i64 wo,.int .i64 sl,.int .i64 sst,.int .i64 wa,.int .i64 us] 30 (0,0))
 have h1:=heap_alloc_new (w.alloc (.cells #[.int .i64 wo,.int .i64 sl,.int .i64 sst,.int .i64 wa,.int .i64 us] 30 (0,0))) (.cells #[.int .i64 who] 3 (0,0))
 have h2:=heap_alloc_new ((w.alloc (.cells #[.int .i64 wo,.int .i64 sl,.int .i64 sst,.int .i64 wa,.int .i64 us] 30 (0,0))).alloc (.cells #[.int .i64 who] 3 (0,0))) (.cells #[.int .i64 n] 3 (0,0))
 have h3:=heap_alloc_new (((w.alloc (.cells #[.int .i64 wo,.int .i64 sl,.int .i64 sst,.int .i64 wa,.int .i64 us] 30 (0,0))).alloc (.cells #[.int .i64 who] 3 (0,0))).alloc (.cells #[.int .i64 n] 3 (0,0))) (.cells #[.int .i64 wo,.int .i64 sl,.int .i64 sst,.int .i64 wa,.int .i64 us,.int .i64 who,.int .i64 i,.int .i64 gen,.int .i64 0,.int .i64 0,.int .i64 0,.int .i64 0,.func (.func 153) #[] #[.pointer (some ⟨w.heap.size+1,0,none⟩),.pointer (some ⟨w.heap.size+1+1,0,none⟩)],.int .i64 0] 199 (0,0))
 replace h0:=Qh h0 (.cells #[.int .i64 who] 3 (0,0))
 replace h0:=Qh h0 (.cells #[.int .i64 n] 3 (0,0))
 replace h0:=Qh h0 (.cells #[.int .i64 wo,.int .i64 sl,.int .i64 sst,.int .i64 wa,.int .i64 us,.int .i64 who,.int .i64 i,.int .i64 gen,.int .i64 0,.int .i64 0,.int .i64 0,.int .i64 0,.func (.func 153) #[] #[.pointer (some ⟨w.heap.size+1,0,none⟩),.pointer (some ⟨w.heap.size+1+1,0,none⟩)],.int .i64 0] 199 (0,0))
 replace h1:=Qh h1 (.cells #[.int .i64 n] 3 (0,0))
 replace h1:=Qh h1 (.cells #[.int .i64 wo,.int .i64 sl,.int .i64 sst,.int .i64 wa,.int .i64 us,.int .i64 who,.int .i64 i,.int .i64 gen,.int .i64 0,.int .i64 0,.int .i64 0,.int .i64 0,.func (.func 153) #[] #[.pointer (some ⟨w.heap.size+1,0,none⟩),.pointer (some ⟨w.heap.size+1+1,0,none⟩)],.int .i64 0] 199 (0,0))
 replace h2:=Qh h2 (.cells #[.int .i64 wo,.int .i64 sl,.int .i64 sst,.int .i64 wa,.int .i64 us,.int .i64 who,.int .i64 i,.int .i64 gen,.int .i64 0,.int .i64 0,.int .i64 0,.int .i64 0,.func (.func 153) #[] #[.pointer (some ⟨w.heap.size+1,0,none⟩),.pointer (some ⟨w.heap.size+1+1,0,none⟩)],.int .i64 0] 199 (0,0))
 have hF:=((((Fr.refl [] w).alloc (.cells #[.int .i64 wo,.int .i64 sl,.int .i64 sst,.int .i64 wa,.int .i64 us] 30 (0,0))).alloc (.cells #[.int .i64 who] 3 (0,0))).alloc (.cells #[.int .i64 n] 3 (0,0))).alloc (.cells #[.int .i64 wo,.int .i64 sl,.int .i64 sst,.int .i64 wa,.int .i64 us,.int .i64 who,.int .i64 i,.int .i64 gen,.int .i64 0,.int .i64 0,.int .i64 0,.int .i64 0,.func (.func 153) #[] #[.pointer (some ⟨w.heap.size+1,0,none⟩),.pointer (some ⟨w.heap.size+1+1,0,none⟩)],.int .i64 0] 199 (0,0))
 simp only [World.size_alloc] at h1 h2 h3
 have HX:=hid (And.intro h3 (And.intro h1 (And.intro h2 hF)))
 clear h0 h1 h2 h3 hF
 go_in
 go_wp2
 go_ret
 exact ⟨_,w.heap.size+1,w.heap.size+1+1,153,rfl,Lb,Lb,Lb,Lb,Lb,Lb,HX.out.1,⟨HX.out.2.1,by rw [if_neg (by simp [JI])];exact ⟨rfl,HX.out.2.2.1⟩⟩,HX.out.2.2.2⟩
end
section
open Go.RowKit
def mkW (W:World) (n:Nat):World:=W.alloc (.cells (madeCells #[Value.int .i64 0] n) 3)
theorem Q5p (w:World) (c:Q0) (i:Int) (hc:c.fits) (h0:0≤i) (h1:i<c.sl):Calls Tryz.prog 42 #[c.val,.int .i64 i] w fun e w'=>e=.returned (.int .i64 (c.slot i))∧Fr [] w w':=by
 have h:=J9 w c i hc
 unfold Q5 at h
 rwa [if_pos ⟨h0,h1⟩] at h
def V4 (w:World) (v:Value) (L:List Int):Prop:=w.ownsRow 0 3 1 v L.length (L.map (Value.int .i64))
theorem V4.ints {w:World} {v:Value} {L:List Int} (h:V4 w v L):∃(g:Option Addr) (c:Nat),v=.slice g L.length c∧XM w g L∧L.length≤c:=by
 rcases h.2 with ⟨rfl,hn⟩|⟨g,cap,cur,rfl,hb,hg,h1,h2,h3,h4⟩
 · have:L=[]:=List.eq_nil_of_length_eq_zero hn
   subst this
   exact ⟨none,0,rfl,XM.empty _ _,Nat.le_refl _⟩
 · exact ⟨_,cap,rfl,XM.Q8I h,h1⟩
theorem V4.keep {w w':World} {v:Value} {L:List Int} (h:V4 w v L) (hs:∀b,v.ownBlock=some b→w'.heap[b]?=w.heap[b]?):V4 w' v L:=by
 refine ⟨h.1, ?_⟩
 rcases h.2 with hn|⟨g,cap,cur,rfl,hb,hgg,rest⟩
 · exact .inl hn
 · exact .inr ⟨g,cap,cur,rfl,hb,by rw [hs g rfl];exact hgg,rest⟩
theorem V4.fr {w w':World} {v:Value} {L:List Int} {S:List Nat} (h:V4 w v L) (f:Fr S w w') (hs:∀b,v.ownBlock=some b→b∉S):V4 w' v L:=
 h.keep fun b hb=>f.block b (h.lt b hb).2 (hs b hb)
structure Yz (w:World) (p:Nat) (c:Q0) (vR vL:Value) (R La:List Int) (n:Int) (d:Bool):Prop where
 b:w.heap[p]?=some (.cells #[.int .i64 c.wo,.int .i64 c.sl,.int .i64 c.st,.int .i64 c.wa,.int .i64 c.us,vR,vL,.int .i64 n,.bool d] 165)
 r:V4 w vR R
 l:V4 w vL La
 hr:vR.ownBlock≠some p
 hl:vL.ownBlock≠some p
 hrl:∀b,vR.ownBlock=some b→vL.ownBlock≠some b
theorem Yz.fr {w w':World} {p:Nat} {c:Q0} {vR vL:Value} {R La:List Int} {n:Int} {d:Bool} {S:List Nat} (h:Yz w p c vR vL R La n d) (f:Fr S w w') (hp:p∉S) (h1:∀b,vR.ownBlock=some b→b∉S) (h2:∀b,vL.ownBlock=some b→b∉S):Yz w' p c vR vL R La n d:=
 ⟨f.at h.b hp,h.r.fr f h1,h.l.fr f h2,h.hr,h.hl,h.hrl⟩
theorem EM {w:World} {o:Obj} {b:Nat} (h:b=w.heap.size):(w.alloc o).heap[b]?=some o:=by subst h;exact heap_alloc_new w o
def Vo (w:World) (L:List Int) (e:Ending) (w':World):Prop:=∃v,e=.returned v∧V4 w' v L∧(∀b,v.ownBlock=some b→w.heap.size≤b)∧Fr [] w w'
theorem Q3u (w:World) (g:Option Addr) (c:Nat) (L:List Int) (hL:L.length≤10000) (h0:L≠[]) (hI:XM w g L):Calls Tryz.prog 111 #[.slice g L.length c] w (Vo w L):=by
 obtain ⟨b,o,rfl,hc⟩:=hI.base h0
 obtain ⟨n,hn⟩:∃n,n=L.length:=⟨_,rfl⟩
 rw [←hn] at hL ⊢
 have HN:=Lib.hid hn
 have hmk:∀W:World,(Instr.makeSlice 44 (.int .i64 (n:Int)) (.int .i64 (n:Int))).run Tryz.prog W=.ok (.slice (some ⟨W.heap.size,0,none⟩) n n) (mkW W n):=run_make_row' (P:=Tryz.prog) 44 3 (.int .i64 0) 8 Tryz.underlying44 VO rfl .i64 .i64 n Lb Lb
 have hfr:Fr [] w (mkW w n):=(Fr.refl [] w).alloc _
 have hbk:(mkW w n).heap[w.heap.size]?=some (.cells (madeCells #[Value.int .i64 0] n) 3):=heap_alloc_new w _
 have hsrc:∀j v,(L.map (Value.int .i64))[j]?=some v→(mkW w n).cell? ((⟨b,o,none⟩:Addr).add j)=some v:=fun j v hv=>by
  rw [List.getElem?_map] at hv
  cases hj:L[j]? with
  |none=>rw [hj] at hv;cases hv
  |some z=>
   rw [hj] at hv
   simp only [Option.map_some,Option.some.injEq] at hv
   subst hv
   rw [Addr.add_lit]
   exact hfr.cell (hc j z hj) Lc
 have HFR:=Lib.hid hfr;have HBK:=Lib.hid hbk;have HSRC:=Lib.hid hsrc
 clear hfr hbk hsrc hc hI h0 hn
 have hcp:=run_copy_row (P:=Tryz.prog) (mkW w n) 44 44 3 3 w.heap.size 0 n n ⟨b,o,none⟩ n c _ _ (L.map (Value.int .i64)) Tryz.underlying44 (by kernel_rfl) HBK.out (by rw [List.length_map];have:=HN.out;show L.length=min n n;omega) HSRC.out (by rw [List.length_map,size_madeCells];have:=HN.out;omega) (fun v hv=>by obtain ⟨z,_,rfl⟩:=List.mem_map.1 hv;rfl)
 have hlen:(L.map (Value.int .i64)).length=n:=by rw [List.length_map,HN.out]
 have hrow:=setRow_heap (mkW w n) w.heap.size _ ((madeCells #[Value.int .i64 0] n).toList.take 0++L.map (Value.int .i64)++(madeCells #[Value.int .i64 0] n).toList.drop (0+(L.map (Value.int .i64)).length)).toArray 3 _ HBK.out
 have hfin:Fr [] w ((mkW w n).setRow w.heap.size ((madeCells #[Value.int .i64 0] n).toList.take 0++L.map (Value.int .i64)++(madeCells #[Value.int .i64 0] n).toList.drop (0+(L.map (Value.int .i64)).length)).toArray):=
  ⟨HFR.out.os,HFR.out.tape,HFR.out.output,by simpa [World.setRow] using HFR.out.size,fun k hk hn=>by rw [setRow_other _ _ _ _ Lb];exact HFR.out.block k hk hn⟩
 generalize (mkW w n).setRow w.heap.size ((madeCells #[Value.int .i64 0] n).toList.take 0++L.map (Value.int .i64)++(madeCells #[Value.int .i64 0] n).toList.drop (0+(L.map (Value.int .i64)).length)).toArray=w5 at hrow hfin hcp
 have hown:V4 w5 (.slice (some ⟨w.heap.size,0,none⟩) n n) L:=by
  unfold V4
  rw [←HN.out]
  refine ⟨by simpa using hlen,.inr ⟨w.heap.size,n,_,rfl,Nat.zero_le _,hrow,Nat.le_refl _,by unfold maxLen;omega, ?_, ?_⟩⟩
  · simp [size_madeCells,←HN.out]
  · simp only [List.take_zero,List.nil_append,Nat.mul_one]
    rw [List.take_append_of_le_length Lb,List.take_of_length_le Lb]
 have HO:=Lib.hid hown;have HF:=Lib.hid hfin
 clear hrow hfin hown hlen
 go_in
 go_wp2
 go_ret
 exact ⟨_,rfl,HO.out,fun b hb=>by simp [Value.ownBlock] at hb;omega,HF.out⟩
theorem Q0h (w:World) (c:Q0):Calls Tryz.prog 165 #[c.val] w fun e w'=>∃p,e=.returned (.pointer (some ⟨p,0,none⟩))∧w.heap.size≤p∧Yz w' p c (.slice none 0 0) (.slice none 0 0) [] [] 0 false∧Fr [] w w':=by
 obtain ⟨wo,sl,st,wa,us⟩:=c
 unfold Q0.val
 go_in
 go_wp2
 go_ret
 exact ⟨_,rfl,Lb,⟨EM Lc,World.ownsRow_nil _ _ _ _,World.ownsRow_nil _ _ _ _,by simp [Value.ownBlock],by simp [Value.ownBlock],by simp [Value.ownBlock]⟩,((Fr.refl [] w).alloc _).alloc _⟩
theorem WT (w:World) (p:Nat) (c:Q0) (vR vL:Value) (R La:List Int) (n:Int) (d:Bool) (h:Yz w p c vR vL R La n d) (hd:d=true→La≠[]) (hl:La.length≤10000):
 Calls Tryz.prog 77 #[.pointer (some ⟨p,0,none⟩)] w (Vo w (if d then La else [])):=by
 have q8:w.cell? ⟨p,8,none⟩=some (.bool d):=cell_of h.b rfl
 have q6:w.cell? ⟨p,6,none⟩=some vL:=cell_of h.b rfl
 cases d
 · clear h hd
   have HP:=Lib.hid (show Vo w [] (.returned (.slice none 0 0)) w from ⟨_,rfl,World.ownsRow_nil _ _ _ _,by simp [Value.ownBlock],Fr.refl _ _⟩)
   rw [if_neg Lc]
   go_in
   go_wp2
   go_ret
   exact HP.out
 · rw [if_pos rfl]
   obtain ⟨g,cap,rfl,hI, -⟩:=h.l.ints
   have HI:=Lib.hid hI;have HD:=Lib.hid (hd rfl)
   clear h hd hI
   go_in
   go_wp2_with fail
   refine (Q3u w g cap La hl HD.out HI.out).mono ?_
   rintro e w2 ⟨v,rfl,h1,h2,h3⟩
   have HP:=Lib.hid (show Vo w La (.returned v) w2 from ⟨v,rfl,h1,h2,h3⟩)
   clear h1 h2 h3
   go_wp2
   go_ret
   exact HP.out
end
end Go.Proofs.YtgjklfmnmljilaaGreatDoor
