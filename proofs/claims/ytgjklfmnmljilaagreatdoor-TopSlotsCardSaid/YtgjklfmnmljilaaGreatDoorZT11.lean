/- A part of the proof: TpC to Bg. -/
import Derived.Test.YtgjklfmnmljilaaGreatDoorZT03
import Derived.Test.YtgjklfmnmljilaaGreatDoorZT10
namespace Go.Proofs.YtgjklfmnmljilaaGreatDoor
set_option linter.unusedVariables false
set_option linter.unusedSimpArgs false
set_option linter.unusedSectionVars false
set_option linter.unnecessarySimpa false
set_option maxRecDepth 100000
set_option maxHeartbeats 8000000
section
open Go.RowKit Go.Shelf Go.Lib
attribute [local go_sem] Oper.semAt_some
def Xv (s:Q8) (own more:Int):Value:=.agg #[.int .i64 s.st,.int .i64 s.own,.int .i64 s.str,.bool s.br,.bool s.mkd,.int .i64 s.us,.int .i64 s.gen,.int .i64 s.ep,.int .i64 s.ver,.int .i64 own,.int .i64 more]
theorem set9 {w:World} {b t:Nat} {a0 a1 a2 a3 a4 a5 a6 a7 a8:Value} (h:w.heap[b]?=some (.cells #[a0,a1,a2,a3,a4,a5,a6,a7,a8] t (0,0))) (x0 x1 x2 x3 x4 x5 x6 x7 x8:Value):(((((((((w.setCell ⟨b,0,none⟩ x0).setCell ⟨b,1,none⟩ x1).setCell ⟨b,2,none⟩ x2).setCell ⟨b,3,none⟩ x3).setCell ⟨b,4,none⟩ x4).setCell ⟨b,5,none⟩ x5).setCell ⟨b,6,none⟩ x6).setCell ⟨b,7,none⟩ x7).setCell ⟨b,8,none⟩ x8).heap[b]?=some (.cells #[x0,x1,x2,x3,x4,x5,x6,x7,x8] t (0,0)):=by
 have h0:=heap_setCell_same (i:=0) h x0
 have h1:=heap_setCell_same (i:=1) h0 x1
 have h2:=heap_setCell_same (i:=2) h1 x2
 have h3:=heap_setCell_same (i:=3) h2 x3
 have h4:=heap_setCell_same (i:=4) h3 x4
 have h5:=heap_setCell_same (i:=5) h4 x5
 have h6:=heap_setCell_same (i:=6) h5 x6
 have h7:=heap_setCell_same (i:=7) h6 x7
 have h8:=heap_setCell_same (i:=8) h7 x8
 simpa using h8
theorem Q9A {w:World} {b:Nat} {o:Obj} (h:w.heap[b]?=some o):w.drew.heap[b]?=some o:=h
theorem Ve (w:World) (s:Q8) (own more k:Int):Calls Tryz.prog 200 #[Xv s own more,.int .i64 k] w fun e w'=>e=.returned (.bool (decide (s.st=k)))∧Fr [] w w':=by
 obtain ⟨st,so,str,br,mkd,us,gen,ep,ver⟩:=s
 unfold Xv
 dsimp only
 have FF:=hid (fun (o:Obj)=>(Fr.refl [] w).alloc o)
 by_cases h:st=k
 · subst h
   go_in
   go_wp2
   go_ret
   exact ⟨by simp,FF.out _⟩
 · go_in
   go_wp2
   go_ret
   exact ⟨by simp [h],FF.out _⟩
theorem YS (w:World) (s:Q8) (own more k:Int):Calls Tryz.prog 202 #[Xv s own more,.int .i64 k] w fun e w'=>e=.returned (.bool (Jj s k own))∧Fr [] w w':=by
 have HI:=hid fun (w':World)=>Ve w' s own more k
 unfold Jj
 obtain ⟨st,so,str,br,mkd,us,gen,ep,ver⟩:=s
 unfold Xv at*
 dsimp only at*
 have FF:=hid (fun (o:Obj)=>(Fr.refl [] w).alloc o)
 by_cases h:st=k
 · subst h
   rw [show decide (st=st)=true by simp] at HI ⊢
   rw [Bool.true_and]
   by_cases h':so=own
   · subst h'
     go_in
     go_wp2_with fail
     refine (HI.out _).mono ?_
     rintro e w2 ⟨rfl,f2⟩
     have hc2:=f2.at (heap_alloc_new w _) (by simp)
     have q1:=cell_of (i:=1) hc2 rfl
     have q9:=cell_of (i:=9) hc2 rfl
     have F2:=hid ((FF.out _).trans f2)
     clear hc2 f2
     go_wp2
     go_ret
     exact ⟨by simp,F2.out⟩
   · go_in
     go_wp2_with fail
     refine (HI.out _).mono ?_
     rintro e w2 ⟨rfl,f2⟩
     have hc2:=f2.at (heap_alloc_new w _) (by simp)
     have q1:=cell_of (i:=1) hc2 rfl
     have q9:=cell_of (i:=9) hc2 rfl
     have F2:=hid ((FF.out _).trans f2)
     clear hc2 f2
     go_wp2
     go_ret
     exact ⟨by simp [h'],F2.out⟩
 · rw [decide_eq_false h] at HI ⊢
   go_in
   go_wp2_with fail
   refine (HI.out _).mono ?_
   rintro e w2 ⟨rfl,f2⟩
   have F2:=hid ((FF.out _).trans f2)
   clear f2
   go_wp2
   go_ret
   exact ⟨by simp,F2.out⟩
theorem Q4w (w:World) (s:Q8) (own more:Int):Calls Tryz.prog 203 #[Xv s own more] w fun e w'=>e=.returned (.bool (JL s))∧Fr [] w w':=by
 have HI:=hid fun (w':World)=>Ve w' s own more 2
 unfold JL
 obtain ⟨st,so,str,br,mkd,us,gen,ep,ver⟩:=s
 unfold Xv at*
 dsimp only at*
 have FF:=hid (fun (o:Obj)=>(Fr.refl [] w).alloc o)
 by_cases h:st=2
 · subst h
   rw [show decide ((2:Int)=2)=true by simp] at HI ⊢
   go_in
   go_wp2_with fail
   refine (HI.out _).mono ?_
   rintro e w2 ⟨rfl,f2⟩
   have hc2:=f2.at (heap_alloc_new w _) (by simp)
   have q1:=cell_of (i:=3) hc2 rfl
   have F2:=hid ((FF.out _).trans f2)
   clear hc2 f2
   go_wp2
   go_ret
   exact ⟨by simp,F2.out⟩
 · rw [decide_eq_false h] at HI ⊢
   go_in
   go_wp2_with fail
   refine (HI.out _).mono ?_
   rintro e w2 ⟨rfl,f2⟩
   have F2:=hid ((FF.out _).trans f2)
   clear f2
   go_wp2
   go_ret
   exact ⟨by simp,F2.out⟩
theorem U9 (w:World) (s:Q8) (own more k:Int) (h0:0≤k) (h1:k≤6):Calls Tryz.prog 199 #[Xv s own more,.int .i64 k] w fun e w'=>e=.returned (toV s k own).val∧Fr [] w w':=by
 have hk:k=0∨k=1∨k=2∨k=3∨k=4∨k=5∨k=6:=by omega
 obtain ⟨st,so,str,br,mkd,us,gen,ep,ver⟩:=s
 unfold Xv
 dsimp only
 have FF:=hid (fun (o o' o'':Obj)=>((((Fr.refl [] w).alloc o).alloc o').alloc o'').drew)
 clear h0 h1
 rcases hk with rfl|rfl|rfl|rfl|rfl|rfl|rfl
 all_goals
  go_in
  go_wp2_with fail
  go_region
  all_goals go_wp2
  refine ⟨rfl,_, ?_,rfl,FF.out _ _ _⟩
  simp [results,Tryz.f199,go_sem,toV,Q8.val]
theorem Uv (w:World) (s:Q8) (own more:Int) (h:s.right):Calls Tryz.prog 201 #[Xv s own more] w fun e w'=>e=.returned (Jt s own).val∧Fr [] w w':=by
 have HT:=hid fun (w':World)=>U9 w' s own more 3 (by omega) (by omega)
 unfold Q8.val at HT ⊢
 unfold Jt
 have hu0:0≤(toV s 3 own).us:=by unfold toV;dsimp only;split;exact h.us0;omega
 have hu1:(toV s 3 own).us≤63:=by unfold toV;dsimp only;split;exact h.us1;omega
 have hg0:0≤(toV s 3 own).gen:=h.gen0
 have hg1:(toV s 3 own).gen≤4095:=h.gen1
 have hgs:(toV s 3 own).gen=s.gen:=rfl
 have hus:(toV s 3 own).us=s.us:=by unfold toV;simp
 rw [←hgs,←hus]
 clear hgs hus h
 dsimp only
 generalize toV s 3 own=r at*
 obtain ⟨st,so,str,br,mkd,us,gen,ep,ver⟩:=s
 obtain ⟨rst,rso,rstr,rbr,rmkd,rus,rgen,rep,rver⟩:=r
 unfold Xv at*
 dsimp only at*
 have hz:=heap_alloc_new (w.alloc (.cells #[.int .i64 st,.int .i64 so,.int .i64 str,.bool br,.bool mkd,.int .i64 us,.int .i64 gen,.int .i64 ep,.int .i64 ver,.int .i64 own,.int .i64 more] 150)) (.cells #[.int .i64 0,.int .i64 0,.int .i64 0,.bool false,.bool false,.int .i64 0,.int .i64 0,.int .i64 0,.int .i64 0] 54)
 rw [World.size_alloc] at hz
 have F1:=hid (((Fr.refl [] w).alloc (.cells #[.int .i64 st,.int .i64 so,.int .i64 str,.bool br,.bool mkd,.int .i64 us,.int .i64 gen,.int .i64 ep,.int .i64 ver,.int .i64 own,.int .i64 more] 150)).alloc (.cells #[.int .i64 0,.int .i64 0,.int .i64 0,.bool false,.bool false,.int .i64 0,.int .i64 0,.int .i64 0,.int .i64 0] 54))
 go_in
 go_wp2_with fail
 generalize (w.alloc (.cells #[.int .i64 st,.int .i64 so,.int .i64 str,.bool br,.bool mkd,.int .i64 us,.int .i64 gen,.int .i64 ep,.int .i64 ver,.int .i64 own,.int .i64 more] 150)).alloc (.cells #[.int .i64 0,.int .i64 0,.int .i64 0,.bool false,.bool false,.int .i64 0,.int .i64 0,.int .i64 0,.int .i64 0] 54)=w1 at hz F1 ⊢
 refine (HT.out _).mono ?_
 rintro e w2 ⟨rfl,f2⟩
 have hz2:=f2.at hz (by simp)
 have F2:=hid (F1.out.trans f2)
 clear hz f2
 have v0:w2.cell? ⟨w.heap.size+1,0,none⟩=some (.int .i64 0):=cell_of hz2 rfl
 have u0:=Q9 (i:=0) hz2
 have v1:w2.cell? ⟨w.heap.size+1,1,none⟩=some (.int .i64 0):=cell_of hz2 rfl
 have u1:=Q9 (i:=1) hz2
 have v2:w2.cell? ⟨w.heap.size+1,2,none⟩=some (.int .i64 0):=cell_of hz2 rfl
 have u2:=Q9 (i:=2) hz2
 have v3:w2.cell? ⟨w.heap.size+1,3,none⟩=some (.bool false):=cell_of hz2 rfl
 have u3:=Q9 (i:=3) hz2
 have v4:w2.cell? ⟨w.heap.size+1,4,none⟩=some (.bool false):=cell_of hz2 rfl
 have u4:=Q9 (i:=4) hz2
 have v5:w2.cell? ⟨w.heap.size+1,5,none⟩=some (.int .i64 0):=cell_of hz2 rfl
 have u5:=Q9 (i:=5) hz2
 have v6:w2.cell? ⟨w.heap.size+1,6,none⟩=some (.int .i64 0):=cell_of hz2 rfl
 have u6:=Q9 (i:=6) hz2
 have v7:w2.cell? ⟨w.heap.size+1,7,none⟩=some (.int .i64 0):=cell_of hz2 rfl
 have u7:=Q9 (i:=7) hz2
 have v8:w2.cell? ⟨w.heap.size+1,8,none⟩=some (.int .i64 0):=cell_of hz2 rfl
 have u8:=Q9 (i:=8) hz2
 have hsz2:w.heap.size+1<w2.heap.size:=Q6 hz2
 by_cases hm:rus+1≤63
 · have hmin:=hid (show min (rus+1) 63=rus+1 by omega)
   have HZ:=hid hz2
   clear hz2
   go_wp2
   have hb:=Qd (set9 HZ.out (.int .i64 rst) (.int .i64 rso) (.int .i64 rstr) (.bool rbr) (.bool rmkd) (.int .i64 (rus+1)) (.int .i64 ((rgen+1) % 4096)) (.int .i64 rep) (.int .i64 rver)) (.cells #[.int .i64 rst,.int .i64 rso,.int .i64 rstr,.bool rbr,.bool rmkd,.int .i64 (rus+1),.int .i64 ((rgen+1) % 4096),.int .i64 rep,.int .i64 rver] 54)
   have FW:=hid ((((((((((F2.out.setCell (p:=⟨w.heap.size+1,0,none⟩) (.inr (by simp)) (.int .i64 rst)).setCell (p:=⟨w.heap.size+1,1,none⟩) (.inr (by simp)) (.int .i64 rso)).setCell (p:=⟨w.heap.size+1,2,none⟩) (.inr (by simp)) (.int .i64 rstr)).setCell (p:=⟨w.heap.size+1,3,none⟩) (.inr (by simp)) (.bool rbr)).setCell (p:=⟨w.heap.size+1,4,none⟩) (.inr (by simp)) (.bool rmkd)).setCell (p:=⟨w.heap.size+1,5,none⟩) (.inr (by simp)) (.int .i64 (rus+1))).setCell (p:=⟨w.heap.size+1,6,none⟩) (.inr (by simp)) (.int .i64 ((rgen+1) % 4096))).setCell (p:=⟨w.heap.size+1,7,none⟩) (.inr (by simp)) (.int .i64 rep)).setCell (p:=⟨w.heap.size+1,8,none⟩) (.inr (by simp)) (.int .i64 rver)).alloc (.cells #[.int .i64 rst,.int .i64 rso,.int .i64 rstr,.bool rbr,.bool rmkd,.int .i64 (rus+1),.int .i64 ((rgen+1) % 4096),.int .i64 rep,.int .i64 rver] 54))
   obtain ⟨W,hW⟩:∃W,(((((((((w2.setCell ⟨w.heap.size+1,0,none⟩ (.int .i64 rst)).setCell ⟨w.heap.size+1,1,none⟩ (.int .i64 rso)).setCell ⟨w.heap.size+1,2,none⟩ (.int .i64 rstr)).setCell ⟨w.heap.size+1,3,none⟩ (.bool rbr)).setCell ⟨w.heap.size+1,4,none⟩ (.bool rmkd)).setCell ⟨w.heap.size+1,5,none⟩ (.int .i64 (rus+1))).setCell ⟨w.heap.size+1,6,none⟩ (.int .i64 ((rgen+1) % 4096))).setCell ⟨w.heap.size+1,7,none⟩ (.int .i64 rep)).setCell ⟨w.heap.size+1,8,none⟩ (.int .i64 rver)).alloc (.cells #[.int .i64 rst,.int .i64 rso,.int .i64 rstr,.bool rbr,.bool rmkd,.int .i64 (rus+1),.int .i64 ((rgen+1) % 4096),.int .i64 rep,.int .i64 rver] 54)=W:=⟨_,rfl⟩
   rw [hW] at hb FW ⊢
   have m0:=cell_of (i:=0) hb rfl
   have m1:=cell_of (i:=1) hb rfl
   have m2:=cell_of (i:=2) hb rfl
   have m3:=cell_of (i:=3) hb rfl
   have m4:=cell_of (i:=4) hb rfl
   have m5:=cell_of (i:=5) hb rfl
   have m6:=cell_of (i:=6) hb rfl
   have m7:=cell_of (i:=7) hb rfl
   have m8:=cell_of (i:=8) hb rfl
   refine ⟨rfl,_, ?_,rfl,FW.out⟩
   simp [results,Tryz.f201,go_sem,m0,m1,m2,m3,m4,m5,m6,m7,m8,hmin.out]
 · have hmin:=hid (show min (rus+1) 63=63 by omega)
   have HZ:=hid hz2
   clear hz2
   go_wp2
   have hb:=Qd (set9 HZ.out (.int .i64 rst) (.int .i64 rso) (.int .i64 rstr) (.bool rbr) (.bool rmkd) (.int .i64 63) (.int .i64 ((rgen+1) % 4096)) (.int .i64 rep) (.int .i64 rver)) (.cells #[.int .i64 rst,.int .i64 rso,.int .i64 rstr,.bool rbr,.bool rmkd,.int .i64 63,.int .i64 ((rgen+1) % 4096),.int .i64 rep,.int .i64 rver] 54)
   have FW:=hid ((((((((((F2.out.setCell (p:=⟨w.heap.size+1,0,none⟩) (.inr (by simp)) (.int .i64 rst)).setCell (p:=⟨w.heap.size+1,1,none⟩) (.inr (by simp)) (.int .i64 rso)).setCell (p:=⟨w.heap.size+1,2,none⟩) (.inr (by simp)) (.int .i64 rstr)).setCell (p:=⟨w.heap.size+1,3,none⟩) (.inr (by simp)) (.bool rbr)).setCell (p:=⟨w.heap.size+1,4,none⟩) (.inr (by simp)) (.bool rmkd)).setCell (p:=⟨w.heap.size+1,5,none⟩) (.inr (by simp)) (.int .i64 63)).setCell (p:=⟨w.heap.size+1,6,none⟩) (.inr (by simp)) (.int .i64 ((rgen+1) % 4096))).setCell (p:=⟨w.heap.size+1,7,none⟩) (.inr (by simp)) (.int .i64 rep)).setCell (p:=⟨w.heap.size+1,8,none⟩) (.inr (by simp)) (.int .i64 rver)).alloc (.cells #[.int .i64 rst,.int .i64 rso,.int .i64 rstr,.bool rbr,.bool rmkd,.int .i64 63,.int .i64 ((rgen+1) % 4096),.int .i64 rep,.int .i64 rver] 54))
   obtain ⟨W,hW⟩:∃W,(((((((((w2.setCell ⟨w.heap.size+1,0,none⟩ (.int .i64 rst)).setCell ⟨w.heap.size+1,1,none⟩ (.int .i64 rso)).setCell ⟨w.heap.size+1,2,none⟩ (.int .i64 rstr)).setCell ⟨w.heap.size+1,3,none⟩ (.bool rbr)).setCell ⟨w.heap.size+1,4,none⟩ (.bool rmkd)).setCell ⟨w.heap.size+1,5,none⟩ (.int .i64 63)).setCell ⟨w.heap.size+1,6,none⟩ (.int .i64 ((rgen+1) % 4096))).setCell ⟨w.heap.size+1,7,none⟩ (.int .i64 rep)).setCell ⟨w.heap.size+1,8,none⟩ (.int .i64 rver)).alloc (.cells #[.int .i64 rst,.int .i64 rso,.int .i64 rstr,.bool rbr,.bool rmkd,.int .i64 63,.int .i64 ((rgen+1) % 4096),.int .i64 rep,.int .i64 rver] 54)=W:=⟨_,rfl⟩
   rw [hW] at hb FW ⊢
   have m0:=cell_of (i:=0) hb rfl
   have m1:=cell_of (i:=1) hb rfl
   have m2:=cell_of (i:=2) hb rfl
   have m3:=cell_of (i:=3) hb rfl
   have m4:=cell_of (i:=4) hb rfl
   have m5:=cell_of (i:=5) hb rfl
   have m6:=cell_of (i:=6) hb rfl
   have m7:=cell_of (i:=7) hb rfl
   have m8:=cell_of (i:=8) hb rfl
   refine ⟨rfl,_, ?_,rfl,FW.out⟩
   simp [results,Tryz.f201,go_sem,m0,m1,m2,m3,m4,m5,m6,m7,m8,hmin.out]
end
section
open Go.RowKit Go.Lib
structure Th where
 own:Bool
 fp:List Nat
 P:World→Prop
 keep:∀{S:List Nat} {w w':World},Fr S w w'→(∀x∈fp,x∉S)→P w→P w'
def Th.nil:Th:=⟨false,[],fun _=>True,fun _ _ _=>trivial⟩
abbrev gt (L:List Th) (i:Nat):Th:=L.getD i Th.nil
abbrev tRo (o:Bool) (b:Nat) (A:Array Value) (t:TypeId):Th:=⟨o,[b],fun w=>w.heap[b]?=some (.cells A t (0,0)),fun f h k=>f.at k (h b (by simp))⟩
abbrev tR:=tRo true
structure Bag (S0:List Nat) (w0:World) (L:List Th) (w:World):Prop where
 fr:Fr S0 w0 w
 all:∀i,(gt L i).P w
 lt:∀i,∀x∈(gt L i).fp,x<w.heap.size
 nd:∀i j,i≠j→∀x∈(gt L i).fp,x∉(gt L j).fp
 ow:∀i,(gt L i).own=true→∀x∈(gt L i).fp,x∈S0∨w0.heap.size≤x
section
variable {S0:List Nat} {w0 w w':World} {L L':List Th}
theorem Ku (L:List Th) (i j:Nat) (T:Th) (hi:i<L.length):gt (L.set i T) j=if i=j then T else gt L j:=by
 simp only [gt,List.getD_eq_getElem?_getD,List.getElem?_set]
 split
 · next h=>subst h;simp [hi]
 · rfl
theorem Ux (L:List Th) (T:Th) (j:Nat):gt (L++[T]) j=if j=L.length then T else gt L j:=by
 simp only [gt,List.getD_eq_getElem?_getD,List.getElem?_append]
 split
 · rw [if_neg (by omega)]
 · by_cases h:j=L.length
   · subst h;simp
   · rw [if_neg h,List.getElem?_eq_none (by simp;omega),List.getElem?_eq_none (by omega)]
theorem WV (L:List Th) (n j:Nat):gt (L.take n) j=if j<n then gt L j else Th.nil:=by
 simp only [gt,List.getD_eq_getElem?_getD,List.getElem?_take]
 split<;>rfl
theorem Bag.g (B:Bag S0 w0 L w) (i:Nat):(gt L i).P w:=B.all i
theorem Bag.nil (S0:List Nat) (w:World):Bag S0 w [] w:=⟨Fr.refl S0 w,fun _=>trivial,fun _ _ h=>by simp [gt,Th.nil] at h,fun _ _ _ _ h=>by simp [gt,Th.nil] at h,fun _ h=>by simp [gt,Th.nil] at h⟩
theorem Bag.add (B:Bag S0 w0 L w) (T:Th) (h:T.P w) (hlt:∀x∈T.fp,x<w.heap.size) (hn:∀i,∀x∈T.fp,x∉(gt L i).fp) (ho:T.own=true→∀x∈T.fp,x∈S0∨w0.heap.size≤x):Bag S0 w0 (L++[T]) w:=by
 refine ⟨B.fr,fun i=> ?_,fun i x hx=> ?_,fun i j hij x hx=> ?_,fun i hi x hx=> ?_⟩
 · rw [Ux];split
   · exact h
   · exact B.all i
 · rw [Ux] at hx;split at hx
   · exact hlt x hx
   · exact B.lt i x hx
 · rw [Ux] at hx ⊢
   split at hx
   · rw [if_neg (by omega)];exact hn j x hx
   · split
     · intro hm;exact hn i x hm hx
     · exact B.nd i j hij x hx
 · rw [Ux] at hi hx
   split at hi
   · rw [if_pos (by assumption)] at hx;exact ho hi x hx
   · rw [if_neg (by assumption)] at hx;exact B.ow i hi x hx
theorem Bag.pad (B:Bag S0 w0 L w) (hL:L++[Th.nil]=L':=by (try simp only [List.nil_append,List.cons_append]);exact rfl):Bag S0 w0 L' w:=
 hL▸B.add Th.nil trivial (fun x h=>by simp [Th.nil] at h) (fun i x h=>by simp [Th.nil] at h) (fun h=>by cases h)
theorem Bag.tm (B:Bag S0 w0 L w) {S:List Nat} (f:Fr S w w') (hS:S=[]:=by exact rfl):Bag S0 w0 L w':=by
 subst hS
 exact ⟨B.fr.trans (f.mono (by simp)),fun i=>(gt L i).keep f (by simp) (B.all i),fun i x hx=>Nat.lt_of_lt_of_le (B.lt i x hx) f.size,B.nd,B.ow⟩
theorem Bag.mono {S0 S1:List Nat} {w0 w:World} {L:List Th} (B:Bag S0 w0 L w) (h:∀x∈S0,x∈S1):Bag S1 w0 L w:=⟨B.fr.mono h,B.all,B.lt,B.nd,fun i hi x hx=>(B.ow i hi x hx).imp (h x) id⟩
theorem Bag.fo (B:Bag S0 w0 L w) {S:List Nat} (f:Fr S w w') (h0:∀x∈S,x∈S0) (hne:∀i,∀x∈(gt L i).fp,x∉S):Bag S0 w0 L w':=
 ⟨B.fr.trans (f.mono h0),fun i=>(gt L i).keep f (hne i) (B.all i),fun i x hx=>Nat.lt_of_lt_of_le (B.lt i x hx) f.size,B.nd,B.ow⟩
theorem Bag.drew (B:Bag S0 w0 L w):Bag S0 w0 L w.drew:=B.tm (Fr.refl [] w).drew
theorem Bag.tk (B:Bag S0 w0 L w) (n:Nat) (hL:L.take n=L':=by exact rfl):Bag S0 w0 L' w:=by
 subst hL
 refine ⟨B.fr,fun i=> ?_,fun i x hx=> ?_,fun i j hij x hx=> ?_,fun i hi x hx=> ?_⟩
 · rw [WV];split
   · exact B.all i
   · trivial
 · rw [WV] at hx;split at hx
   · exact B.lt i x hx
   · simp [Th.nil] at hx
 · rw [WV] at hx ⊢;split at hx
   · split
     · exact B.nd i j hij x hx
     · simp [Th.nil]
   · simp [Th.nil] at hx
 · rw [WV] at hi hx;split at hi
   · rw [if_pos (by assumption)] at hx;exact B.ow i hi x hx
   · cases hi
theorem Bag.pre (B:Bag S0 w0 L w) (hL:L.take L'.length=L':=by exact rfl):Bag S0 w0 L' w:=B.tk _ hL
theorem Bag.n2 (B:Bag S0 w0 L w) (i j:Nat) {x y:Nat} (hi:x∈(gt L i).fp:=by simp [gt]) (hj:y∈(gt L j).fp:=by simp [gt]) (h:i≠j:=by decide):x≠y:=fun e=>B.nd i j h x hi (e▸hj)
theorem Bag.new (B:Bag [] w0 L w) (i:Nat) {x:Nat} (hi:x∈(gt L i).fp:=by simp [gt]) (ho:(gt L i).own=true:=by exact rfl):w0.heap.size≤x:=(B.ow i ho x hi).resolve_left (by simp)
theorem Bag.sel (B:Bag S0 w0 L w) (is:List Nat) (hn:is.Nodup:=by decide) (hL:is.map (gt L)=L':=by first|(simp only [List.map_cons,List.map_nil,gt,List.getD_cons_zero,List.getD_cons_succ];done)|(simp only [List.map_cons,List.map_nil,gt,List.getD_cons_zero,List.getD_cons_succ];exact rfl)|exact rfl):Bag S0 w0 L' w:=by
 subst hL
 have hg:∀j,gt (is.map (gt L)) j=if h:j<is.length then gt L is[j] else Th.nil:=fun j=>by
  simp only [gt,List.getD_eq_getElem?_getD,List.getElem?_map]
  by_cases h:j<is.length
  · rw [dif_pos h,List.getElem?_eq_getElem h];rfl
  · rw [dif_neg h,List.getElem?_eq_none (by omega)];rfl
 refine ⟨B.fr,fun i=> ?_,fun i x hx=> ?_,fun i j hij x hx=> ?_,fun i hi x hx=> ?_⟩
 · rw [hg];split
   · exact B.all _
   · trivial
 · rw [hg] at hx;split at hx
   · exact B.lt _ x hx
   · simp [Th.nil] at hx
 · rw [hg] at hx ⊢;split at hx
   · split
     · next h1 h2=>
       have hp:=List.pairwise_iff_getElem.1 hn
       refine B.nd _ _ ?_ x hx
       rcases Nat.lt_or_gt_of_ne hij with h|h
       · exact hp i j h1 h2 h
       · exact fun e=>hp j i h2 h1 h e.symm
     · simp [Th.nil]
   · simp [Th.nil] at hx
 · rw [hg] at hi hx;split at hi
   · rw [dif_pos (by assumption)] at hx;exact B.ow _ hi x hx
   · cases hi
theorem Bag.look (B:Bag S0 w0 L w) (is:List Nat) (hn:is.Nodup:=by decide) (hL:is.map (fun i=>⟨false,(gt L i).fp,(gt L i).P,(gt L i).keep⟩)=L':=by (try simp only [List.map_cons,List.map_nil,gt,List.getD_cons_zero,List.getD_cons_succ]);exact rfl):Bag [] w L' w:=by
 subst hL
 have B:=B.sel is hn rfl
 have hg:∀j,gt (is.map (fun i=>(⟨false,(gt L i).fp,(gt L i).P,(gt L i).keep⟩:Th))) j=⟨false,(gt (is.map (gt L)) j).fp,(gt (is.map (gt L)) j).P,(gt (is.map (gt L)) j).keep⟩:=fun j=>by
  by_cases h:j<is.length
  · simp [gt,List.getD_eq_getElem?_getD,h]
  · simp [gt,List.getD_eq_getElem?_getD,List.getElem?_eq_none (Nat.le_of_not_lt h)];rfl
 refine ⟨Fr.refl _ _,fun i=> ?_,fun i x hx=> ?_,fun i j hij x hx=> ?_,fun i hi=> ?_⟩
 · rw [hg];exact B.all i
 · rw [hg] at hx;exact B.lt i x hx
 · rw [hg] at hx ⊢;exact B.nd i j hij x hx
 · rw [hg] at hi;cases hi
theorem Bag.up' (B:Bag S0 w0 L w) (i:Nat) {T':Th} {S:List Nat} (h:T'.P w') (f:Fr S w w') (ho:∀x∈S,(gt L i).own=true∧x∈(gt L i).fp) (hp:∀x∈T'.fp,x<w'.heap.size∧((T'.own=true→(gt L i).own=true)∧x∈(gt L i).fp∨w.heap.size≤x))
 (hi:i<L.length):Bag S0 w0 (L.set i T') w':=by
 refine ⟨B.fr.then f (fun x hx=>B.ow i (ho x hx).1 x (ho x hx).2),fun j=> ?_,fun j x hx=> ?_,fun j k hjk x hx=> ?_,fun j hj x hx=> ?_⟩
 · rw [Ku L i j T' hi];split
   · exact h
   · next hij=>exact (gt L j).keep f (fun x hx hs=>B.nd j i (fun e=>hij e.symm) x hx (ho x hs).2) (B.all j)
 · rw [Ku L i j T' hi] at hx;split at hx
   · exact (hp x hx).1
   · exact Nat.lt_of_lt_of_le (B.lt j x hx) f.size
 · rw [Ku L i j T' hi] at hx;rw [Ku L i k T' hi]
   split at hx
   · rw [if_neg (by omega)]
     rcases (hp x hx).2 with ⟨-,h2⟩|h2
     · exact B.nd i k (by omega) x h2
     · intro hm;have:=B.lt k x hm;omega
   · split
     · intro hm
       rcases (hp x hm).2 with ⟨-,h2⟩|h2
       · exact B.nd j i (by omega) x hx h2
       · have:=B.lt j x hx;omega
     · exact B.nd j k hjk x hx
 · rw [Ku L i j T' hi] at hj hx
   split at hj
   · rw [if_pos (by assumption)] at hx
     rcases (hp x hx).2 with ⟨h1,h2⟩|h2
     · exact B.ow i (h1 hj) x h2
     · right;have:=B.fr.size;omega
   · rw [if_neg (by assumption)] at hx;exact B.ow j hj x hx
theorem Bag.up (B:Bag S0 w0 L w) (i:Nat) {T':Th} {S:List Nat} (h:T'.P w') (f:Fr S w w') (ho:(gt L i).own=true:=by exact rfl) (hp:T'.fp=(gt L i).fp:=by exact rfl)
 (hS:S=(gt L i).fp:=by exact rfl) (hi:i<L.length:=by exact Nat.lt_of_sub_ne_zero (by intro h;cases h)) (hL:L.set i T'=L':=by (try simp only [List.set_cons_zero,List.set_cons_succ,List.nil_append,List.cons_append]);exact rfl):Bag S0 w0 L' w':=by
 subst hL
 exact B.up' i h f (fun x hx=>⟨ho,hS▸hx⟩) (fun x hx=>⟨Nat.lt_of_lt_of_le (B.lt i x (hp▸hx)) f.size,.inl ⟨fun _=>ho,hp▸hx⟩⟩) hi
theorem Bag.rp (B:Bag S0 w0 L w) (i:Nat) {T':Th} {S:List Nat} (h:T'.P w') (f:Fr S w w') (hn:∀x∈T'.fp,w.heap.size≤x∧x<w'.heap.size) (hS:S=[]:=by exact rfl) (hi:i<L.length:=by exact Nat.lt_of_sub_ne_zero (by intro h;cases h)) (hL:L.set i T'=L':=by (try simp only [List.set_cons_zero,List.set_cons_succ,List.nil_append,List.cons_append]);exact rfl):Bag S0 w0 L' w':=by
 subst hL hS
 exact B.up' i h f (fun x hx=>by simp at hx) (fun x hx=>⟨(hn x hx).2,.inr (hn x hx).1⟩) hi
theorem Bag.nw (B:Bag S0 w0 L w) {T':Th} {S:List Nat} (h:T'.P w') (f:Fr S w w') (hn:∀x∈T'.fp,w.heap.size≤x∧x<w'.heap.size) (hS:S=[]:=by exact rfl) (hL:L++[T']=L':=by (try simp only [List.set_cons_zero,List.set_cons_succ,List.nil_append,List.cons_append]);exact rfl):Bag S0 w0 L' w':=by
 subst hL
 refine (B.tm f hS).add T' h (fun x hx=>(hn x hx).2) (fun i x hx hm=> ?_) (fun _ x hx=>.inr (Nat.le_trans B.fr.size (hn x hx).1))
 have:=B.lt i x hm;have:=hn x hx;omega
theorem Bag.up2 (B:Bag S0 w0 L w) (i j:Nat) {T T':Th} {S:List Nat} (h:T.P w') (h':T'.P w') (f:Fr S w w') (ho:(gt L i).own=true∧(gt L j).own=true:=by exact ⟨rfl,rfl⟩) (hp:T.fp=(gt L i).fp∧T'.fp=(gt L j).fp:=by exact ⟨rfl,rfl⟩)
 (hS:S=(gt L i).fp++(gt L j).fp:=by exact rfl) (hij:i≠j:=by decide) (hi:i<L.length:=by exact Nat.lt_of_sub_ne_zero (by intro h;cases h)) (hj:j<L.length:=by exact Nat.lt_of_sub_ne_zero (by intro h;cases h)) (hL:(L.set i T).set j T'=L':=by (try simp only [List.set_cons_zero,List.set_cons_succ,List.nil_append,List.cons_append]);exact rfl):Bag S0 w0 L' w':=by
 subst hL
 have hf:∀k,gt ((L.set i T).set j T') k=if j=k then T' else if i=k then T else gt L k:=fun k=>by rw [Ku _ j k T' (by simpa using hj),Ku L i k T hi]
 have hfp:∀k,(gt ((L.set i T).set j T') k).fp=(gt L k).fp:=fun k=>by
  rw [hf];split
  · next h=>subst h;exact hp.2
  · split
    · next h=>subst h;exact hp.1
    · rfl
 refine ⟨B.fr.then f (fun x hx=> ?_),fun k=> ?_,fun k x hx=> ?_,fun k l hkl x hx=> ?_,fun k hk x hx=> ?_⟩
 · rw [hS,List.mem_append] at hx
   exact hx.elim (B.ow i ho.1 x) (B.ow j ho.2 x)
 · rw [hf];split
   · exact h'
   · split
     · exact h
     · next h1 h2=>
       refine (gt L k).keep f (fun x hx hs=> ?_) (B.all k)
       rw [hS,List.mem_append] at hs
       exact hs.elim (B.nd k i (fun e=>h2 e.symm) x hx) (B.nd k j (fun e=>h1 e.symm) x hx)
 · rw [hfp] at hx;exact Nat.lt_of_lt_of_le (B.lt k x hx) f.size
 · rw [hfp] at hx ⊢;exact B.nd k l hkl x hx
 · rw [hfp] at hx;rw [hf] at hk
   split at hk
   · next h=>subst h;exact B.ow _ ho.2 x hx
   · split at hk
     · next h=>subst h;exact B.ow _ ho.1 x hx
     · exact B.ow k hk x hx
theorem Bag.q (B:Bag S0 w0 L w) (i:Nat) {o:Bool} {b:Nat} {A:Array Value} {t:TypeId} (h:gt L i=tRo o b A t:=by exact rfl):∀j,w.cell? ⟨b,j,none⟩=A[j]?:=fun j=>by
 have k:=B.all i
 rw [h] at k
 simp only at k
 simp [World.cell?,k]
theorem Bag.qa (B:Bag S0 w0 L w) (i:Nat) {o:Bool} {b:Nat} {A:Array Value} {t:TypeId} (h:gt L i=tRo o b A t:=by exact rfl):∀x j,(w.alloc x).cell? ⟨b,j,none⟩=A[j]?:=fun x j=>by
 rw [←B.q i h j]
 exact World.cell?_alloc_lt _ _ _ (by have:=B.lt i b (by rw [h];simp);simpa using this)
theorem Bag.ua (B:Bag S0 w0 L w) (i:Nat) {o:Bool} {b:Nat} {A:Array Value} {t:TypeId} (h:gt L i=tRo o b A t:=by exact rfl):∀x j,(w.alloc x).frozen? ⟨b,j,none⟩=false:=fun x j=>by
 have k:=B.all i
 rw [h] at k
 exact Q9 (Qd k x)
theorem Bag.u (B:Bag S0 w0 L w) (i:Nat) {o:Bool} {b:Nat} {A:Array Value} {t:TypeId} (h:gt L i=tRo o b A t:=by exact rfl):∀j,w.frozen? ⟨b,j,none⟩=false:=fun j=>by
 have k:=B.all i
 rw [h] at k
 exact Q9 k
theorem Bag.s (B:Bag S0 w0 L w) (i:Nat) {b j:Nat} {A A':Array Value} {t:TypeId} {v:Value} (h:gt L i=tR b A t:=by exact rfl)
 (hA:A.setIfInBounds j v=A':=by simp only [List.setIfInBounds_toArray,List.set_cons_zero,List.set_cons_succ];exact rfl)
 (hi:i<L.length:=by exact Nat.lt_of_sub_ne_zero (by intro h;cases h)) (hL:L.set i (tR b A' t)=L':=by (try simp only [List.set_cons_zero,List.set_cons_succ]);exact rfl):Bag S0 w0 L' (w.setCell ⟨b,j,none⟩ v):=by
 have k:=B.all i
 rw [h] at k
 exact B.up i (T':=tR b A' t) (hA▸heap_setCell_same k v) ((Fr.refl [b] w).sc b j v) (by rw [h]) (by rw [h]) (by rw [h]) hi hL
theorem Bag.e (B:Bag S0 w0 L w) (h:w=w'):Bag S0 w0 L w':=h▸B
theorem Bag.al (B:Bag S0 w0 L w) {A:Array Value} {t:TypeId} {b:Nat} (hw:w.alloc (.cells A t)=w') (hb:w.heap.size=b) (hL:L++[tR b A t]=L':=by (try simp only [List.nil_append,List.cons_append]);exact rfl):Bag S0 w0 L' w':=by
 subst hw hb
 refine B.nw (T':=tR w.heap.size A t) (heap_alloc_new w _) ((Fr.refl [] w).alloc _) (fun x hx=> ?_) rfl hL
 simp at hx
 subst hx
 simp
theorem Bag.al2 (B:Bag S0 w0 L w) {A A2:Array Value} {t t2:TypeId} {b:Nat} {w2:World} (hw:w.alloc (.cells A t)=w') (hb:w.heap.size=b) (hw2:w'.alloc (.cells A2 t2)=w2) (hL:(L++[tR b A t])++[tR (b+1) A2 t2]=L':=by (try simp only [List.nil_append,List.cons_append]);exact rfl):Bag S0 w0 L' w2:=
 (B.al hw hb rfl).al hw2 (by rw [←hw,World.size_alloc,hb]) hL
theorem Bag.al3 (B:Bag S0 w0 L w) {A A2 A3:Array Value} {t t2 t3:TypeId} {b:Nat} {w2 w3:World} (hw:w.alloc (.cells A t)=w') (hb:w.heap.size=b) (hw2:w'.alloc (.cells A2 t2)=w2) (hw3:w2.alloc (.cells A3 t3)=w3)
 (hL:((L++[tR b A t])++[tR (b+1) A2 t2])++[tR (b+1+1) A3 t3]=L':=by (try simp only [List.nil_append,List.cons_append]);exact rfl):Bag S0 w0 L' w3:=
 (B.al2 hw hb hw2 rfl).al hw3 (by rw [←hw2,World.size_alloc,←hw,World.size_alloc,hb]) hL
theorem gt_mem {i:Nat} (h:gt L i≠Th.nil):∃hi:i<L.length,L[i]=gt L i:=by
 by_cases hi:i<L.length
 · exact ⟨hi,by simp [gt,List.getD_eq_getElem?_getD,hi]⟩
 · exact absurd (by simp [gt,List.getD_eq_getElem?_getD,List.getElem?_eq_none (Nat.le_of_not_lt hi)]) h
theorem Q7q {i x:Nat} (h:x∈(gt L i).fp):∃hi:i<L.length,L[i]=gt L i:=gt_mem (fun e=>by rw [e] at h;simp [Th.nil] at h)
theorem Bag.of (hall:∀T∈L,T.P w) (hnd:(L.flatMap Th.fp).Nodup) (hlt:∀x∈L.flatMap Th.fp,x<w.heap.size) (how:∀T∈L,T.own=true→∀x∈T.fp,x∈S0):Bag S0 w L w:=by
 have hm:∀i,∀x∈(gt L i).fp,gt L i∈L:=fun i x hx=>by obtain ⟨hi,e⟩:=Q7q hx;rw [←e];exact List.getElem_mem _
 have hp:=List.pairwise_iff_getElem.1 (List.pairwise_flatMap.1 hnd).2
 refine ⟨Fr.refl S0 w,fun i=> ?_,fun i x hx=> ?_,fun i j hij x hx hy=> ?_,fun i hi x hx=> ?_⟩
 · by_cases h:i<L.length
   · have e:gt L i=L[i]:=by simp [gt,List.getD_eq_getElem?_getD,h]
     rw [e];exact hall _ (List.getElem_mem _)
   · have e:gt L i=Th.nil:=by simp [gt,List.getD_eq_getElem?_getD,List.getElem?_eq_none (Nat.le_of_not_lt h)]
     rw [e];trivial
 · exact hlt x (List.mem_flatMap.2 ⟨_,hm i x hx,hx⟩)
 · obtain ⟨h1,e1⟩:=Q7q hx
   obtain ⟨h2,e2⟩:=Q7q hy
   rcases Nat.lt_or_gt_of_ne hij with h|h
   · exact hp i j h1 h2 h x (e1▸hx) x (e2▸hy) rfl
   · exact hp j i h2 h1 h x (e2▸hy) x (e1▸hx) rfl
 · exact .inl (how _ (hm i x hx) hi x hx)
theorem Bag.one {A:Array Value} {t:TypeId} {b:Nat} (h:w.heap[b]?=some (.cells A t (0,0))):Bag [] w [tRo false b A t] w:=
 (Bag.nil [] w).add (tRo false b A t) h (fun x hx=>by simp at hx;subst hx;exact Q6 h) (fun i x hx=>by simp [gt,Th.nil]) (fun h=>by cases h)
theorem Bag.own {A:Array Value} {t:TypeId} {b:Nat} (h:w.heap[b]?=some (.cells A t (0,0))):Bag [b] w [tR b A t] w:=
 (Bag.nil [b] w).add (tR b A t) h (fun x hx=>by simp at hx;subst hx;exact Q6 h) (fun i x hx=>by simp [gt,Th.nil]) (fun _ x hx=>by simp at hx;simp [hx])
def SB {V:Type} (S0:List Nat) (w0:World) (F:V→List Th) (w:World):Prop:=∃v,Bag S0 w0 (F v) w
theorem rg {P:Program} {ops:Array Oper} {Q:Exit→Act→World→Prop} {id:Nat} {a:Act} (B:Bag S0 w0 L w) (h:∀w',Bag S0 w0 L w'→wpAnyH P .any ops Q (SB S0 w0 fun (_:Unit)=>L) ops.size (Array.replicate ops.size false) a w')
 (hm:P.follows .mixedOrders=true:=by kernel_rfl):(Code.region id ops true).wp P Q a w:=wp_region_held_drew hm ⟨(),B.drew⟩ (fun _=>h _ B.drew)
theorem rgf {P:Program} {ops:Array Oper} {Q:Exit→Act→World→Prop} {id:Nat} {a:Act} (B:Bag S0 w0 L w) (h:∀w',Fr [] w w'→Bag S0 w0 L w'→wpAnyH P .any ops Q (SB S0 w0 fun (_:Unit)=>L) ops.size (Array.replicate ops.size false) a w')
 (hm:P.follows .mixedOrders=true:=by kernel_rfl):(Code.region id ops true).wp P Q a w:=wp_region_held_drew hm ⟨(),B.drew⟩ (fun _=>h _ (Fr.refl [] w).drew B.drew)
theorem rgc (i k:Nat) {F:Value→List Th} {P:Program} {ops:Array Oper} {Q:Exit→Act→World→Prop} {id:Nat} {a:Act} {b:Nat} {A:Array Value} {t:TypeId} (B:Bag S0 w0 L w) (h:∀w',Bag S0 w0 L w'→wpAnyH P .any ops Q (SB S0 w0 F) ops.size (Array.replicate ops.size false) a w')
 (hT:gt L i=tR b A t:=by exact rfl) (hF:∀v,L.set i (tR b (A.setIfInBounds k v) t)=F v:=by intro v;simp only [List.setIfInBounds_toArray,List.set_cons_zero,List.set_cons_succ];exact rfl)
 (hS:SB S0 w0 F w.drew:=by exact ⟨_,B.drew⟩) (hm:P.follows .mixedOrders=true:=by kernel_rfl):(Code.region id ops true).wp P Q a w:=wp_region_held_drew hm hS (fun _=>h _ B.drew)
theorem rga (i:Nat) {F:Array Value→List Th} {P:Program} {ops:Array Oper} {Q:Exit→Act→World→Prop} {id:Nat} {a:Act} {b:Nat} {A:Array Value} {t:TypeId} (B:Bag S0 w0 L w) (h:∀w',Bag S0 w0 L w'→wpAnyH P .any ops Q (SB S0 w0 F) ops.size (Array.replicate ops.size false) a w')
 (hT:gt L i=tR b A t:=by exact rfl) (hF:∀v,L.set i (tR b v t)=F v:=by intro v;simp only [List.setIfInBounds_toArray,List.set_cons_zero,List.set_cons_succ];exact rfl)
 (hS:SB S0 w0 F w.drew:=by exact ⟨_,B.drew⟩) (hm:P.follows .mixedOrders=true:=by kernel_rfl):(Code.region id ops true).wp P Q a w:=wp_region_held_drew hm hS (fun _=>h _ B.drew)
theorem rgxf (is:List Nat) {P:Program} {ops:Array Oper} {Q:Exit→Act→World→Prop} {id:Nat} {a:Act} (B:Bag S0 w0 L w) (h:∀w',Fr [] w w'→Bag S0 w0 L w'→wpAnyH P .any ops Q (SB S0 w0 fun (_:Unit)=>L') ops.size (Array.replicate ops.size false) a w')
 (hn:is.Nodup:=by decide) (hL:is.map (gt L)=L':=by simp only [List.map_cons,List.map_nil,gt,List.getD_cons_zero,List.getD_cons_succ];exact rfl) (hm:P.follows .mixedOrders=true:=by kernel_rfl):(Code.region id ops true).wp P Q a w:=wp_region_held_drew hm ⟨(),B.drew.sel is hn hL⟩ (fun _=>h _ (Fr.refl [] w).drew B.drew)
theorem set_self (A:Array Value) (k:Nat):A.setIfInBounds k (A.getD k undef)=A:=by
 apply Array.ext
 · simp
 · intro i h1 h2
   rw [Array.getElem_setIfInBounds (by simpa using h1)]
   split
   · next h=>subst h;simp [Array.getD,h2]
   · rfl
theorem rgm (i k k2:Nat) (is:List Nat) {F:Value×Value→List Th} {P:Program} {ops:Array Oper} {Q:Exit→Act→World→Prop} {id:Nat} {a:Act} {b:Nat} {A:Array Value} {t:TypeId} (B:Bag S0 w0 L w) (h:∀w',Bag S0 w0 L w'→wpAnyH P .any ops Q (SB S0 w0 F) ops.size (Array.replicate ops.size false) a w')
 (hT:gt L i=tR b A t:=by exact rfl) (hF:∀v,is.map (gt (L.set i (tR b ((A.setIfInBounds k v.1).setIfInBounds k2 v.2) t)))=F v:=by intro v;simp only [List.setIfInBounds_toArray,List.set_cons_zero,List.set_cons_succ,List.map_cons,List.map_nil,gt,List.getD_cons_zero,List.getD_cons_succ];exact rfl)
 (hn:is.Nodup:=by decide) (hm:P.follows .mixedOrders=true:=by kernel_rfl):(Code.region id ops true).wp P Q a w:=by
 refine wp_region_held_drew hm ⟨(A.getD k undef,A.getD k2 undef), ?_⟩ (fun _=>h _ B.drew)
 rw [←hF,set_self,set_self]
 have e:L.set i (tR b A t)=L:=by
  rw [←hT]
  by_cases h:i<L.length
  · simp [gt,List.getD_eq_getElem?_getD,h]
  · rw [List.set_eq_of_length_le (by omega)]
 rw [e]
 exact B.drew.sel is hn rfl
theorem rgx (is:List Nat) {P:Program} {ops:Array Oper} {Q:Exit→Act→World→Prop} {id:Nat} {a:Act} (B:Bag S0 w0 L w) (h:∀w',Bag S0 w0 L w'→wpAnyH P .any ops Q (SB S0 w0 fun (_:Unit)=>L') ops.size (Array.replicate ops.size false) a w')
 (hn:is.Nodup:=by decide) (hL:is.map (gt L)=L':=by simp only [List.map_cons,List.map_nil,gt,List.getD_cons_zero,List.getD_cons_succ];exact rfl) (hm:P.follows .mixedOrders=true:=by kernel_rfl):(Code.region id ops true).wp P Q a w:=wp_region_held_drew hm ⟨(),B.drew.sel is hn hL⟩ (fun _=>h _ B.drew)
end
section
variable {P:Program} {ops:Array Oper} {Q:Exit→Act→World→Prop} {md:Region.Mode} {V:Type} {S0:List Nat} {w0:World} {F:V→List Th}
theorem xr (i:Nat) {md:Region.Mode} {ops:Array Oper} {listed:Array Bool} (h:((Region.ready md ops listed).contains i&&Region.free md ops listed i)=true):((Region.ready md ops listed).contains i&&Region.free md ops listed i)=true:=h
def calm:Op→Bool
 |.call c=>(match c.callee with|.value _=>false|_=>true)
 |.store ..=>false
 |_=>true
theorem tb {i:Nat} {oi:Oper} {v:Value} {fuel:Nat} {listed l':Array Bool} {a a':Act} {w:World} (h:wpAnyH P md ops Q (SB S0 w0 F) fuel l' a' w)
 (hn:ops.size - (fuel+1)=i:=by
   simp only [List.size_toArray,List.length_cons,List.length_nil,Nat.reduceAdd,Nat.reduceSub]
   exact rfl)
 (hf:((Region.ready md ops listed).contains i&&Region.free md ops listed i)=true:=by decide+kernel)
 (hi:ops[i]?=some oi:=by
   simp only [List.getElem?_toArray,List.getElem?_cons_succ,List.getElem?_cons_zero]
   exact rfl)
 (hs:Region.noSelect ops=true:=by kernel_rfl)
 (hQ:∀c a w,Q (.panic c) (a.put oi.dst v) w→Q (.panic c) a w:=by exact fun _ _ _ h=>h)
 (hcm:calm oi.op=true:=by exact rfl)
 (hw:Region.wanted oi (yielded ops a.tmps)=true:=by rfl)
 (hy:∀w v',Bag S0 w0 (F v') w→(execOp a.eval oi).run P w=.ok (.value v) w:=by
   intro w _ B
   try simp only [List.getElem_toArray,List.getElem_cons_succ,List.getElem_cons_zero]
   try have q0:=B.q 0
   try have q1:=B.q 1
   try have q2:=B.q 2
   try have q3:=B.q 3
   try have q4:=B.q 4
   try have q5:=B.q 5
   try have q6:=B.wq 1 hk
   try have q7:=B.wq0 1 hk
   go_simp
   try with_reducible rfl)
 (hS:SB S0 w0 F w:=by first|exact ⟨(),B⟩|exact ⟨_,B⟩|exact ⟨(),B.pre⟩|exact ⟨_,B.pre⟩|exact ⟨(),B.sel [0,2,3]⟩|exact ⟨(),B.sel [0,2,3,4]⟩|exact ⟨(),B.sel [0,2]⟩|exact ⟨(_,_),B.sel [0,2,3,4]⟩|exact ⟨(_,_),B.sel [0,2,3]⟩|exact ⟨(),B.sel [0]⟩|exact ⟨(),B.sel [0,4]⟩)
 (ha:a.put oi.dst v=a':=by
   try go_frame
   exact rfl)
 (hl:listed.setIfInBounds i true=l':=by
   try simp only [List.setIfInBounds_toArray,List.set_cons_zero,List.set_cons_succ]
   exact rfl):wpAnyH P md ops Q (SB S0 w0 F) (fuel+1) listed a w:=by
 subst ha hl
 rw [Bool.and_eq_true] at hf
 exact wpAnyH_take hi hs hf.2 hf.1 hQ (.inl ⟨hw,fun w ⟨v,B⟩=>hy w v B⟩) hS h
theorem tj (i:Nat) {oi:Oper} {v:Value} {fuel:Nat} {listed l':Array Bool} {a a':Act} {w:World} (h:wpAnyH P md ops Q (SB S0 w0 F) fuel l' a' w)
 (hf:((Region.ready md ops listed).contains i&&Region.free md ops listed i)=true:=by decide+kernel)
 (hi:ops[i]?=some oi:=by
   simp only [List.getElem?_toArray,List.getElem?_cons_succ,List.getElem?_cons_zero]
   exact rfl)
 (hs:Region.noSelect ops=true:=by kernel_rfl)
 (hQ:∀c a w,Q (.panic c) (a.put oi.dst v) w→Q (.panic c) a w:=by exact fun _ _ _ h=>h)
 (hcm:calm oi.op=true:=by exact rfl)
 (hw:Region.wanted oi (yielded ops a.tmps)=true:=by rfl)
 (hy:∀w v',Bag S0 w0 (F v') w→(execOp a.eval oi).run P w=.ok (.value v) w:=by
   intro w _ B
   try simp only [List.getElem_toArray,List.getElem_cons_succ,List.getElem_cons_zero]
   try have q0:=B.q 0
   try have q1:=B.q 1
   try have q2:=B.q 2
   try have q3:=B.q 3
   try have q4:=B.q 4
   try have q5:=B.q 5
   try have q6:=B.wq 1 hk
   try have q7:=B.wq0 1 hk
   go_simp
   try with_reducible rfl)
 (hS:SB S0 w0 F w:=by first|exact ⟨(),B⟩|exact ⟨_,B⟩|exact ⟨(),B.pre⟩|exact ⟨_,B.pre⟩|exact ⟨(),B.sel [0,2,3]⟩|exact ⟨(),B.sel [0,2,3,4]⟩|exact ⟨(),B.sel [0,2]⟩|exact ⟨(_,_),B.sel [0,2,3,4]⟩|exact ⟨(_,_),B.sel [0,2,3]⟩|exact ⟨(),B.sel [0]⟩|exact ⟨(),B.sel [0,4]⟩)
 (ha:a.put oi.dst v=a':=by
   try go_frame
   exact rfl)
 (hl:listed.setIfInBounds i true=l':=by
   try simp only [List.setIfInBounds_toArray,List.set_cons_zero,List.set_cons_succ]
   exact rfl):wpAnyH P md ops Q (SB S0 w0 F) (fuel+1) listed a w:=by
 subst ha hl
 rw [Bool.and_eq_true] at hf
 exact wpAnyH_take hi hs hf.2 hf.1 hQ (.inl ⟨hw,fun w ⟨v,B⟩=>hy w v B⟩) hS h
theorem tv {i:Nat} {oi:Oper} {fuel:Nat} {listed l':Array Bool} {a a':Act} {w:World} (h:wpAnyH P md ops Q (SB S0 w0 F) fuel l' a' w)
 (hn:ops.size - (fuel+1)=i:=by
   simp only [List.size_toArray,List.length_cons,List.length_nil,Nat.reduceAdd,Nat.reduceSub]
   exact rfl)
 (hf:((Region.ready md ops listed).contains i&&Region.free md ops listed i)=true:=by decide+kernel)
 (hi:ops[i]?=some oi:=by
   simp only [List.getElem?_toArray,List.getElem?_cons_succ,List.getElem?_cons_zero]
   exact rfl)
 (hs:Region.noSelect ops=true:=by kernel_rfl)
 (hQ:∀c a w,Q (.panic c) (a.put oi.dst undef) w→Q (.panic c) a w:=by exact fun _ _ _ h=>h)
 (hw:Region.wanted oi (yielded ops a.tmps)=false:=by rfl)
 (hS:SB S0 w0 F w:=by first|exact ⟨(),B⟩|exact ⟨_,B⟩|exact ⟨(),B.pre⟩|exact ⟨_,B.pre⟩|exact ⟨(),B.sel [0,2,3]⟩|exact ⟨(),B.sel [0,2,3,4]⟩|exact ⟨(),B.sel [0,2]⟩|exact ⟨(_,_),B.sel [0,2,3,4]⟩|exact ⟨(_,_),B.sel [0,2,3]⟩|exact ⟨(),B.sel [0]⟩|exact ⟨(),B.sel [0,4]⟩)
 (ha:a.put oi.dst undef=a':=by
   try go_frame
   exact rfl)
 (hl:listed.setIfInBounds i true=l':=by
   try simp only [List.setIfInBounds_toArray,List.set_cons_zero,List.set_cons_succ]
   exact rfl):wpAnyH P md ops Q (SB S0 w0 F) (fuel+1) listed a w:=by
 subst ha hl
 rw [Bool.and_eq_true] at hf
 exact wpAnyH_take hi hs hf.2 hf.1 hQ (.inr ⟨hw,rfl⟩) hS h
theorem to {i:Nat} {o:Oper} {fuel:Nat} {listed l':Array Bool} {a:Act} {w:World}
 (h:∀K':Act→World→Prop,Shut (∀a w,SB S0 w0 F w→(SB S0 w0 F w→wpAnyH P md ops Q (SB S0 w0 F) fuel l' a w)→K' a w)→Oper.wp P o a w K' Q)
 (hn:ops.size - (fuel+1)=i:=by
   simp only [List.size_toArray,List.length_cons,List.length_nil,Nat.reduceAdd,Nat.reduceSub]
   exact rfl)
 (hr:Region.ready md ops listed=[i]:=by decide+kernel)
 (ho:ops[i]?=some o:=by
   simp only [List.getElem?_toArray,List.getElem?_cons_succ,List.getElem?_cons_zero]
   exact rfl)
 (hw:Region.wanted o (yielded ops a.tmps)=true:=by rfl)
 (hl:listed.setIfInBounds i true=l':=by
   try simp only [List.setIfInBounds_toArray,List.set_cons_zero,List.set_cons_succ]
   exact rfl):wpAnyH P md ops Q (SB S0 w0 F) (fuel+1) listed a w:=tc i h hr ho hw hl
theorem bk {fuel:Nat} {l':Array Bool} {K:Act→World→Prop} (hK:Shut (∀a w,SB S0 w0 F w→(SB S0 w0 F w→wpAnyH P md ops Q (SB S0 w0 F) fuel l' a w)→K a w)) {w:World} {a:Act} (h:wpAnyH P md ops Q (SB S0 w0 F) fuel l' a w) (hS:SB S0 w0 F w:=by first|exact ⟨(),B⟩|exact ⟨_,B⟩|exact ⟨(),B.pre⟩|exact ⟨_,B.pre⟩|exact ⟨(),B.sel [0,2,3]⟩|exact ⟨(),B.sel [0,2,3,4]⟩|exact ⟨(),B.sel [0,2]⟩|exact ⟨(_,_),B.sel [0,2,3,4]⟩|exact ⟨(_,_),B.sel [0,2,3]⟩|exact ⟨(),B.sel [0]⟩|exact ⟨(),B.sel [0,4]⟩):K a w:=
 hK.out _ _ hS fun _=>h
end
end
end Go.Proofs.YtgjklfmnmljilaaGreatDoor
