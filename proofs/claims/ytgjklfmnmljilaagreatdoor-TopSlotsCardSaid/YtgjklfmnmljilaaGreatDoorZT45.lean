/- A part of the proof: TsD to TsD. -/
import Derived.Test.YtgjklfmnmljilaaGreatDoorZT03
import Derived.Test.YtgjklfmnmljilaaGreatDoorZT44
namespace Go.Proofs.YtgjklfmnmljilaaGreatDoor
set_option linter.unusedVariables false
set_option linter.unusedSimpArgs false
set_option linter.unusedSectionVars false
set_option linter.unnecessarySimpa false
set_option maxRecDepth 100000
set_option maxHeartbeats 8000000
section
open Go.RowKit Go.Shelf Go.Lib
attribute [local go_sem] Oper.semAt_some
theorem Q7n (w:World) (p g1 g2 g3 n:Nat) (h:Jo) (C:List Value) (H:HB w p g1 g2 g3 n h.who h.gen C) (who:Int) (a:XL) (hb:IntKind.i64.wrap (who+1)=who+1):
 Calls Tryz.prog 51 #[pt p,.int .i64 who,a.val] w fun e w'=>e=.returned (.bool (h.has who a))∧Fr [] w w':=by
 unfold Jo.has
 have l1:=H.l1
 by_cases h0:a.slot<0
 · rw [if_pos (.inl h0)];exact Q9j w p g1 g2 g3 n _ _ C H who a h0
 · by_cases h1:(n:Int)≤a.slot
   · rw [if_pos (.inr (by omega))];exact Q7p w p g1 g2 g3 n _ _ C H who a (by omega) h1
   · rw [if_neg (by omega)]
     have hi:a.slot=(a.slot.toNat:Int):=by omega
     by_cases h2:h.who.getD a.slot.toNat 0=who+1
     · by_cases h3:h.gen.getD a.slot.toNat 0=a.gen
       · rw [decide_eq_true h2,decide_eq_true h3];exact Q9g w p g1 g2 g3 n _ _ C H who a _ hi (by omega) hb h2 h3
       · rw [decide_eq_false h3,Bool.and_false];exact Q9h w p g1 g2 g3 n _ _ C H who a _ hi (by omega) hb h2 h3
     · rw [decide_eq_false h2,Bool.false_and];exact Q9i w p g1 g2 g3 n _ _ C H who a _ hi (by omega) hb h2
theorem Q3k:(Tryz.prog.info? 4).map (fun i=>(i.zero,i.size,i.bytes))=some (some (.bool false),1,1):=by kernel_rfl
theorem mk8 (wx:World):(Instr.makeSlice 59 (.int .i64 8) (.int .i64 8)).run Tryz.prog wx=.ok (.slice (some ⟨wx.heap.size,0,none⟩) 8 8) (wx.alloc (.cells #[.bool false,.bool false,.bool false,.bool false,.bool false,.bool false,.bool false,.bool false] 4 (0,0))):=by
 obtain ⟨i0,hi0,hz0,hz1,hz2⟩:=info_parts Q3k
 have h:=run_make (P:=Tryz.prog) wx 59 4 i0 _ Tryz.underlying59 hi0 hz0 .i64 .i64 8 8 (by omega) (by omega) (by rw [hz2];omega) (by omega)
 rw [hz1] at h
 have e:madeCells (Value.bool false).cells ((8:Int).toNat*1)=#[.bool false,.bool false,.bool false,.bool false,.bool false,.bool false,.bool false,.bool false]:=by
  have e8:Array.range ((8:Int).toNat*1)=#[0,1,2,3,4,5,6,7]:=by decide
  unfold madeCells
  rw [e8]
  have hz:(Value.bool false).cells=#[.bool false]:=by simp [Value.cells]
  rw [hz]
  simp
 rw [e] at h
 exact h
theorem ints_set {w:World} {g:Nat} {L:List Int} (h:w.heap[g]?=some (.cells (L.map (Value.int .i64)).toArray 3 (0,0))) (i:Nat) (v:Int):(w.setCell ⟨g,i,none⟩ (.int .i64 v)).heap[g]?=some (.cells ((L.set i v).map (Value.int .i64)).toArray 3 (0,0)):=by
 have:=heap_setCell_same (i:=i) h (.int .i64 v)
 rw [this,List.map_set,List.setIfInBounds_toArray]
theorem Q67 {w:World} {g:Nat} {L:List Value} {e:TypeId} (h:w.heap[g]?=some (.cells L.toArray e (0,0))) (i:Nat) (v:Value):(w.setCell ⟨g,i,none⟩ v).heap[g]?=some (.cells (L.set i v).toArray e (0,0)):=by
 have:=heap_setCell_same (i:=i) h v
 rw [this,List.setIfInBounds_toArray]
theorem Vk {w:World} {g:Nat} {L:List Bool} (h:w.heap[g]?=some (.cells (L.map Value.bool).toArray 4 (0,0))) {i:Nat} (hi:i<L.length):w.cell? ⟨g,i,none⟩=some (.bool (L.getD i false)):=by
 refine cell_of h ?_
 rw [List.getElem?_toArray,List.getElem?_map,List.getD_eq_getElem?_getD,List.getElem?_eq_getElem hi];rfl
theorem E9 {w:World} {g:Nat} {L:List Bool} (h:w.heap[g]?=some (.cells (L.map Value.bool).toArray 4 (0,0))) (i:Nat) (v:Bool):(w.setCell ⟨g,i,none⟩ (.bool v)).heap[g]?=some (.cells ((L.set i v).map Value.bool).toArray 4 (0,0)):=by
 have:=heap_setCell_same (i:=i) h (.bool v)
 rw [this,List.map_set,List.setIfInBounds_toArray]
theorem Q6c (w:World) (p g1 g2 g3 n:Nat) (W G:List Int) (C:List Value) (H:HB w p g1 g2 g3 n W G C) (x:EvV) (ha:x.ended=false):
 Calls Tryz.prog 37 #[pt p,x.val] w fun e w'=>e=.returned (.bool true)∧Fr [] w w':=by
 obtain ⟨ended,who,at_,⟨aop,adl,awt,afc,asl,agn,ast⟩,e,slot,gen,stream,cI,cL,cE,cO⟩:=x
 unfold EvV.val EvV.cells pt
 dsimp only at*
 subst ha
 have HNE:=hid (And.intro H.ne (And.intro (Q6 H.b) (And.intro (Q6 H.b1) (And.intro (Q6 H.b2) (Q6 H.b3)))))
 have HP:=hid H.b
 have H1:=hid H.b1
 have H2:=hid H.b2
 have H3:=hid H.b3
 have HL1:=hid H.l1;have HL2:=hid H.l2;have HL3:=hid H.l3
 unfold XO at HP
 clear H
 have HF:=hid (Fr.refl [] w)
 go_in
 go_wp2_with fail
 have xHP:=Q6 HP.out
 have xH1:=Q6 H1.out
 have xH2:=Q6 H2.out
 have xH3:=Q6 H3.out
 have hb:=heap_alloc_new w (.cells #[.bool false,.int .i64 who,.int .i64 at_,.int .i64 aop,.int .i64 adl,.bool awt,.bool afc,.int .i64 asl,.int .i64 agn,.int .i64 ast,.int .i64 e,.int .i64 slot,.int .i64 gen,.int .i64 stream,.int .i64 cI,.int .i64 cL,.int .i64 cE,.int .i64 cO] 50 (0,0))
 have fb:=(Fr.refl [] w).alloc (.cells #[.bool false,.int .i64 who,.int .i64 at_,.int .i64 aop,.int .i64 adl,.bool awt,.bool afc,.int .i64 asl,.int .i64 agn,.int .i64 ast,.int .i64 e,.int .i64 slot,.int .i64 gen,.int .i64 stream,.int .i64 cI,.int .i64 cL,.int .i64 cE,.int .i64 cO] 50 (0,0))
 have hbs:=HF.out.size
 have hbw:w.heap.size≤w.heap.size:=Nat.le_refl _
 replace HP:=hid (fb.ar HP.out)
 replace H1:=hid (fb.ar H1.out)
 replace H2:=hid (fb.ar H2.out)
 replace H3:=hid (fb.ar H3.out)
 replace HF:=hid (HF.out.tm fb)
 clear fb
 obtain ⟨pe,hbe⟩:∃x,w.heap.size=x:=⟨_,rfl⟩
 have hbl:=Nat.le_of_eq hbe
 clear hbs
 have hbs:=Nat.le_of_eq hbe
 rw [hbe] at hb hbw xHP xH1 xH2 xH3 ⊢
 generalize w.alloc (.cells #[.bool false,.int .i64 who,.int .i64 at_,.int .i64 aop,.int .i64 adl,.bool awt,.bool afc,.int .i64 asl,.int .i64 agn,.int .i64 ast,.int .i64 e,.int .i64 slot,.int .i64 gen,.int .i64 stream,.int .i64 cI,.int .i64 cL,.int .i64 cE,.int .i64 cO] 50 (0,0))=w1 at hb HP H1 H2 H3 HF ⊢
 clear hbe hbw
 have HX:=hid hb
 clear hb
 replace HNE:=hid (And.intro HNE.out xHP)
 clear xHP
 replace HNE:=hid (And.intro HNE.out xH1)
 clear xH1
 replace HNE:=hid (And.intro HNE.out xH2)
 clear xH2
 replace HNE:=hid (And.intro HNE.out xH3)
 clear xH3
 replace HNE:=hid (And.intro HNE.out hbl)
 clear hbl
 replace HNE:=hid (And.intro HNE.out hbs)
 clear hbs
 have qHX0:=cl 0 HX.out
 go_wp2
 go_ret
 exact ⟨rfl,HF.out⟩
theorem Q6f (w:World) (p g1 g2 g3 n:Nat) (W G:List Int) (C:List Value) (H:HB w p g1 g2 g3 n W G C) (x:EvV) (ha:x.ended=true) (he:x.e≠0):
 Calls Tryz.prog 37 #[pt p,x.val] w fun e w'=>e=.returned (.bool true)∧Fr [] w w':=by
 obtain ⟨ended,who,at_,⟨aop,adl,awt,afc,asl,agn,ast⟩,e,slot,gen,stream,cI,cL,cE,cO⟩:=x
 unfold EvV.val EvV.cells pt
 dsimp only at*
 subst ha
 have d0:(e==0)=false:=by simp [he]
 have HNE:=hid (And.intro H.ne (And.intro (Q6 H.b) (And.intro (Q6 H.b1) (And.intro (Q6 H.b2) (Q6 H.b3)))))
 have HP:=hid H.b
 have H1:=hid H.b1
 have H2:=hid H.b2
 have H3:=hid H.b3
 have HL1:=hid H.l1;have HL2:=hid H.l2;have HL3:=hid H.l3
 unfold XO at HP
 clear H
 have HF:=hid (Fr.refl [] w)
 go_in
 go_wp2_with fail
 have xHP:=Q6 HP.out
 have xH1:=Q6 H1.out
 have xH2:=Q6 H2.out
 have xH3:=Q6 H3.out
 have hb:=heap_alloc_new w (.cells #[.bool true,.int .i64 who,.int .i64 at_,.int .i64 aop,.int .i64 adl,.bool awt,.bool afc,.int .i64 asl,.int .i64 agn,.int .i64 ast,.int .i64 e,.int .i64 slot,.int .i64 gen,.int .i64 stream,.int .i64 cI,.int .i64 cL,.int .i64 cE,.int .i64 cO] 50 (0,0))
 have fb:=(Fr.refl [] w).alloc (.cells #[.bool true,.int .i64 who,.int .i64 at_,.int .i64 aop,.int .i64 adl,.bool awt,.bool afc,.int .i64 asl,.int .i64 agn,.int .i64 ast,.int .i64 e,.int .i64 slot,.int .i64 gen,.int .i64 stream,.int .i64 cI,.int .i64 cL,.int .i64 cE,.int .i64 cO] 50 (0,0))
 have hbs:=HF.out.size
 have hbw:w.heap.size≤w.heap.size:=Nat.le_refl _
 replace HP:=hid (fb.ar HP.out)
 replace H1:=hid (fb.ar H1.out)
 replace H2:=hid (fb.ar H2.out)
 replace H3:=hid (fb.ar H3.out)
 replace HF:=hid (HF.out.tm fb)
 clear fb
 obtain ⟨pe,hbe⟩:∃x,w.heap.size=x:=⟨_,rfl⟩
 have hbl:=Nat.le_of_eq hbe
 clear hbs
 have hbs:=Nat.le_of_eq hbe
 rw [hbe] at hb hbw xHP xH1 xH2 xH3 ⊢
 generalize w.alloc (.cells #[.bool true,.int .i64 who,.int .i64 at_,.int .i64 aop,.int .i64 adl,.bool awt,.bool afc,.int .i64 asl,.int .i64 agn,.int .i64 ast,.int .i64 e,.int .i64 slot,.int .i64 gen,.int .i64 stream,.int .i64 cI,.int .i64 cL,.int .i64 cE,.int .i64 cO] 50 (0,0))=w1 at hb HP H1 H2 H3 HF ⊢
 clear hbe hbw
 have HX:=hid hb
 clear hb
 replace HNE:=hid (And.intro HNE.out xHP)
 clear xHP
 replace HNE:=hid (And.intro HNE.out xH1)
 clear xH1
 replace HNE:=hid (And.intro HNE.out xH2)
 clear xH2
 replace HNE:=hid (And.intro HNE.out xH3)
 clear xH3
 replace HNE:=hid (And.intro HNE.out hbl)
 clear hbl
 replace HNE:=hid (And.intro HNE.out hbs)
 clear hbs
 have qHX0:=cl 0 HX.out
 have qHX10:=cl 10 HX.out
 go_wp2
 go_ret
 exact ⟨rfl,HF.out⟩
theorem Q6d (w:World) (p g1 g2 g3 n:Nat) (W G:List Int) (C:List Value) (H:HB w p g1 g2 g3 n W G C) (x:EvV) (ha:x.ended=true) (he:x.e=0) (ho:x.ask.op≠0∧x.ask.op≠1∧x.ask.op≠2∧x.ask.op≠3∧x.ask.op≠4):
 Calls Tryz.prog 37 #[pt p,x.val] w fun e w'=>e=.returned (.bool true)∧Fr [] w w':=by
 obtain ⟨ended,who,at_,⟨aop,adl,awt,afc,asl,agn,ast⟩,e,slot,gen,stream,cI,cL,cE,cO⟩:=x
 unfold EvV.val EvV.cells pt
 dsimp only at*
 subst ha he
 have d0:(aop==0)=false:=by simp [ho]
 have d1:(aop==1)=false:=by simp [ho]
 have d2:(aop==2)=false:=by simp [ho]
 have d3:(aop==3)=false:=by simp [ho]
 have d4:(aop==4)=false:=by simp [ho]
 clear ho
 have HNE:=hid (And.intro H.ne (And.intro (Q6 H.b) (And.intro (Q6 H.b1) (And.intro (Q6 H.b2) (Q6 H.b3)))))
 have HP:=hid H.b
 have H1:=hid H.b1
 have H2:=hid H.b2
 have H3:=hid H.b3
 have HL1:=hid H.l1;have HL2:=hid H.l2;have HL3:=hid H.l3
 unfold XO at HP
 clear H
 have HF:=hid (Fr.refl [] w)
 go_in
 go_wp2_with fail
 have xHP:=Q6 HP.out
 have xH1:=Q6 H1.out
 have xH2:=Q6 H2.out
 have xH3:=Q6 H3.out
 have hb:=heap_alloc_new w (.cells #[.bool true,.int .i64 who,.int .i64 at_,.int .i64 aop,.int .i64 adl,.bool awt,.bool afc,.int .i64 asl,.int .i64 agn,.int .i64 ast,.int .i64 0,.int .i64 slot,.int .i64 gen,.int .i64 stream,.int .i64 cI,.int .i64 cL,.int .i64 cE,.int .i64 cO] 50 (0,0))
 have fb:=(Fr.refl [] w).alloc (.cells #[.bool true,.int .i64 who,.int .i64 at_,.int .i64 aop,.int .i64 adl,.bool awt,.bool afc,.int .i64 asl,.int .i64 agn,.int .i64 ast,.int .i64 0,.int .i64 slot,.int .i64 gen,.int .i64 stream,.int .i64 cI,.int .i64 cL,.int .i64 cE,.int .i64 cO] 50 (0,0))
 have hbs:=HF.out.size
 have hbw:w.heap.size≤w.heap.size:=Nat.le_refl _
 replace HP:=hid (fb.ar HP.out)
 replace H1:=hid (fb.ar H1.out)
 replace H2:=hid (fb.ar H2.out)
 replace H3:=hid (fb.ar H3.out)
 replace HF:=hid (HF.out.tm fb)
 clear fb
 obtain ⟨pe,hbe⟩:∃x,w.heap.size=x:=⟨_,rfl⟩
 have hbl:=Nat.le_of_eq hbe
 clear hbs
 have hbs:=Nat.le_of_eq hbe
 rw [hbe] at hb hbw xHP xH1 xH2 xH3 ⊢
 generalize w.alloc (.cells #[.bool true,.int .i64 who,.int .i64 at_,.int .i64 aop,.int .i64 adl,.bool awt,.bool afc,.int .i64 asl,.int .i64 agn,.int .i64 ast,.int .i64 0,.int .i64 slot,.int .i64 gen,.int .i64 stream,.int .i64 cI,.int .i64 cL,.int .i64 cE,.int .i64 cO] 50 (0,0))=w1 at hb HP H1 H2 H3 HF ⊢
 clear hbe hbw
 have HX:=hid hb
 clear hb
 replace HNE:=hid (And.intro HNE.out xHP)
 clear xHP
 replace HNE:=hid (And.intro HNE.out xH1)
 clear xH1
 replace HNE:=hid (And.intro HNE.out xH2)
 clear xH2
 replace HNE:=hid (And.intro HNE.out xH3)
 clear xH3
 replace HNE:=hid (And.intro HNE.out hbl)
 clear hbl
 replace HNE:=hid (And.intro HNE.out hbs)
 clear hbs
 have qHX0:=cl 0 HX.out
 have qHX3:=cl 3 HX.out
 have qHX7:=cl 7 HX.out
 have qHX10:=cl 10 HX.out
 go_wp2
 go_ret
 exact ⟨rfl,HF.out⟩
theorem Q6e (w:World) (p g1 g2 g3 n:Nat) (W G:List Int) (C:List Value) (H:HB w p g1 g2 g3 n W G C) (x:EvV) (ha:x.ended=true) (he:x.e=0) (ho:x.ask.op=0) (i:Nat) (hi:x.slot=i) (h1:i<n) (hb:IntKind.i64.wrap (x.who+1)=x.who+1):
 Calls Tryz.prog 37 #[pt p,x.val] w fun e w'=>e=.returned (.bool true)∧∃g,w.heap.size≤g∧HB w' p g1 g2 g3 n (W.set i (x.who+1)) (G.set i x.gen) (C.set i (XO g 8))∧w'.heap[g]?=some (.cells ((List.replicate 8 false).map Value.bool).toArray 4 (0,0))∧Fr [g1,g2,g3] w w':=by
 obtain ⟨ended,who,at_,⟨aop,adl,awt,afc,asl,agn,ast⟩,e,slot,gen,stream,cI,cL,cE,cO⟩:=x
 unfold EvV.val EvV.cells pt
 dsimp only at*
 subst ha he ho hi
 have d1:decide ((i:Int)<0)=false:=decide_eq_false (by omega)
 have d2:decide (n≤i)=false:=decide_eq_false (by omega)
 have HDN:=hid H.ne
 obtain ⟨y,hy⟩:∃y,C[i]?=some y:=⟨_,List.getElem?_eq_getElem (by rw [H.l3];exact h1)⟩
 have HC3:=hid hy
 clear hy
 have HNE:=hid (And.intro H.ne (And.intro (Q6 H.b) (And.intro (Q6 H.b1) (And.intro (Q6 H.b2) (Q6 H.b3)))))
 have HP:=hid H.b
 have H1:=hid H.b1
 have H2:=hid H.b2
 have H3:=hid H.b3
 have HL1:=hid H.l1;have HL2:=hid H.l2;have HL3:=hid H.l3
 unfold XO at HP
 clear H
 have HF:=hid (Fr.refl [g1,g2,g3] w)
 go_in
 go_wp2_with fail
 have xHP:=Q6 HP.out
 have xH1:=Q6 H1.out
 have xH2:=Q6 H2.out
 have xH3:=Q6 H3.out
 have hb:=heap_alloc_new w (.cells #[.bool true,.int .i64 who,.int .i64 at_,.int .i64 0,.int .i64 adl,.bool awt,.bool afc,.int .i64 asl,.int .i64 agn,.int .i64 ast,.int .i64 0,.int .i64 (i:Int),.int .i64 gen,.int .i64 stream,.int .i64 cI,.int .i64 cL,.int .i64 cE,.int .i64 cO] 50 (0,0))
 have fb:=(Fr.refl [] w).alloc (.cells #[.bool true,.int .i64 who,.int .i64 at_,.int .i64 0,.int .i64 adl,.bool awt,.bool afc,.int .i64 asl,.int .i64 agn,.int .i64 ast,.int .i64 0,.int .i64 (i:Int),.int .i64 gen,.int .i64 stream,.int .i64 cI,.int .i64 cL,.int .i64 cE,.int .i64 cO] 50 (0,0))
 have hbs:=HF.out.size
 have hbw:w.heap.size≤w.heap.size:=Nat.le_refl _
 replace HP:=hid (fb.ar HP.out)
 replace H1:=hid (fb.ar H1.out)
 replace H2:=hid (fb.ar H2.out)
 replace H3:=hid (fb.ar H3.out)
 replace HF:=hid (HF.out.tm fb)
 clear fb
 obtain ⟨pe,hbe⟩:∃x,w.heap.size=x:=⟨_,rfl⟩
 have hbl:=Nat.le_of_eq hbe
 clear hbs
 have hbs:=Nat.le_of_eq hbe
 rw [hbe] at hb hbw xHP xH1 xH2 xH3 ⊢
 generalize w.alloc (.cells #[.bool true,.int .i64 who,.int .i64 at_,.int .i64 0,.int .i64 adl,.bool awt,.bool afc,.int .i64 asl,.int .i64 agn,.int .i64 ast,.int .i64 0,.int .i64 (i:Int),.int .i64 gen,.int .i64 stream,.int .i64 cI,.int .i64 cL,.int .i64 cE,.int .i64 cO] 50 (0,0))=w1 at hb HP H1 H2 H3 HF ⊢
 clear hbe hbw
 have HX:=hid hb
 clear hb
 replace HNE:=hid (And.intro HNE.out xHP)
 clear xHP
 replace HNE:=hid (And.intro HNE.out xH1)
 clear xH1
 replace HNE:=hid (And.intro HNE.out xH2)
 clear xH2
 replace HNE:=hid (And.intro HNE.out xH3)
 clear xH3
 replace HNE:=hid (And.intro HNE.out hbl)
 clear hbl
 replace HNE:=hid (And.intro HNE.out hbs)
 clear hbs
 have qHX0:=cl 0 HX.out
 have qHX3:=cl 3 HX.out
 have qHX7:=cl 7 HX.out
 have qHX10:=cl 10 HX.out
 go_wp2_with fail
 have qHX11:=cl 11 HX.out
 have qHP0:=cl 0 HP.out
 refine wp_region_held_drew (S:=fun w'=>w'.cell? ⟨pe,11,none⟩=some (.int .i64 (i:Int))∧w'.cell? ⟨p,0,none⟩=some (.slice (some ⟨g1,0,none⟩) n n)) (by kernel_rfl) ⟨qHX11,qHP0⟩ (fun hHeld=> ?_)
 clear qHX0 qHX3 qHX7 qHX10 qHX11 qHP0
 have fd:=(Fr.refl [] w1).drew
 replace HP:=hid (fd.ar HP.out)
 replace H1:=hid (fd.ar H1.out)
 replace H2:=hid (fd.ar H2.out)
 replace H3:=hid (fd.ar H3.out)
 replace HX:=hid (fd.ar HX.out)
 replace HF:=hid (HF.out.tm fd)
 clear fd
 refine tk 0 ?_
 refine tk 1 ?_
 refine tk 2 ?_
 refine tk 3 ?_
 refine tk 4 ?_
 refine tk 5 ?_
 refine tk 6 ?_
 refine tk 7 ?_
 refine tk 8 ?_
 refine tk 9 ?_
 refine tk 10 ?_
 refine tk 11 ?_
 refine tk 12 ?_
 refine wpAnyH_done (by kernel_rfl) ?_ _
 clear hHeld
 go_wp2_with fail
 have qHX1:=cl 1 HX.out
 have qHX11:=cl 11 HX.out
 have qHP0:=cl 0 HP.out
 refine wp_region_held_drew (S:=fun w'=>w'.cell? ⟨pe,1,none⟩=some (.int .i64 who)∧w'.cell? ⟨pe,11,none⟩=some (.int .i64 (i:Int))∧w'.cell? ⟨p,0,none⟩=some (.slice (some ⟨g1,0,none⟩) n n)) (by kernel_rfl) ⟨qHX1,qHX11,qHP0⟩ (fun hHeld=> ?_)
 clear qHX1 qHX11 qHP0
 have fd:=(Fr.refl [] w1.drew).drew
 replace HP:=hid (fd.ar HP.out)
 replace H1:=hid (fd.ar H1.out)
 replace H2:=hid (fd.ar H2.out)
 replace H3:=hid (fd.ar H3.out)
 replace HX:=hid (fd.ar HX.out)
 replace HF:=hid (HF.out.tm fd)
 clear fd
 refine tk 0 ?_
 refine tk 1 ?_
 refine tk 2 ?_
 refine tk 3 ?_
 refine tk 4 ?_
 refine tk 5 ?_
 refine tk 6 ?_
 refine tk 7 ?_
 refine tk 8 ?_
 refine tk 9 ?_
 generalize w1.drew.drew=w2 at HP H1 H2 H3 HX HF hHeld ⊢
 have qs:=Xy H1.out (i:=i) (by rw [HL1.out];exact h1)
 have us:=Q9 (i:=i) H1.out
 refine tc 10 (fun K hK=> ?_)
 go_simp
 have fq:=(Fr.refl [g1] w2).setCell (p:=⟨g1,i,none⟩) (.inl (by simp)) (.int .i64 (who+1))
 refine hK.out _ _ ⟨fq.c hHeld.1,fq.c hHeld.2.1,fq.c hHeld.2.2⟩ (fun hHeld=> ?_)
 clear hK K fq
 try go_frame
 clear qs us
 have fs:=(Fr.refl [g1] w2).setCell (p:=⟨g1,i,none⟩) (.inl (by simp)) (.int .i64 (who+1))
 have hb1:=ints_set H1.out i (who+1)
 replace H1:=hid hb1
 clear hb1
 replace HP:=hid (fs.ar HP.out)
 replace H2:=hid (fs.ar H2.out)
 replace H3:=hid (fs.ar H3.out)
 replace HX:=hid (fs.ar HX.out)
 replace HF:=hid (HF.out.th fs)
 clear fs
 generalize (w2.setCell ⟨g1,i,none⟩ (.int .i64 (who+1)))=w3 at HP H1 H2 H3 HX HF hHeld ⊢
 refine wpAnyH_done (by kernel_rfl) ?_ _
 clear hHeld
 go_wp2_with fail
 have qHX12:=cl 12 HX.out
 have qHX11:=cl 11 HX.out
 have qHP1:=cl 1 HP.out
 refine wp_region_held_drew (S:=fun w'=>w'.cell? ⟨pe,12,none⟩=some (.int .i64 gen)∧w'.cell? ⟨pe,11,none⟩=some (.int .i64 (i:Int))∧w'.cell? ⟨p,1,none⟩=some (.slice (some ⟨g2,0,none⟩) n n)) (by kernel_rfl) ⟨qHX12,qHX11,qHP1⟩ (fun hHeld=> ?_)
 clear qHX12 qHX11 qHP1
 have fd:=(Fr.refl [] w3).drew
 replace HP:=hid (fd.ar HP.out)
 replace H1:=hid (fd.ar H1.out)
 replace H2:=hid (fd.ar H2.out)
 replace H3:=hid (fd.ar H3.out)
 replace HX:=hid (fd.ar HX.out)
 replace HF:=hid (HF.out.tm fd)
 clear fd
 refine tk 0 ?_
 refine tk 1 ?_
 refine tk 2 ?_
 refine tk 3 ?_
 refine tk 4 ?_
 refine tk 5 ?_
 refine tk 6 ?_
 refine tk 7 ?_
 refine tk 8 ?_
 generalize w3.drew=w4 at HP H1 H2 H3 HX HF hHeld ⊢
 have qs:=Xy H2.out (i:=i) (by rw [HL2.out];exact h1)
 have us:=Q9 (i:=i) H2.out
 refine tc 9 (fun K hK=> ?_)
 go_simp
 have fq:=(Fr.refl [g2] w4).setCell (p:=⟨g2,i,none⟩) (.inl (by simp)) (.int .i64 gen)
 refine hK.out _ _ ⟨fq.c hHeld.1,fq.c hHeld.2.1,fq.c hHeld.2.2⟩ (fun hHeld=> ?_)
 clear hK K fq
 try go_frame
 clear qs us
 have fs:=(Fr.refl [g2] w4).setCell (p:=⟨g2,i,none⟩) (.inl (by simp)) (.int .i64 gen)
 have hb1:=ints_set H2.out i gen
 replace H2:=hid hb1
 clear hb1
 replace HP:=hid (fs.ar HP.out)
 replace H1:=hid (fs.ar H1.out)
 replace H3:=hid (fs.ar H3.out)
 replace HX:=hid (fs.ar HX.out)
 replace HF:=hid (HF.out.th fs)
 clear fs
 generalize (w4.setCell ⟨g2,i,none⟩ (.int .i64 gen))=w5 at HP H1 H2 H3 HX HF hHeld ⊢
 refine wpAnyH_done (by kernel_rfl) ?_ _
 clear hHeld
 go_wp2_with fail
 have qHX11:=cl 11 HX.out
 have qHP2:=cl 2 HP.out
 refine wp_region_held_drew (S:=fun w'=>w'.cell? ⟨pe,11,none⟩=some (.int .i64 (i:Int))∧w'.cell? ⟨p,2,none⟩=some (.slice (some ⟨g3,0,none⟩) n n)) (by kernel_rfl) ⟨qHX11,qHP2⟩ (fun hHeld=> ?_)
 clear qHX11 qHP2
 have fd:=(Fr.refl [] w5).drew
 replace HP:=hid (fd.ar HP.out)
 replace H1:=hid (fd.ar H1.out)
 replace H2:=hid (fd.ar H2.out)
 replace H3:=hid (fd.ar H3.out)
 replace HX:=hid (fd.ar HX.out)
 replace HF:=hid (HF.out.tm fd)
 clear fd
 refine tk 0 ?_
 refine tk 1 ?_
 refine tk 2 ?_
 refine tk 3 ?_
 refine tk 4 ?_
 refine tk 5 ?_
 generalize w5.drew=w6 at HP H1 H2 H3 HX HF hHeld ⊢
 have hmk:=mk8
 refine tc 6 (fun K hK=> ?_)
 go_simp
 have fq:=(Fr.refl [] w6).alloc (.cells #[.bool false,.bool false,.bool false,.bool false,.bool false,.bool false,.bool false,.bool false] 4 (0,0))
 refine hK.out _ _ ⟨fq.c hHeld.1,fq.c hHeld.2⟩ (fun hHeld=> ?_)
 clear hK K fq
 try go_frame
 have xH1:=Q6 H1.out
 have xH2:=Q6 H2.out
 have xH3:=Q6 H3.out
 have hb:=heap_alloc_new w6 (.cells #[.bool false,.bool false,.bool false,.bool false,.bool false,.bool false,.bool false,.bool false] 4 (0,0))
 have fb:=(Fr.refl [] w6).alloc (.cells #[.bool false,.bool false,.bool false,.bool false,.bool false,.bool false,.bool false,.bool false] 4 (0,0))
 have hbs:=HF.out.size
 have hbw:w6.heap.size≤w6.heap.size:=Nat.le_refl _
 replace HP:=hid (fb.ar HP.out)
 replace H1:=hid (fb.ar H1.out)
 replace H2:=hid (fb.ar H2.out)
 replace H3:=hid (fb.ar H3.out)
 replace HX:=hid (fb.ar HX.out)
 replace HF:=hid (HF.out.tm fb)
 clear fb
 obtain ⟨g,hbe⟩:∃x,w6.heap.size=x:=⟨_,rfl⟩
 have hbl:=Nat.le_of_eq hbe
 rw [hbe] at hb hbs hbw xH1 xH2 xH3 ⊢
 generalize w6.alloc (.cells #[.bool false,.bool false,.bool false,.bool false,.bool false,.bool false,.bool false,.bool false] 4 (0,0))=w7 at hb HP H1 H2 H3 HX hHeld HF ⊢
 clear hbe hbw
 have HG:=hid hb
 clear hb
 replace HNE:=hid (And.intro HNE.out xH1)
 clear xH1
 replace HNE:=hid (And.intro HNE.out xH2)
 clear xH2
 replace HNE:=hid (And.intro HNE.out xH3)
 clear xH3
 replace HNE:=hid (And.intro HNE.out hbl)
 clear hbl
 replace HNE:=hid (And.intro HNE.out hbs)
 clear hbs
 clear hmk
 refine tk 7 ?_
 generalize w7=w8 at HP H1 H2 H3 HX HG HF hHeld ⊢
 have qs:=YK H3.out (i:=i) HC3.out
 have us:=Q9 (i:=i) H3.out
 refine tc 8 (fun K hK=> ?_)
 go_simp
 have fq:=(Fr.refl [g3] w8).setCell (p:=⟨g3,i,none⟩) (.inl (by simp)) (.slice (some ⟨g,0,none⟩) 8 8)
 refine hK.out _ _ ⟨fq.c hHeld.1,fq.c hHeld.2⟩ (fun hHeld=> ?_)
 clear hK K fq
 try go_frame
 clear qs us
 have fs:=(Fr.refl [g3] w8).setCell (p:=⟨g3,i,none⟩) (.inl (by simp)) (.slice (some ⟨g,0,none⟩) 8 8)
 have hb1:=Q67 H3.out i (.slice (some ⟨g,0,none⟩) 8 8)
 replace H3:=hid hb1
 clear hb1
 replace HP:=hid (fs.ar HP.out)
 replace H1:=hid (fs.ar H1.out)
 replace H2:=hid (fs.ar H2.out)
 replace HX:=hid (fs.ar HX.out)
 replace HG:=hid (fs.ar HG.out)
 replace HF:=hid (HF.out.th fs)
 clear fs
 generalize (w8.setCell ⟨g3,i,none⟩ (.slice (some ⟨g,0,none⟩) 8 8))=w9 at HP H1 H2 H3 HX HG HF hHeld ⊢
 refine wpAnyH_done (by kernel_rfl) ?_ _
 clear hHeld
 go_wp2
 go_ret
 refine ⟨rfl,g, ?_,⟨HP.out,H1.out,H2.out,H3.out, ?_, ?_, ?_,HDN.out⟩,HG.out,HF.out⟩
 · have:=HNE.out;omega
 · rw [List.length_set];exact HL1.out
 · rw [List.length_set];exact HL2.out
 · rw [List.length_set];exact HL3.out
theorem Q0s (w:World) (p g1 g2 g3 n:Nat) (W G:List Int) (C:List Value) (H:HB w p g1 g2 g3 n W G C) (x:EvV) (ha:x.ended=true) (he:x.e=0) (ho:x.ask.op=1) (HH:∀w',HB w' p g1 g2 g3 n W G C→Calls Tryz.prog 51 #[pt p,.int .i64 x.who,x.ask.val] w' fun e w2=>e=.returned (.bool false)∧Fr [] w' w2):
 Calls Tryz.prog 37 #[pt p,x.val] w fun e w'=>e=.returned (.bool true)∧Fr [] w w':=by
 obtain ⟨ended,who,at_,⟨aop,adl,awt,afc,asl,agn,ast⟩,e,slot,gen,stream,cI,cL,cE,cO⟩:=x
 unfold EvV.val EvV.cells pt
 dsimp only at*
 subst ha he ho
 unfold XL.val at HH
 dsimp only at HH
 have HHA:=hid HH
 have HDN:=hid H.ne
 clear HH
 have HNE:=hid (And.intro H.ne (And.intro (Q6 H.b) (And.intro (Q6 H.b1) (And.intro (Q6 H.b2) (Q6 H.b3)))))
 have HP:=hid H.b
 have H1:=hid H.b1
 have H2:=hid H.b2
 have H3:=hid H.b3
 have HL1:=hid H.l1;have HL2:=hid H.l2;have HL3:=hid H.l3
 unfold XO at HP
 clear H
 have HF:=hid (Fr.refl [] w)
 go_in
 go_wp2_with fail
 have xHP:=Q6 HP.out
 have xH1:=Q6 H1.out
 have xH2:=Q6 H2.out
 have xH3:=Q6 H3.out
 have hb:=heap_alloc_new w (.cells #[.bool true,.int .i64 who,.int .i64 at_,.int .i64 1,.int .i64 adl,.bool awt,.bool afc,.int .i64 asl,.int .i64 agn,.int .i64 ast,.int .i64 0,.int .i64 slot,.int .i64 gen,.int .i64 stream,.int .i64 cI,.int .i64 cL,.int .i64 cE,.int .i64 cO] 50 (0,0))
 have fb:=(Fr.refl [] w).alloc (.cells #[.bool true,.int .i64 who,.int .i64 at_,.int .i64 1,.int .i64 adl,.bool awt,.bool afc,.int .i64 asl,.int .i64 agn,.int .i64 ast,.int .i64 0,.int .i64 slot,.int .i64 gen,.int .i64 stream,.int .i64 cI,.int .i64 cL,.int .i64 cE,.int .i64 cO] 50 (0,0))
 have hbs:=HF.out.size
 have hbw:w.heap.size≤w.heap.size:=Nat.le_refl _
 replace HP:=hid (fb.ar HP.out)
 replace H1:=hid (fb.ar H1.out)
 replace H2:=hid (fb.ar H2.out)
 replace H3:=hid (fb.ar H3.out)
 replace HF:=hid (HF.out.tm fb)
 clear fb
 obtain ⟨pe,hbe⟩:∃x,w.heap.size=x:=⟨_,rfl⟩
 have hbl:=Nat.le_of_eq hbe
 clear hbs
 have hbs:=Nat.le_of_eq hbe
 rw [hbe] at hb hbw xHP xH1 xH2 xH3 ⊢
 generalize w.alloc (.cells #[.bool true,.int .i64 who,.int .i64 at_,.int .i64 1,.int .i64 adl,.bool awt,.bool afc,.int .i64 asl,.int .i64 agn,.int .i64 ast,.int .i64 0,.int .i64 slot,.int .i64 gen,.int .i64 stream,.int .i64 cI,.int .i64 cL,.int .i64 cE,.int .i64 cO] 50 (0,0))=w1 at hb HP H1 H2 H3 HF ⊢
 clear hbe hbw
 have HX:=hid hb
 clear hb
 replace HNE:=hid (And.intro HNE.out xHP)
 clear xHP
 replace HNE:=hid (And.intro HNE.out xH1)
 clear xH1
 replace HNE:=hid (And.intro HNE.out xH2)
 clear xH2
 replace HNE:=hid (And.intro HNE.out xH3)
 clear xH3
 replace HNE:=hid (And.intro HNE.out hbl)
 clear hbl
 replace HNE:=hid (And.intro HNE.out hbs)
 clear hbs
 have qHX0:=cl 0 HX.out
 have qHX1:=cl 1 HX.out
 have qHX2:=cl 2 HX.out
 have qHX3:=cl 3 HX.out
 have qHX4:=cl 4 HX.out
 have qHX5:=cl 5 HX.out
 have qHX6:=cl 6 HX.out
 have qHX7:=cl 7 HX.out
 have qHX8:=cl 8 HX.out
 have qHX9:=cl 9 HX.out
 have qHX10:=cl 10 HX.out
 go_wp2_with fail
 refine (HHA.out _ ⟨HP.out,H1.out,H2.out,H3.out,HL1.out,HL2.out,HL3.out,HDN.out⟩).mono ?_
 rintro e w2 ⟨rfl,f2⟩
 clear qHX0 qHX1 qHX2 qHX3 qHX4 qHX5 qHX6 qHX7 qHX8 qHX9 qHX10
 replace HP:=hid (f2.ar HP.out)
 replace H1:=hid (f2.ar H1.out)
 replace H2:=hid (f2.ar H2.out)
 replace H3:=hid (f2.ar H3.out)
 replace HX:=hid (f2.ar HX.out)
 replace HF:=hid (HF.out.tm f2)
 clear f2
 go_wp2
 go_ret
 exact ⟨rfl,HF.out⟩
theorem Q0r (w:World) (p g1 g2 g3 n:Nat) (W G:List Int) (C:List Value) (H:HB w p g1 g2 g3 n W G C) (x:EvV) (ha:x.ended=true) (he:x.e=0) (ho:x.ask.op=1) (i:Nat) (hi:x.ask.slot=i) (h1:i<n) (HH:∀w',HB w' p g1 g2 g3 n W G C→Calls Tryz.prog 51 #[pt p,.int .i64 x.who,x.ask.val] w' fun e w2=>e=.returned (.bool true)∧Fr [] w' w2):
 Calls Tryz.prog 37 #[pt p,x.val] w fun e w'=>e=.returned (.bool true)∧HB w' p g1 g2 g3 n (W.set i 0) G C∧Fr [g1] w w':=by
 obtain ⟨ended,who,at_,⟨aop,adl,awt,afc,asl,agn,ast⟩,e,slot,gen,stream,cI,cL,cE,cO⟩:=x
 unfold EvV.val EvV.cells pt
 dsimp only at*
 subst ha he ho hi
 unfold XL.val at HH
 dsimp only at HH
 have HHA:=hid HH
 have HDN:=hid H.ne
 clear HH
 have HNE:=hid (And.intro H.ne (And.intro (Q6 H.b) (And.intro (Q6 H.b1) (And.intro (Q6 H.b2) (Q6 H.b3)))))
 have HP:=hid H.b
 have H1:=hid H.b1
 have H2:=hid H.b2
 have H3:=hid H.b3
 have HL1:=hid H.l1;have HL2:=hid H.l2;have HL3:=hid H.l3
 unfold XO at HP
 clear H
 have HF:=hid (Fr.refl [g1] w)
 go_in
 go_wp2_with fail
 have xHP:=Q6 HP.out
 have xH1:=Q6 H1.out
 have xH2:=Q6 H2.out
 have xH3:=Q6 H3.out
 have hb:=heap_alloc_new w (.cells #[.bool true,.int .i64 who,.int .i64 at_,.int .i64 1,.int .i64 adl,.bool awt,.bool afc,.int .i64 (i:Int),.int .i64 agn,.int .i64 ast,.int .i64 0,.int .i64 slot,.int .i64 gen,.int .i64 stream,.int .i64 cI,.int .i64 cL,.int .i64 cE,.int .i64 cO] 50 (0,0))
 have fb:=(Fr.refl [] w).alloc (.cells #[.bool true,.int .i64 who,.int .i64 at_,.int .i64 1,.int .i64 adl,.bool awt,.bool afc,.int .i64 (i:Int),.int .i64 agn,.int .i64 ast,.int .i64 0,.int .i64 slot,.int .i64 gen,.int .i64 stream,.int .i64 cI,.int .i64 cL,.int .i64 cE,.int .i64 cO] 50 (0,0))
 have hbs:=HF.out.size
 have hbw:w.heap.size≤w.heap.size:=Nat.le_refl _
 replace HP:=hid (fb.ar HP.out)
 replace H1:=hid (fb.ar H1.out)
 replace H2:=hid (fb.ar H2.out)
 replace H3:=hid (fb.ar H3.out)
 replace HF:=hid (HF.out.tm fb)
 clear fb
 obtain ⟨pe,hbe⟩:∃x,w.heap.size=x:=⟨_,rfl⟩
 have hbl:=Nat.le_of_eq hbe
 clear hbs
 have hbs:=Nat.le_of_eq hbe
 rw [hbe] at hb hbw xHP xH1 xH2 xH3 ⊢
 generalize w.alloc (.cells #[.bool true,.int .i64 who,.int .i64 at_,.int .i64 1,.int .i64 adl,.bool awt,.bool afc,.int .i64 (i:Int),.int .i64 agn,.int .i64 ast,.int .i64 0,.int .i64 slot,.int .i64 gen,.int .i64 stream,.int .i64 cI,.int .i64 cL,.int .i64 cE,.int .i64 cO] 50 (0,0))=w1 at hb HP H1 H2 H3 HF ⊢
 clear hbe hbw
 have HX:=hid hb
 clear hb
 replace HNE:=hid (And.intro HNE.out xHP)
 clear xHP
 replace HNE:=hid (And.intro HNE.out xH1)
 clear xH1
 replace HNE:=hid (And.intro HNE.out xH2)
 clear xH2
 replace HNE:=hid (And.intro HNE.out xH3)
 clear xH3
 replace HNE:=hid (And.intro HNE.out hbl)
 clear hbl
 replace HNE:=hid (And.intro HNE.out hbs)
 clear hbs
 have qHX0:=cl 0 HX.out
 have qHX1:=cl 1 HX.out
 have qHX2:=cl 2 HX.out
 have qHX3:=cl 3 HX.out
 have qHX4:=cl 4 HX.out
 have qHX5:=cl 5 HX.out
 have qHX6:=cl 6 HX.out
 have qHX7:=cl 7 HX.out
 have qHX8:=cl 8 HX.out
 have qHX9:=cl 9 HX.out
 have qHX10:=cl 10 HX.out
 go_wp2_with fail
 refine (HHA.out _ ⟨HP.out,H1.out,H2.out,H3.out,HL1.out,HL2.out,HL3.out,HDN.out⟩).mono ?_
 rintro e w2 ⟨rfl,f2⟩
 clear qHX0 qHX1 qHX2 qHX3 qHX4 qHX5 qHX6 qHX7 qHX8 qHX9 qHX10
 replace HP:=hid (f2.ar HP.out)
 replace H1:=hid (f2.ar H1.out)
 replace H2:=hid (f2.ar H2.out)
 replace H3:=hid (f2.ar H3.out)
 replace HX:=hid (f2.ar HX.out)
 replace HF:=hid (HF.out.tm f2)
 clear f2
 have qHP0:=cl 0 HP.out
 have qHX7:=cl 7 HX.out
 have qs:=Xy H1.out (i:=i) (by rw [HL1.out];exact h1)
 have us:=Q9 (i:=i) H1.out
 go_wp2_with fail
 clear qs us
 have fs:=(Fr.refl [g1] w2).setCell (p:=⟨g1,i,none⟩) (.inl (by simp)) (.int .i64 0)
 have hb1:=ints_set H1.out i 0
 replace H1:=hid hb1
 clear hb1
 replace HP:=hid (fs.ar HP.out)
 replace H2:=hid (fs.ar H2.out)
 replace H3:=hid (fs.ar H3.out)
 replace HX:=hid (fs.ar HX.out)
 replace HF:=hid (HF.out.th fs)
 clear fs
 generalize (w2.setCell ⟨g1,i,none⟩ (.int .i64 0))=w3 at HP H1 H2 H3 HX HF ⊢
 clear qHP0 qHX7
 go_wp2
 go_ret
 refine ⟨rfl,⟨HP.out,H1.out,H2.out,H3.out, ?_,HL2.out,HL3.out,HDN.out⟩,HF.out⟩
 rw [List.length_set];exact HL1.out
theorem Q0q (w:World) (p g1 g2 g3 n:Nat) (W G:List Int) (C:List Value) (H:HB w p g1 g2 g3 n W G C) (x:EvV) (ha:x.ended=true) (he:x.e=0) (ho:x.ask.op=2) (HH:∀w',HB w' p g1 g2 g3 n W G C→Calls Tryz.prog 51 #[pt p,.int .i64 x.who,x.ask.val] w' fun e w2=>e=.returned (.bool false)∧Fr [] w' w2):
 Calls Tryz.prog 37 #[pt p,x.val] w fun e w'=>e=.returned (.bool true)∧Fr [] w w':=by
 obtain ⟨ended,who,at_,⟨aop,adl,awt,afc,asl,agn,ast⟩,e,slot,gen,stream,cI,cL,cE,cO⟩:=x
 unfold EvV.val EvV.cells pt
 dsimp only at*
 subst ha he ho
 unfold XL.val at HH
 dsimp only at HH
 have HHA:=hid HH
 have HDN:=hid H.ne
 clear HH
 have HNE:=hid (And.intro H.ne (And.intro (Q6 H.b) (And.intro (Q6 H.b1) (And.intro (Q6 H.b2) (Q6 H.b3)))))
 have HP:=hid H.b
 have H1:=hid H.b1
 have H2:=hid H.b2
 have H3:=hid H.b3
 have HL1:=hid H.l1;have HL2:=hid H.l2;have HL3:=hid H.l3
 unfold XO at HP
 clear H
 have HF:=hid (Fr.refl [] w)
 go_in
 go_wp2_with fail
 have xHP:=Q6 HP.out
 have xH1:=Q6 H1.out
 have xH2:=Q6 H2.out
 have xH3:=Q6 H3.out
 have hb:=heap_alloc_new w (.cells #[.bool true,.int .i64 who,.int .i64 at_,.int .i64 2,.int .i64 adl,.bool awt,.bool afc,.int .i64 asl,.int .i64 agn,.int .i64 ast,.int .i64 0,.int .i64 slot,.int .i64 gen,.int .i64 stream,.int .i64 cI,.int .i64 cL,.int .i64 cE,.int .i64 cO] 50 (0,0))
 have fb:=(Fr.refl [] w).alloc (.cells #[.bool true,.int .i64 who,.int .i64 at_,.int .i64 2,.int .i64 adl,.bool awt,.bool afc,.int .i64 asl,.int .i64 agn,.int .i64 ast,.int .i64 0,.int .i64 slot,.int .i64 gen,.int .i64 stream,.int .i64 cI,.int .i64 cL,.int .i64 cE,.int .i64 cO] 50 (0,0))
 have hbs:=HF.out.size
 have hbw:w.heap.size≤w.heap.size:=Nat.le_refl _
 replace HP:=hid (fb.ar HP.out)
 replace H1:=hid (fb.ar H1.out)
 replace H2:=hid (fb.ar H2.out)
 replace H3:=hid (fb.ar H3.out)
 replace HF:=hid (HF.out.tm fb)
 clear fb
 obtain ⟨pe,hbe⟩:∃x,w.heap.size=x:=⟨_,rfl⟩
 have hbl:=Nat.le_of_eq hbe
 clear hbs
 have hbs:=Nat.le_of_eq hbe
 rw [hbe] at hb hbw xHP xH1 xH2 xH3 ⊢
 generalize w.alloc (.cells #[.bool true,.int .i64 who,.int .i64 at_,.int .i64 2,.int .i64 adl,.bool awt,.bool afc,.int .i64 asl,.int .i64 agn,.int .i64 ast,.int .i64 0,.int .i64 slot,.int .i64 gen,.int .i64 stream,.int .i64 cI,.int .i64 cL,.int .i64 cE,.int .i64 cO] 50 (0,0))=w1 at hb HP H1 H2 H3 HF ⊢
 clear hbe hbw
 have HX:=hid hb
 clear hb
 replace HNE:=hid (And.intro HNE.out xHP)
 clear xHP
 replace HNE:=hid (And.intro HNE.out xH1)
 clear xH1
 replace HNE:=hid (And.intro HNE.out xH2)
 clear xH2
 replace HNE:=hid (And.intro HNE.out xH3)
 clear xH3
 replace HNE:=hid (And.intro HNE.out hbl)
 clear hbl
 replace HNE:=hid (And.intro HNE.out hbs)
 clear hbs
 have qHX0:=cl 0 HX.out
 have qHX1:=cl 1 HX.out
 have qHX2:=cl 2 HX.out
 have qHX3:=cl 3 HX.out
 have qHX4:=cl 4 HX.out
 have qHX5:=cl 5 HX.out
 have qHX6:=cl 6 HX.out
 have qHX7:=cl 7 HX.out
 have qHX8:=cl 8 HX.out
 have qHX9:=cl 9 HX.out
 have qHX10:=cl 10 HX.out
 go_wp2_with fail
 refine (HHA.out _ ⟨HP.out,H1.out,H2.out,H3.out,HL1.out,HL2.out,HL3.out,HDN.out⟩).mono ?_
 rintro e w2 ⟨rfl,f2⟩
 clear qHX0 qHX1 qHX2 qHX3 qHX4 qHX5 qHX6 qHX7 qHX8 qHX9 qHX10
 replace HP:=hid (f2.ar HP.out)
 replace H1:=hid (f2.ar H1.out)
 replace H2:=hid (f2.ar H2.out)
 replace H3:=hid (f2.ar H3.out)
 replace HX:=hid (f2.ar HX.out)
 replace HF:=hid (HF.out.tm f2)
 clear f2
 go_wp2
 go_ret
 exact ⟨rfl,HF.out⟩
theorem Q0p (w:World) (p g1 g2 g3 n:Nat) (W G:List Int) (C:List Value) (H:HB w p g1 g2 g3 n W G C) (x:EvV) (ha:x.ended=true) (he:x.e=0) (ho:x.ask.op=2) (i:Nat) (hi:x.ask.slot=i) (h1:i<n) (HH:∀w',HB w' p g1 g2 g3 n W G C→Calls Tryz.prog 51 #[pt p,.int .i64 x.who,x.ask.val] w' fun e w2=>e=.returned (.bool true)∧Fr [] w' w2):
 Calls Tryz.prog 37 #[pt p,x.val] w fun e w'=>e=.returned (.bool true)∧HB w' p g1 g2 g3 n (W.set i 0) G C∧Fr [g1] w w':=by
 obtain ⟨ended,who,at_,⟨aop,adl,awt,afc,asl,agn,ast⟩,e,slot,gen,stream,cI,cL,cE,cO⟩:=x
 unfold EvV.val EvV.cells pt
 dsimp only at*
 subst ha he ho hi
 unfold XL.val at HH
 dsimp only at HH
 have HHA:=hid HH
 have HDN:=hid H.ne
 clear HH
 have HNE:=hid (And.intro H.ne (And.intro (Q6 H.b) (And.intro (Q6 H.b1) (And.intro (Q6 H.b2) (Q6 H.b3)))))
 have HP:=hid H.b
 have H1:=hid H.b1
 have H2:=hid H.b2
 have H3:=hid H.b3
 have HL1:=hid H.l1;have HL2:=hid H.l2;have HL3:=hid H.l3
 unfold XO at HP
 clear H
 have HF:=hid (Fr.refl [g1] w)
 go_in
 go_wp2_with fail
 have xHP:=Q6 HP.out
 have xH1:=Q6 H1.out
 have xH2:=Q6 H2.out
 have xH3:=Q6 H3.out
 have hb:=heap_alloc_new w (.cells #[.bool true,.int .i64 who,.int .i64 at_,.int .i64 2,.int .i64 adl,.bool awt,.bool afc,.int .i64 (i:Int),.int .i64 agn,.int .i64 ast,.int .i64 0,.int .i64 slot,.int .i64 gen,.int .i64 stream,.int .i64 cI,.int .i64 cL,.int .i64 cE,.int .i64 cO] 50 (0,0))
 have fb:=(Fr.refl [] w).alloc (.cells #[.bool true,.int .i64 who,.int .i64 at_,.int .i64 2,.int .i64 adl,.bool awt,.bool afc,.int .i64 (i:Int),.int .i64 agn,.int .i64 ast,.int .i64 0,.int .i64 slot,.int .i64 gen,.int .i64 stream,.int .i64 cI,.int .i64 cL,.int .i64 cE,.int .i64 cO] 50 (0,0))
 have hbs:=HF.out.size
 have hbw:w.heap.size≤w.heap.size:=Nat.le_refl _
 replace HP:=hid (fb.ar HP.out)
 replace H1:=hid (fb.ar H1.out)
 replace H2:=hid (fb.ar H2.out)
 replace H3:=hid (fb.ar H3.out)
 replace HF:=hid (HF.out.tm fb)
 clear fb
 obtain ⟨pe,hbe⟩:∃x,w.heap.size=x:=⟨_,rfl⟩
 have hbl:=Nat.le_of_eq hbe
 clear hbs
 have hbs:=Nat.le_of_eq hbe
 rw [hbe] at hb hbw xHP xH1 xH2 xH3 ⊢
 generalize w.alloc (.cells #[.bool true,.int .i64 who,.int .i64 at_,.int .i64 2,.int .i64 adl,.bool awt,.bool afc,.int .i64 (i:Int),.int .i64 agn,.int .i64 ast,.int .i64 0,.int .i64 slot,.int .i64 gen,.int .i64 stream,.int .i64 cI,.int .i64 cL,.int .i64 cE,.int .i64 cO] 50 (0,0))=w1 at hb HP H1 H2 H3 HF ⊢
 clear hbe hbw
 have HX:=hid hb
 clear hb
 replace HNE:=hid (And.intro HNE.out xHP)
 clear xHP
 replace HNE:=hid (And.intro HNE.out xH1)
 clear xH1
 replace HNE:=hid (And.intro HNE.out xH2)
 clear xH2
 replace HNE:=hid (And.intro HNE.out xH3)
 clear xH3
 replace HNE:=hid (And.intro HNE.out hbl)
 clear hbl
 replace HNE:=hid (And.intro HNE.out hbs)
 clear hbs
 have qHX0:=cl 0 HX.out
 have qHX1:=cl 1 HX.out
 have qHX2:=cl 2 HX.out
 have qHX3:=cl 3 HX.out
 have qHX4:=cl 4 HX.out
 have qHX5:=cl 5 HX.out
 have qHX6:=cl 6 HX.out
 have qHX7:=cl 7 HX.out
 have qHX8:=cl 8 HX.out
 have qHX9:=cl 9 HX.out
 have qHX10:=cl 10 HX.out
 go_wp2_with fail
 refine (HHA.out _ ⟨HP.out,H1.out,H2.out,H3.out,HL1.out,HL2.out,HL3.out,HDN.out⟩).mono ?_
 rintro e w2 ⟨rfl,f2⟩
 clear qHX0 qHX1 qHX2 qHX3 qHX4 qHX5 qHX6 qHX7 qHX8 qHX9 qHX10
 replace HP:=hid (f2.ar HP.out)
 replace H1:=hid (f2.ar H1.out)
 replace H2:=hid (f2.ar H2.out)
 replace H3:=hid (f2.ar H3.out)
 replace HX:=hid (f2.ar HX.out)
 replace HF:=hid (HF.out.tm f2)
 clear f2
 have qHP0:=cl 0 HP.out
 have qHX7:=cl 7 HX.out
 have qs:=Xy H1.out (i:=i) (by rw [HL1.out];exact h1)
 have us:=Q9 (i:=i) H1.out
 go_wp2_with fail
 clear qs us
 have fs:=(Fr.refl [g1] w2).setCell (p:=⟨g1,i,none⟩) (.inl (by simp)) (.int .i64 0)
 have hb1:=ints_set H1.out i 0
 replace H1:=hid hb1
 clear hb1
 replace HP:=hid (fs.ar HP.out)
 replace H2:=hid (fs.ar H2.out)
 replace H3:=hid (fs.ar H3.out)
 replace HX:=hid (fs.ar HX.out)
 replace HF:=hid (HF.out.th fs)
 clear fs
 generalize (w2.setCell ⟨g1,i,none⟩ (.int .i64 0))=w3 at HP H1 H2 H3 HX HF ⊢
 clear qHP0 qHX7
 go_wp2
 go_ret
 refine ⟨rfl,⟨HP.out,H1.out,H2.out,H3.out, ?_,HL2.out,HL3.out,HDN.out⟩,HF.out⟩
 rw [List.length_set];exact HL1.out
theorem Q29 (w:World) (p g1 g2 g3 n:Nat) (W G:List Int) (C:List Value) (H:HB w p g1 g2 g3 n W G C) (x:EvV) (ha:x.ended=true) (he:x.e=0) (ho:x.ask.op=3) (i j g:Nat) (B:List Bool) (hi:x.ask.slot=i) (h1:i<n) (hj:x.stream=j) (h2:j<8) (hC:C[i]?=some (XO g 8)) (hg:w.heap[g]?=some (.cells (B.map Value.bool).toArray 4 (0,0))) (hB:B.length=8) (hn:g≠p∧g≠g1∧g≠g2∧g≠g3) (hv:B.getD j false=false) (HH:∀w',HB w' p g1 g2 g3 n W G C→Calls Tryz.prog 51 #[pt p,.int .i64 x.who,x.ask.val] w' fun e w2=>e=.returned (.bool true)∧Fr [] w' w2):
 Calls Tryz.prog 37 #[pt p,x.val] w fun e w'=>e=.returned (.bool true)∧HB w' p g1 g2 g3 n W G C∧w'.heap[g]?=some (.cells ((B.set j true).map Value.bool).toArray 4 (0,0))∧Fr [g] w w':=by
 obtain ⟨ended,who,at_,⟨aop,adl,awt,afc,asl,agn,ast⟩,e,slot,gen,stream,cI,cL,cE,cO⟩:=x
 unfold EvV.val EvV.cells pt
 dsimp only at*
 subst ha he ho hi hj
 unfold XL.val at HH
 dsimp only at HH
 have HHA:=hid HH
 have HDN:=hid H.ne
 have HGN:=hid hn
 have HC3:=hid hC
 unfold XO at HC3
 have HG:=hid hg
 have HLB:=hid hB
 have HV:=hid hv
 have d1:decide ((j:Int)<0)=false:=decide_eq_false (by omega)
 have d2:decide ((7:Int)<j)=false:=decide_eq_false (by omega)
 have d3:decide (7<j)=false:=decide_eq_false (by omega)
 have d4:(j:Int)<8:=by omega
 clear HH hC hg hB hn hv
 have HNE:=hid (And.intro H.ne (And.intro (Q6 H.b) (And.intro (Q6 H.b1) (And.intro (Q6 H.b2) (And.intro (Q6 H.b3) (And.intro HGN.out (Q6 HG.out)))))))
 have HP:=hid H.b
 have H1:=hid H.b1
 have H2:=hid H.b2
 have H3:=hid H.b3
 have HL1:=hid H.l1;have HL2:=hid H.l2;have HL3:=hid H.l3
 unfold XO at HP
 clear H
 have HF:=hid (Fr.refl [g] w)
 go_in
 go_wp2_with fail
 have xHP:=Q6 HP.out
 have xH1:=Q6 H1.out
 have xH2:=Q6 H2.out
 have xH3:=Q6 H3.out
 have xHG:=Q6 HG.out
 have hb:=heap_alloc_new w (.cells #[.bool true,.int .i64 who,.int .i64 at_,.int .i64 3,.int .i64 adl,.bool awt,.bool afc,.int .i64 (i:Int),.int .i64 agn,.int .i64 ast,.int .i64 0,.int .i64 slot,.int .i64 gen,.int .i64 (j:Int),.int .i64 cI,.int .i64 cL,.int .i64 cE,.int .i64 cO] 50 (0,0))
 have fb:=(Fr.refl [] w).alloc (.cells #[.bool true,.int .i64 who,.int .i64 at_,.int .i64 3,.int .i64 adl,.bool awt,.bool afc,.int .i64 (i:Int),.int .i64 agn,.int .i64 ast,.int .i64 0,.int .i64 slot,.int .i64 gen,.int .i64 (j:Int),.int .i64 cI,.int .i64 cL,.int .i64 cE,.int .i64 cO] 50 (0,0))
 have hbs:=HF.out.size
 have hbw:w.heap.size≤w.heap.size:=Nat.le_refl _
 replace HP:=hid (fb.ar HP.out)
 replace H1:=hid (fb.ar H1.out)
 replace H2:=hid (fb.ar H2.out)
 replace H3:=hid (fb.ar H3.out)
 replace HG:=hid (fb.ar HG.out)
 replace HF:=hid (HF.out.tm fb)
 clear fb
 obtain ⟨pe,hbe⟩:∃x,w.heap.size=x:=⟨_,rfl⟩
 have hbl:=Nat.le_of_eq hbe
 clear hbs
 have hbs:=Nat.le_of_eq hbe
 rw [hbe] at hb hbw xHP xH1 xH2 xH3 xHG ⊢
 generalize w.alloc (.cells #[.bool true,.int .i64 who,.int .i64 at_,.int .i64 3,.int .i64 adl,.bool awt,.bool afc,.int .i64 (i:Int),.int .i64 agn,.int .i64 ast,.int .i64 0,.int .i64 slot,.int .i64 gen,.int .i64 (j:Int),.int .i64 cI,.int .i64 cL,.int .i64 cE,.int .i64 cO] 50 (0,0))=w1 at hb HP H1 H2 H3 HG HF ⊢
 clear hbe hbw
 have HX:=hid hb
 clear hb
 replace HNE:=hid (And.intro HNE.out xHP)
 clear xHP
 replace HNE:=hid (And.intro HNE.out xH1)
 clear xH1
 replace HNE:=hid (And.intro HNE.out xH2)
 clear xH2
 replace HNE:=hid (And.intro HNE.out xH3)
 clear xH3
 replace HNE:=hid (And.intro HNE.out xHG)
 clear xHG
 replace HNE:=hid (And.intro HNE.out hbl)
 clear hbl
 replace HNE:=hid (And.intro HNE.out hbs)
 clear hbs
 have qHX0:=cl 0 HX.out
 have qHX1:=cl 1 HX.out
 have qHX2:=cl 2 HX.out
 have qHX3:=cl 3 HX.out
 have qHX4:=cl 4 HX.out
 have qHX5:=cl 5 HX.out
 have qHX6:=cl 6 HX.out
 have qHX7:=cl 7 HX.out
 have qHX8:=cl 8 HX.out
 have qHX9:=cl 9 HX.out
 have qHX10:=cl 10 HX.out
 have qHX13:=cl 13 HX.out
 go_wp2_with fail
 refine (HHA.out _ ⟨HP.out,H1.out,H2.out,H3.out,HL1.out,HL2.out,HL3.out,HDN.out⟩).mono ?_
 rintro e w2 ⟨rfl,f2⟩
 clear qHX0 qHX1 qHX2 qHX3 qHX4 qHX5 qHX6 qHX7 qHX8 qHX9 qHX10 qHX13
 replace HP:=hid (f2.ar HP.out)
 replace H1:=hid (f2.ar H1.out)
 replace H2:=hid (f2.ar H2.out)
 replace H3:=hid (f2.ar H3.out)
 replace HG:=hid (f2.ar HG.out)
 replace HX:=hid (f2.ar HX.out)
 replace HF:=hid (HF.out.tm f2)
 clear f2
 have qHX3:=cl 3 HX.out
 have qHX13:=cl 13 HX.out
 go_wp2_with fail
 have qHP2:=cl 2 HP.out
 have c1:=YK H3.out (i:=i) HC3.out
 have c2:=Vk HG.out (i:=j) (by rw [HLB.out];exact h2)
 rw [HV.out] at c2
 refine wp_region_held_drew (S:=fun w'=>w'.cell? ⟨p,2,none⟩=some (.slice (some ⟨g3,0,none⟩) n n)∧w'.cell? ⟨pe,13,none⟩=some (.int .i64 (j:Int))∧w'.cell? ⟨g3,i,none⟩=some (.slice (some ⟨g,0,none⟩) 8 8)∧w'.cell? ⟨g,j,none⟩=some (.bool false)) (by kernel_rfl) ⟨qHP2,qHX13,c1,c2⟩ (fun hHeld=> ?_)
 clear c1 c2
 clear qHX3 qHX13 qHP2
 have fd:=(Fr.refl [] w2).drew
 replace HP:=hid (fd.ar HP.out)
 replace H1:=hid (fd.ar H1.out)
 replace H2:=hid (fd.ar H2.out)
 replace H3:=hid (fd.ar H3.out)
 replace HG:=hid (fd.ar HG.out)
 replace HX:=hid (fd.ar HX.out)
 replace HF:=hid (HF.out.tm fd)
 clear fd
 refine tk 0 ?_
 refine tk 1 ?_
 refine tk 2 ?_
 refine tk 3 ?_
 refine tk 4 ?_
 refine tk 5 ?_
 refine tk 6 ?_
 refine tk 7 ?_
 refine tk 8 ?_
 refine tk 9 ?_
 refine tk 10 ?_
 refine tk 11 ?_
 refine tk 12 ?_
 refine wpAnyH_done (by kernel_rfl) ?_ _
 clear hHeld
 go_wp2_with fail
 have qHP2:=cl 2 HP.out
 have qHX13:=cl 13 HX.out
 have c1:=YK H3.out (i:=i) HC3.out
 refine wp_region_held_drew (S:=fun w'=>w'.cell? ⟨p,2,none⟩=some (.slice (some ⟨g3,0,none⟩) n n)∧w'.cell? ⟨pe,13,none⟩=some (.int .i64 (j:Int))∧w'.cell? ⟨g3,i,none⟩=some (.slice (some ⟨g,0,none⟩) 8 8)) (by kernel_rfl) ⟨qHP2,qHX13,c1⟩ (fun hHeld=> ?_)
 clear c1
 clear qHP2 qHX13
 have fd:=(Fr.refl [] w2.drew).drew
 replace HP:=hid (fd.ar HP.out)
 replace H1:=hid (fd.ar H1.out)
 replace H2:=hid (fd.ar H2.out)
 replace H3:=hid (fd.ar H3.out)
 replace HG:=hid (fd.ar HG.out)
 replace HX:=hid (fd.ar HX.out)
 replace HF:=hid (HF.out.tm fd)
 clear fd
 refine tk 0 ?_
 refine tk 1 ?_
 refine tk 2 ?_
 refine tk 3 ?_
 refine tk 4 ?_
 refine tk 5 ?_
 refine tk 6 ?_
 refine tk 7 ?_
 refine tk 8 ?_
 refine tk 9 ?_
 refine tk 10 ?_
 generalize w2.drew.drew=w3 at HP H1 H2 H3 HG HX HF hHeld ⊢
 have qs:=Vk HG.out (i:=j) (by rw [HLB.out];exact h2)
 have us:=Q9 (i:=j) HG.out
 refine tc 11 (fun K hK=> ?_)
 go_simp
 have fq:=(Fr.refl [g] w3).setCell (p:=⟨g,j,none⟩) (.inl (by simp)) (.bool true)
 refine hK.out _ _ ⟨fq.c hHeld.1,fq.c hHeld.2.1,fq.c hHeld.2.2⟩ (fun hHeld=> ?_)
 clear hK K fq
 try go_frame
 clear qs us
 have fs:=(Fr.refl [g] w3).setCell (p:=⟨g,j,none⟩) (.inl (by simp)) (.bool true)
 have hb1:=E9 HG.out j true
 replace HG:=hid hb1
 clear hb1
 replace HP:=hid (fs.ar HP.out)
 replace H1:=hid (fs.ar H1.out)
 replace H2:=hid (fs.ar H2.out)
 replace H3:=hid (fs.ar H3.out)
 replace HX:=hid (fs.ar HX.out)
 replace HF:=hid (HF.out.th fs)
 clear fs
 generalize (w3.setCell ⟨g,j,none⟩ (.bool true))=w4 at HP H1 H2 H3 HG HX HF hHeld ⊢
 refine wpAnyH_done (by kernel_rfl) ?_ _
 clear hHeld
 go_wp2
 go_ret
 exact ⟨rfl,⟨HP.out,H1.out,H2.out,H3.out,HL1.out,HL2.out,HL3.out,HDN.out⟩,HG.out,HF.out⟩
theorem Q28 (w:World) (p g1 g2 g3 n:Nat) (W G:List Int) (C:List Value) (H:HB w p g1 g2 g3 n W G C) (x:EvV) (ha:x.ended=true) (he:x.e=0) (ho:x.ask.op=4) (i j g:Nat) (B:List Bool) (hi:x.ask.slot=i) (h1:i<n) (hj:x.stream=j) (h2:j<8) (hC:C[i]?=some (XO g 8)) (hg:w.heap[g]?=some (.cells (B.map Value.bool).toArray 4 (0,0))) (hB:B.length=8) (hn:g≠p∧g≠g1∧g≠g2∧g≠g3) (hv:B.getD j false=true) (HH:∀w',HB w' p g1 g2 g3 n W G C→Calls Tryz.prog 51 #[pt p,.int .i64 x.who,x.ask.val] w' fun e w2=>e=.returned (.bool true)∧Fr [] w' w2):
 Calls Tryz.prog 37 #[pt p,x.val] w fun e w'=>e=.returned (.bool true)∧HB w' p g1 g2 g3 n W G C∧w'.heap[g]?=some (.cells ((B.set j false).map Value.bool).toArray 4 (0,0))∧Fr [g] w w':=by
 obtain ⟨ended,who,at_,⟨aop,adl,awt,afc,asl,agn,ast⟩,e,slot,gen,stream,cI,cL,cE,cO⟩:=x
 unfold EvV.val EvV.cells pt
 dsimp only at*
 subst ha he ho hi hj
 unfold XL.val at HH
 dsimp only at HH
 have HHA:=hid HH
 have HDN:=hid H.ne
 have HGN:=hid hn
 have HC3:=hid hC
 unfold XO at HC3
 have HG:=hid hg
 have HLB:=hid hB
 have HV:=hid hv
 have d1:decide ((j:Int)<0)=false:=decide_eq_false (by omega)
 have d2:decide ((7:Int)<j)=false:=decide_eq_false (by omega)
 have d3:decide (7<j)=false:=decide_eq_false (by omega)
 have d4:(j:Int)<8:=by omega
 clear HH hC hg hB hn hv
 have HNE:=hid (And.intro H.ne (And.intro (Q6 H.b) (And.intro (Q6 H.b1) (And.intro (Q6 H.b2) (And.intro (Q6 H.b3) (And.intro HGN.out (Q6 HG.out)))))))
 have HP:=hid H.b
 have H1:=hid H.b1
 have H2:=hid H.b2
 have H3:=hid H.b3
 have HL1:=hid H.l1;have HL2:=hid H.l2;have HL3:=hid H.l3
 unfold XO at HP
 clear H
 have HF:=hid (Fr.refl [g] w)
 go_in
 go_wp2_with fail
 have xHP:=Q6 HP.out
 have xH1:=Q6 H1.out
 have xH2:=Q6 H2.out
 have xH3:=Q6 H3.out
 have xHG:=Q6 HG.out
 have hb:=heap_alloc_new w (.cells #[.bool true,.int .i64 who,.int .i64 at_,.int .i64 4,.int .i64 adl,.bool awt,.bool afc,.int .i64 (i:Int),.int .i64 agn,.int .i64 ast,.int .i64 0,.int .i64 slot,.int .i64 gen,.int .i64 (j:Int),.int .i64 cI,.int .i64 cL,.int .i64 cE,.int .i64 cO] 50 (0,0))
 have fb:=(Fr.refl [] w).alloc (.cells #[.bool true,.int .i64 who,.int .i64 at_,.int .i64 4,.int .i64 adl,.bool awt,.bool afc,.int .i64 (i:Int),.int .i64 agn,.int .i64 ast,.int .i64 0,.int .i64 slot,.int .i64 gen,.int .i64 (j:Int),.int .i64 cI,.int .i64 cL,.int .i64 cE,.int .i64 cO] 50 (0,0))
 have hbs:=HF.out.size
 have hbw:w.heap.size≤w.heap.size:=Nat.le_refl _
 replace HP:=hid (fb.ar HP.out)
 replace H1:=hid (fb.ar H1.out)
 replace H2:=hid (fb.ar H2.out)
 replace H3:=hid (fb.ar H3.out)
 replace HG:=hid (fb.ar HG.out)
 replace HF:=hid (HF.out.tm fb)
 clear fb
 obtain ⟨pe,hbe⟩:∃x,w.heap.size=x:=⟨_,rfl⟩
 have hbl:=Nat.le_of_eq hbe
 clear hbs
 have hbs:=Nat.le_of_eq hbe
 rw [hbe] at hb hbw xHP xH1 xH2 xH3 xHG ⊢
 generalize w.alloc (.cells #[.bool true,.int .i64 who,.int .i64 at_,.int .i64 4,.int .i64 adl,.bool awt,.bool afc,.int .i64 (i:Int),.int .i64 agn,.int .i64 ast,.int .i64 0,.int .i64 slot,.int .i64 gen,.int .i64 (j:Int),.int .i64 cI,.int .i64 cL,.int .i64 cE,.int .i64 cO] 50 (0,0))=w1 at hb HP H1 H2 H3 HG HF ⊢
 clear hbe hbw
 have HX:=hid hb
 clear hb
 replace HNE:=hid (And.intro HNE.out xHP)
 clear xHP
 replace HNE:=hid (And.intro HNE.out xH1)
 clear xH1
 replace HNE:=hid (And.intro HNE.out xH2)
 clear xH2
 replace HNE:=hid (And.intro HNE.out xH3)
 clear xH3
 replace HNE:=hid (And.intro HNE.out xHG)
 clear xHG
 replace HNE:=hid (And.intro HNE.out hbl)
 clear hbl
 replace HNE:=hid (And.intro HNE.out hbs)
 clear hbs
 have qHX0:=cl 0 HX.out
 have qHX1:=cl 1 HX.out
 have qHX2:=cl 2 HX.out
 have qHX3:=cl 3 HX.out
 have qHX4:=cl 4 HX.out
 have qHX5:=cl 5 HX.out
 have qHX6:=cl 6 HX.out
 have qHX7:=cl 7 HX.out
 have qHX8:=cl 8 HX.out
 have qHX9:=cl 9 HX.out
 have qHX10:=cl 10 HX.out
 have qHX13:=cl 13 HX.out
 go_wp2_with fail
 refine (HHA.out _ ⟨HP.out,H1.out,H2.out,H3.out,HL1.out,HL2.out,HL3.out,HDN.out⟩).mono ?_
 rintro e w2 ⟨rfl,f2⟩
 clear qHX0 qHX1 qHX2 qHX3 qHX4 qHX5 qHX6 qHX7 qHX8 qHX9 qHX10 qHX13
 replace HP:=hid (f2.ar HP.out)
 replace H1:=hid (f2.ar H1.out)
 replace H2:=hid (f2.ar H2.out)
 replace H3:=hid (f2.ar H3.out)
 replace HG:=hid (f2.ar HG.out)
 replace HX:=hid (f2.ar HX.out)
 replace HF:=hid (HF.out.tm f2)
 clear f2
 have qHX3:=cl 3 HX.out
 have qHX13:=cl 13 HX.out
 go_wp2_with fail
 have qHP2:=cl 2 HP.out
 have c1:=YK H3.out (i:=i) HC3.out
 have c2:=Vk HG.out (i:=j) (by rw [HLB.out];exact h2)
 rw [HV.out] at c2
 refine wp_region_held_drew (S:=fun w'=>w'.cell? ⟨p,2,none⟩=some (.slice (some ⟨g3,0,none⟩) n n)∧w'.cell? ⟨pe,13,none⟩=some (.int .i64 (j:Int))∧w'.cell? ⟨g3,i,none⟩=some (.slice (some ⟨g,0,none⟩) 8 8)∧w'.cell? ⟨g,j,none⟩=some (.bool true)) (by kernel_rfl) ⟨qHP2,qHX13,c1,c2⟩ (fun hHeld=> ?_)
 clear c1 c2
 clear qHX3 qHX13 qHP2
 have fd:=(Fr.refl [] w2).drew
 replace HP:=hid (fd.ar HP.out)
 replace H1:=hid (fd.ar H1.out)
 replace H2:=hid (fd.ar H2.out)
 replace H3:=hid (fd.ar H3.out)
 replace HG:=hid (fd.ar HG.out)
 replace HX:=hid (fd.ar HX.out)
 replace HF:=hid (HF.out.tm fd)
 clear fd
 refine tk 0 ?_
 refine tk 1 ?_
 refine tk 2 ?_
 refine tk 3 ?_
 refine tk 4 ?_
 refine tk 5 ?_
 refine tk 6 ?_
 refine tk 7 ?_
 refine tk 8 ?_
 refine tk 9 ?_
 refine tk 10 ?_
 refine tk 11 ?_
 refine tk 12 ?_
 refine wpAnyH_done (by kernel_rfl) ?_ _
 clear hHeld
 go_wp2_with fail
 have qHP2:=cl 2 HP.out
 have qHX13:=cl 13 HX.out
 have c1:=YK H3.out (i:=i) HC3.out
 refine wp_region_held_drew (S:=fun w'=>w'.cell? ⟨p,2,none⟩=some (.slice (some ⟨g3,0,none⟩) n n)∧w'.cell? ⟨pe,13,none⟩=some (.int .i64 (j:Int))∧w'.cell? ⟨g3,i,none⟩=some (.slice (some ⟨g,0,none⟩) 8 8)) (by kernel_rfl) ⟨qHP2,qHX13,c1⟩ (fun hHeld=> ?_)
 clear c1
 clear qHP2 qHX13
 have fd:=(Fr.refl [] w2.drew).drew
 replace HP:=hid (fd.ar HP.out)
 replace H1:=hid (fd.ar H1.out)
 replace H2:=hid (fd.ar H2.out)
 replace H3:=hid (fd.ar H3.out)
 replace HG:=hid (fd.ar HG.out)
 replace HX:=hid (fd.ar HX.out)
 replace HF:=hid (HF.out.tm fd)
 clear fd
 refine tk 0 ?_
 refine tk 1 ?_
 refine tk 2 ?_
 refine tk 3 ?_
 refine tk 4 ?_
 refine tk 5 ?_
 refine tk 6 ?_
 refine tk 7 ?_
 refine tk 8 ?_
 refine tk 9 ?_
 refine tk 10 ?_
 generalize w2.drew.drew=w3 at HP H1 H2 H3 HG HX HF hHeld ⊢
 have qs:=Vk HG.out (i:=j) (by rw [HLB.out];exact h2)
 have us:=Q9 (i:=j) HG.out
 refine tc 11 (fun K hK=> ?_)
 go_simp
 have fq:=(Fr.refl [g] w3).setCell (p:=⟨g,j,none⟩) (.inl (by simp)) (.bool false)
 refine hK.out _ _ ⟨fq.c hHeld.1,fq.c hHeld.2.1,fq.c hHeld.2.2⟩ (fun hHeld=> ?_)
 clear hK K fq
 try go_frame
 clear qs us
 have fs:=(Fr.refl [g] w3).setCell (p:=⟨g,j,none⟩) (.inl (by simp)) (.bool false)
 have hb1:=E9 HG.out j false
 replace HG:=hid hb1
 clear hb1
 replace HP:=hid (fs.ar HP.out)
 replace H1:=hid (fs.ar H1.out)
 replace H2:=hid (fs.ar H2.out)
 replace H3:=hid (fs.ar H3.out)
 replace HX:=hid (fs.ar HX.out)
 replace HF:=hid (HF.out.th fs)
 clear fs
 generalize (w3.setCell ⟨g,j,none⟩ (.bool false))=w4 at HP H1 H2 H3 HG HX HF hHeld ⊢
 refine wpAnyH_done (by kernel_rfl) ?_ _
 clear hHeld
 go_wp2
 go_ret
 exact ⟨rfl,⟨HP.out,H1.out,H2.out,H3.out,HL1.out,HL2.out,HL3.out,HDN.out⟩,HG.out,HF.out⟩
end
end Go.Proofs.YtgjklfmnmljilaaGreatDoor
