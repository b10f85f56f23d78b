/- A part of the proof: TsE to TqT. -/
import Derived.Test.YtgjklfmnmljilaaGreatDoorZT03
import Derived.Test.YtgjklfmnmljilaaGreatDoorZT43
import Derived.Test.YtgjklfmnmljilaaGreatDoorZT45
import Derived.Deep.DeepCutAuto
namespace Go.Proofs.YtgjklfmnmljilaaGreatDoor
set_option linter.unusedVariables false
set_option linter.unusedSimpArgs false
set_option linter.unusedSectionVars false
set_option linter.unnecessarySimpa false
set_option maxRecDepth 100000
set_option maxHeartbeats 8000000
section
open Go.RowKit Go.Shelf Go.Lib
attribute [local go_sem] Oper.semAt_some
def svV (o:Option Nat):Value:=match o with|none=>.slice none 0 0|some g=>XO g 8
def svC (n:Nat) (s:Nat→Option Nat):List Value:=(List.range n).map fun k=>svV (s k)
def ZU (w:World) (ok:Nat→Prop) (p n:Nat) (h:Jo):Prop:=∃(g1 g2 g3:Nat) (s:Nat→Option Nat),HB w p g1 g2 g3 n h.who h.gen (svC n s)∧h.str.length=n∧(ok p∧ok g1∧ok g2∧ok g3)∧
 (∀k,k<n→s k=none→h.who.getD k 0=0)∧(∀k g,k<n→s k=some g→(w.heap[g]?=some (.cells ((h.str.getD k []).map Value.bool).toArray 4 (0,0))∧(h.str.getD k []).length=8)∧ok g∧(g≠p∧g≠g1∧g≠g2∧g≠g3))∧
 (∀j k g,j<n→k<n→j≠k→s j=some g→s k≠some g)
theorem Ey (n:Nat) (s:Nat→Option Nat):(svC n s).length=n:=by simp [svC]
theorem Ez {n k:Nat} {s:Nat→Option Nat} (h:k<n):(svC n s)[k]?=some (svV (s k)):=by simp [svC,h]
theorem Q8v {n i g:Nat} {s:Nat→Option Nat} (h:i<n):(svC n s).set i (XO g 8)=svC n (fun k=>if k=i then some g else s k):=by
 refine List.ext_getElem? fun k=> ?_
 rw [List.getElem?_set]
 by_cases hk:k<n
 · by_cases e:i=k
   · subst e;rw [if_pos rfl,if_pos (by rw [Ey];exact h),Ez hk];show some (XO g 8)=some (svV (if i=i then some g else s i));rw [if_pos rfl];rfl
   · rw [if_neg e,Ez hk,Ez hk,if_neg (Ne.symm e)]
 · rw [List.getElem?_eq_none (by rw [Ey];omega)]
   by_cases e:i=k
   · omega
   · rw [if_neg e,List.getElem?_eq_none (by rw [Ey];omega)]
theorem ZU.fr {w w':World} {ok:Nat→Prop} {p n:Nat} {h:Jo} (H:ZU w ok p n h) {S:List Nat} (f:Fr S w w') (hS:∀x∈S,¬ok x):ZU w' ok p n h:=by
 obtain ⟨g1,g2,g3,s,B,l,⟨b0,b1,b2,b3⟩,hn,hs,hd⟩:=H
 have X:∀x,ok x→x∉S:=fun x hx hm=>hS x hm hx
 exact ⟨g1,g2,g3,s,B.fr f (X _ b0) (X _ b1) (X _ b2) (X _ b3),l,⟨b0,b1,b2,b3⟩,hn,fun k g hk e=>by obtain ⟨⟨a,d⟩,c,u⟩:=hs k g hk e;exact ⟨⟨f.at a (X _ c),d⟩,c,u⟩,hd⟩
theorem ZU.narrow {w:World} {ok ok':Nat→Prop} {p n:Nat} {h:Jo} (H:ZU w ok p n h) (hk:∀x,x<w.heap.size→ok x→ok' x):ZU w ok' p n h:=by
 obtain ⟨g1,g2,g3,s,B,l,⟨b0,b1,b2,b3⟩,hn,hs,hd⟩:=H
 exact ⟨g1,g2,g3,s,B,l,⟨hk _ (Q6 B.b) b0,hk _ (Q6 B.b1) b1,hk _ (Q6 B.b2) b2,hk _ (Q6 B.b3) b3⟩,hn,fun k g hk' e=>by obtain ⟨⟨a,d⟩,c,u⟩:=hs k g hk' e;exact ⟨⟨a,d⟩,hk _ (Q6 a) c,u⟩,hd⟩
def G6 (w:World) (ok:Nat→Prop) (p n:Nat) (h':Jo) (e:Ending) (w':World):Prop:=e=.returned (.bool true)∧ZU w' ok p n h'∧∃S,Fr S w w'∧∀y∈S,ok y
theorem VY {α:Type} (L:List α) (i k:Nat) (x d:α) (h:i<L.length):(L.set i x).getD k d=if k=i then x else L.getD k d:=X5 L i k x d h
theorem Q6g (w:World) (ok:Nat→Prop) (p n:Nat) (h h':Jo) (x:EvV) (H:ZU w ok p n h) (hb:∀y,w.heap.size≤y→ok y) (hx:KI h x=some h') (hw0:0≤x.who) (hw1:x.who≤7):
 Calls Tryz.prog 37 #[pt p,x.val] w (G6 w ok p n h'):=by
 have hwr:IntKind.i64.wrap (x.who+1)=x.who+1:=by rw [IntKind.wrap_i64];omega
 have H0:=H
 obtain ⟨g1,g2,g3,s,B,l,⟨b0,b1,b2,b3⟩,hn,hs,hd⟩:=H
 have same:h'=h→∀e w',(e=.returned (.bool true)∧Fr [] w w')→G6 w ok p n h' e w':=fun e0 e w' ⟨e1,f⟩=>⟨e1,by rw [e0];exact H0.fr f (by simp),[],f,by simp⟩
 unfold KI at hx
 by_cases ha:x.ended=false
 · rw [if_pos (.inl ha)] at hx
   exact (Q6c w p g1 g2 g3 n _ _ _ B x ha).mono (same (Option.some.inj hx).symm)
 have ha':x.ended=true:=by simpa using ha
 by_cases he:x.e≠0
 · rw [if_pos (.inr he)] at hx
   exact (Q6f w p g1 g2 g3 n _ _ _ B x ha' he).mono (same (Option.some.inj hx).symm)
 rw [if_neg (fun h=>h.elim ha he)] at hx
 have he':x.e=0:=by omega
 have l1:=B.l1;have l2:=B.l2
 by_cases o0:x.ask.op=0
 · rw [if_pos o0] at hx
   by_cases hi:x.slot<0∨(h.who.length:Int)≤x.slot
   · rw [if_pos hi] at hx;cases hx
   rw [if_neg hi] at hx
   obtain rfl:=Option.some.inj hx
   obtain ⟨i,hxi⟩:∃i:Nat,x.slot=i:=⟨x.slot.toNat,by omega⟩
   have hin:i<n:=by omega
   refine (Q6e w p g1 g2 g3 n _ _ _ B x ha' he' o0 i hxi hin hwr).mono ?_
   rintro e w' ⟨rfl,g,hg,B',hgb,f⟩
   rw [Q8v hin] at B'
   have hlt:∀k g',k<n→s k=some g'→g'<w.heap.size:=fun k g' hk e=>Q6 (hs k g' hk e).1.1
   have lp:=Q6 B.b;have q1:=Q6 B.b1;have q2:=Q6 B.b2;have q3:=Q6 B.b3
   refine ⟨rfl,⟨g1,g2,g3,fun k=>if k=i then some g else s k, ?_, ?_,⟨b0,b1,b2,b3⟩,fun k hk e=> ?_,fun k g' hk e=> ?_,fun j k g' hj hk hne e e2=> ?_⟩,[g1,g2,g3],f,fun y hy=>by simp at hy;rcases hy with rfl|rfl|rfl<;>assumption⟩
   · rw [hxi];simpa using B'
   · simp [l]
   · by_cases ek:k=i
     · simp [ek] at e
     · simp only [if_neg ek] at e
       rw [hxi,Int.toNat_natCast,VY _ _ _ _ _ (by omega),if_neg ek];exact hn k hk e
   · rw [hxi,Int.toNat_natCast]
     simp only
     rw [VY _ _ _ _ _ (by omega)]
     by_cases ek:k=i
     · simp only [if_pos ek,Option.some.injEq] at e
       subst e
       rw [if_pos ek]
       exact ⟨⟨hgb,by simp⟩,hb g hg,by omega,by omega,by omega,by omega⟩
     · simp only [if_neg ek] at e
       obtain ⟨⟨a1,a2⟩,a3,a4,a5,a6,a7⟩:=hs k g' hk e
       rw [if_neg ek]
       exact ⟨⟨f.at a1 (by simp;exact ⟨a5,a6,a7⟩),a2⟩,a3,a4,a5,a6,a7⟩
   · by_cases ej:j=i
     · by_cases ek:k=i
       · omega
       · simp only [if_pos ej,Option.some.injEq,if_neg ek] at e e2
         have:=hlt k g' hk e2;omega
     · by_cases ek:k=i
       · simp only [if_neg ej,if_pos ek,Option.some.injEq] at e e2
         have:=hlt j g' hj e;omega
       · simp only [if_neg ej,if_neg ek] at e e2
         exact hd j k g' hj hk hne e e2
 rw [if_neg o0] at hx
 have HH:∀b,h.has x.who x.ask=b→∀w',HB w' p g1 g2 g3 n h.who h.gen (svC n s)→Calls Tryz.prog 51 #[pt p,.int .i64 x.who,x.ask.val] w' fun e w2=>e=.returned (.bool b)∧Fr [] w' w2:=fun b hb w' B'=>by
  have:=Q7n w' p g1 g2 g3 n h _ B' x.who x.ask hwr
  rw [hb] at this;exact this
 have IN:h.has x.who x.ask=true→∃i:Nat,x.ask.slot=i∧i<n∧h.who.getD i 0=x.who+1:=fun e=>by
  unfold Jo.has at e
  split at e
  · cases e
  · rename_i hc
    rw [Bool.and_eq_true,decide_eq_true_eq,decide_eq_true_eq] at e
    exact ⟨x.ask.slot.toNat,by omega,by omega,e.1⟩
 by_cases o1:x.ask.op=1∨x.ask.op=2
 · rw [if_pos o1] at hx
   obtain rfl:=Option.some.inj hx
   rcases Bool.eq_false_or_eq_true (h.has x.who x.ask) with hh|hh
   · rw [if_pos hh]
     obtain ⟨i,hxi,hin, -⟩:=IN hh
     have P:∀e w',(e=.returned (.bool true)∧HB w' p g1 g2 g3 n (h.who.set i 0) h.gen (svC n s)∧Fr [g1] w w')→G6 w ok p n {h with who:=h.who.set x.ask.slot.toNat 0} e w':=by
      rintro e w' ⟨rfl,B',f⟩
      rw [hxi,Int.toNat_natCast]
      refine ⟨rfl,⟨g1,g2,g3,s,B',l,⟨b0,b1,b2,b3⟩,fun k hk e=> ?_,fun k g' hk e=> ?_,hd⟩,[g1],f,fun y hy=>by simp at hy;rw [hy];exact b1⟩
      · show (h.who.set i 0).getD k 0=0
        rw [VY _ _ _ _ _ (by omega)]
        split
        · rfl
        · exact hn k hk e
      · obtain ⟨⟨a1,a2⟩,a3,a4,a5,a6,a7⟩:=hs k g' hk e
        exact ⟨⟨f.at a1 (by simp;exact a5),a2⟩,a3,a4,a5,a6,a7⟩
     rcases o1 with o|o
     · exact (Q0r w p g1 g2 g3 n _ _ _ B x ha' he' o i hxi hin (HH _ hh)).mono P
     · exact (Q0p w p g1 g2 g3 n _ _ _ B x ha' he' o i hxi hin (HH _ hh)).mono P
   · rw [if_neg (by rw [hh];simp)]
     rcases o1 with o|o
     · exact (Q0s w p g1 g2 g3 n _ _ _ B x ha' he' o (HH _ hh)).mono (by rintro e w' ⟨rfl,f⟩;exact ⟨rfl,H0.fr f (by simp),[],f,by simp⟩)
     · exact (Q0q w p g1 g2 g3 n _ _ _ B x ha' he' o (HH _ hh)).mono (by rintro e w' ⟨rfl,f⟩;exact ⟨rfl,H0.fr f (by simp),[],f,by simp⟩)
 rw [if_neg o1] at hx
 by_cases o3:x.ask.op=3∨x.ask.op=4
 · rw [if_pos o3] at hx
   split at hx
   · cases hx
   rename_i hc
   split at hx
   · cases hx
   rename_i hc2
   obtain rfl:=Option.some.inj hx
   have hh:h.has x.who x.ask=true:=by simpa using fun e=>hc (.inl e)
   obtain ⟨i,hxi,hin,hwi⟩:=IN hh
   obtain ⟨j,hj⟩:∃j:Nat,x.stream=j:=⟨x.stream.toNat,by omega⟩
   have hj8:j<8:=by omega
   rw [hxi,hj,Int.toNat_natCast,Int.toNat_natCast] at hc2 ⊢
   cases hsi:s i with
   |none=>have:=hn i hin hsi;omega
   |some g=>
    obtain ⟨⟨a1,a2⟩,a3,a4⟩:=hs i g hin hsi
    have hC:(svC n s)[i]?=some (XO g 8):=by rw [Ez hin,hsi];rfl
    have P:∀o e w',(e=.returned (.bool true)∧HB w' p g1 g2 g3 n h.who h.gen (svC n s)∧w'.heap[g]?=some (.cells (((h.str.getD i []).set j o).map Value.bool).toArray 4 (0,0))∧Fr [g] w w')→G6 w ok p n {h with str:=h.str.set i ((h.str.getD i []).set j o)} e w':=by
     rintro o e w' ⟨rfl,B',hg',f⟩
     refine ⟨rfl,⟨g1,g2,g3,s,B',by simp [l],⟨b0,b1,b2,b3⟩,hn,fun k g' hk e=> ?_,hd⟩,[g],f,fun y hy=>by simp at hy;rw [hy];exact a3⟩
     obtain ⟨⟨c1,c2⟩,c3,c4⟩:=hs k g' hk e
     simp only
     rw [VY _ _ _ _ _ (by omega)]
     by_cases ek:k=i
     · subst ek
       rw [hsi] at e;cases e
       rw [if_pos rfl]
       exact ⟨⟨hg',by rw [List.length_set];exact a2⟩,c3,c4⟩
     · rw [if_neg ek]
       exact ⟨⟨f.at c1 (by simp;intro e2;subst e2;exact hd k i g' hk hin ek e hsi),c2⟩,c3,c4⟩
    rcases o3 with o|o
    · rw [decide_eq_true o] at hc2 ⊢
      exact (Q29 w p g1 g2 g3 n _ _ _ B x ha' he' o i j g _ hxi hin hj hj8 hC a1 a2 a4 (by simpa using hc2) (HH _ hh)).mono (P true)
    · rw [decide_eq_false (by omega)] at hc2 ⊢
      exact (Q28 w p g1 g2 g3 n _ _ _ B x ha' he' o i j g _ hxi hin hj hj8 hC a1 a2 a4 (by simpa using hc2) (HH _ hh)).mono (P false)
 · rw [if_neg o3] at hx
   exact (Q6d w p g1 g2 g3 n _ _ _ B x ha' he' ⟨o0,fun h=>o1 (.inl h),fun h=>o1 (.inr h),fun h=>o3 (.inl h),fun h=>o3 (.inr h)⟩).mono (same (Option.some.inj hx).symm)
def Q0Y (n:Nat):Obj:=.cells ((List.replicate n (0:Int)).map (Value.int .i64)).toArray 3 (0,0)
def objS (n:Nat):Obj:=.cells (List.replicate n (Value.slice none 0 0)).toArray 59 (0,0)
theorem Q3j:(Tryz.prog.info? 59).map (fun i=>(i.zero,i.size,i.bytes))=some (some (.slice none 0 0),1,24):=by kernel_rfl
theorem Q7b (z:Value) (hz:z.cells=#[z]) (n:Nat):madeCells z.cells (n*1)=(List.replicate n z).toArray:=by
 refine Array.ext (by simp [madeCells]) fun i h1 h2=> ?_
 simp [madeCells,hz,Nat.mod_one]
theorem mkI (n:Nat) (hn:n≤1000) (wx:World):(Instr.makeSlice 44 (.int .i64 n) (.int .i64 n)).run Tryz.prog wx=.ok (.slice (some ⟨wx.heap.size,0,none⟩) n n) (wx.alloc (Q0Y n)):=by
 obtain ⟨i0,hi0,hz0,hz1,hz2⟩:=info_parts VK
 have h:=run_make (P:=Tryz.prog) wx 44 3 i0 _ Tryz.underlying44 hi0 hz0 .i64 .i64 (n:Int) (n:Int) (by omega) (by omega) (by rw [hz2];omega) (by omega)
 rw [hz1,Int.toNat_natCast,Q7b _ (by simp [Value.cells])] at h
 unfold Q0Y
 rw [List.map_replicate]
 exact h
theorem mkS (n:Nat) (hn:n≤1000) (wx:World):(Instr.makeSlice 71 (.int .i64 n) (.int .i64 n)).run Tryz.prog wx=.ok (.slice (some ⟨wx.heap.size,0,none⟩) n n) (wx.alloc (objS n)):=by
 obtain ⟨i0,hi0,hz0,hz1,hz2⟩:=info_parts Q3j
 have h:=run_make (P:=Tryz.prog) wx 71 59 i0 _ Tryz.underlying71 hi0 hz0 .i64 .i64 (n:Int) (n:Int) (by omega) (by omega) (by rw [hz2];omega) (by omega)
 rw [hz1,Int.toNat_natCast,Q7b _ (by simp [Value.cells])] at h
 exact h
theorem al4 (w:World) (A B C D:Obj):let W:=(((w.alloc A).alloc B).alloc C).alloc D
 W.heap[w.heap.size]?=some A∧W.heap[w.heap.size+1]?=some B∧W.heap[w.heap.size+1+1]?=some C∧W.heap[w.heap.size+1+1+1]?=some D∧Fr [] w W:=by
 refine ⟨Qd (Qd (Qd (heap_alloc_new w A) B) C) D, ?_, ?_, ?_,((((Fr.refl [] w).alloc A).alloc B).alloc C).alloc D⟩
 · have:=Qd (Qd (heap_alloc_new (w.alloc A) B) C) D
   rwa [World.size_alloc] at this
 · have:=Qd (heap_alloc_new ((w.alloc A).alloc B) C) D
   rwa [World.size_alloc,World.size_alloc] at this
 · have:=heap_alloc_new (((w.alloc A).alloc B).alloc C) D
   rwa [World.size_alloc,World.size_alloc,World.size_alloc] at this
theorem Q9f (W:World) (p g1 g2 g3 n:Nat) (ok:Nat→Prop) (hb:W.heap[p]?=some (.cells #[.slice (some ⟨g1,0,none⟩) n n,.slice (some ⟨g2,0,none⟩) n n,.slice (some ⟨g3,0,none⟩) n n] 73 (0,0))) (h1:W.heap[g1]?=some (Q0Y n)) (h2:W.heap[g2]?=some (Q0Y n)) (h3:W.heap[g3]?=some (objS n))
 (ho:ok p∧ok g1∧ok g2∧ok g3) (ne:(p≠g1∧p≠g2∧p≠g3)∧(g1≠g2∧g1≠g3)∧g2≠g3):ZU W ok p n (Xf n):=by
 have e:svC n (fun _=>none)=List.replicate n (Value.slice none 0 0):=by
  refine List.ext_getElem (by simp [svC]) fun i h1 h2=>by simp [svC,svV]
 refine ⟨g1,g2,g3,fun _=>none,⟨hb, ?_, ?_, ?_,by simp [Xf],by simp [Xf],by simp [svC],ne⟩,by simp [Xf],ho,fun k hk _=> ?_,fun k g _ h=>(by cases h),fun j k g _ _ _ h=>(by cases h)⟩
 · simpa [Xf,Q0Y] using h1
 · simpa [Xf,Q0Y] using h2
 · rw [e];exact h3
 · simp [Xf,List.getD_eq_getElem?_getD,hk]
theorem Q03:∀(l:List EvV) (k j:Nat) (x:EvV),l[k]?=some x→j<18→(l.flatMap EvV.cells)[k*18+j]?=x.cells[j]?
 |[],k,j,x,h,_=>by simp at h
 |a::t,0,j,x,h,hj=>by
  simp only [List.getElem?_cons_zero,Option.some.injEq] at h
  subst h
  rw [List.flatMap_cons,Nat.zero_mul,Nat.zero_add,List.getElem?_append_left (by rw [XR];exact hj)]
 |a::t,k+1,j,x,h,hj=>by
  rw [List.getElem?_cons_succ] at h
  rw [List.flatMap_cons,List.getElem?_append_right (by rw [XR];omega),XR,show (k+1)*18+j - 18=k*18+j by omega]
  exact Q03 t k j x h hj
theorem run_ev {w:World} {g off cap:Nat} {evs:List EvV} (h:Xn w (.slice (some ⟨g,off,none⟩) evs.length cap) evs) {k:Nat} {x:EvV} (hx:evs[k]?=some x):(loadVar 50 ⟨g,off+k*18,none⟩).run Tryz.prog w=.ok x.val w:=by
 obtain ⟨ie,hie,hsz⟩:∃ie,Tryz.prog.info? 50=some ie∧x.cells.length=ie.size:=⟨_,rfl,rfl⟩
 refine Lib.rl_loadVar_cells _ ie hie (fun w=> ?_) g (off+k*18) x.cells hsz w ?_
 · simp [go_sem]
 · intro j v hj
   have hjl:j<18:=by have:=(List.getElem?_eq_some_iff.1 hj).1;rwa [XR] at this
   have h2:=QX.cell h (j:=k*18+j) (u:=v) (by rw [Q03 evs k j x hx hjl];exact hj)
   rw [←Nat.add_assoc] at h2
   exact h2
theorem Uc {l:List EvV} {i:Nat} {x:EvV} (h:l[i]?=some x):l.take (i+1)=l.take i++[x]:=by
 rw [List.take_add_one,h];rfl
theorem Wj:∀l:List EvV,l.foldl (fun (o:Option Jo) x=>o.bind fun h=>KI h x) none=none
 |[]=>rfl
 |x::t=>Wj t
theorem EX {sl:Int} {l:List EvV} {h:Jo} (e:XP sl l=some h) (k:Nat):∃h',XP sl (l.take k)=some h':=by
 cases hk:XP sl (l.take k) with
 |some h'=>exact ⟨h',rfl⟩
 |none=>
  unfold XP at e hk
  rw [←List.take_append_drop k l,List.foldl_append,hk,Wj] at e
  cases e
theorem Q32 (w:World) (pM n:Nat) (c:Q0) (evs:List EvV) (hv:Jo) (hn:c.sl=n) (hn8:n≤16) (hl:XP c.sl evs=some hv) (hw:∀x∈evs,0≤x.who∧x.who≤7) (hlen:evs.length≤100000)
 (HE:∀w',Fr [] w w'→Calls Tryz.prog 19 #[pt pM] w' (Q42 w' evs)):
 Calls Tryz.prog 21 #[pt pM,c.val] w fun e w'=>∃p,e=.returned (pt p)∧ZU w' (fun y=>w.heap.size≤y) p n hv∧Fr [] w w':=by
 have HEE:=hid HE;have HLV:=hid hl;have HWW:=hid hw
 obtain ⟨wo,sl,st,wa,us⟩:=c
 dsimp only at hn
 subst hn
 unfold Q0.val pt at*
 dsimp only at*
 have H1:=fun wx=>mkI n (by omega) wx
 have H2:=fun wx=>mkS n (by omega) wx
 clear HE hl hw
 go_in
 go_upto_region 1 with fail
 have hc:=heap_alloc_new w (.cells #[.int .i64 wo,.int .i64 n,.int .i64 st,.int .i64 wa,.int .i64 us] 30)
 have f1:=(Fr.refl [] w).alloc (.cells #[.int .i64 wo,.int .i64 n,.int .i64 st,.int .i64 wa,.int .i64 us] 30)
 have hs1:(w.alloc (.cells #[.int .i64 wo,.int .i64 n,.int .i64 st,.int .i64 wa,.int .i64 us] 30)).heap.size=w.heap.size+1:=World.size_alloc _ _
 obtain ⟨q,hq⟩:∃q,w.heap.size=q:=⟨_,rfl⟩
 rw [hq] at hc hs1 ⊢
 generalize w.alloc (.cells #[.int .i64 wo,.int .i64 n,.int .i64 st,.int .i64 wa,.int .i64 us] 30)=w1 at hc f1 hs1 ⊢
 have HS1:=hid hs1;have HF1:=hid f1;have HC:=hid hc;have HQ:=hid hq
 clear hs1 f1 hq
 go_cut [5] from 9 to 19 (fun s5 wx=>∃p:Nat,s5=.pointer (some ⟨p,0,none⟩)∧ZU wx (fun y=>q≤y) p n (Xf n)∧Fr [] w1 wx)
 case first=>
  have c1:=cl 1 hc
  have c2:=fun (o:Obj)=>cl 1 (Qd hc o)
  have c3:=fun (o o2:Obj)=>cl 1 (Qd (Qd hc o) o2)
  clear hc
  go_region
  all_goals go_wp2_with fail
  all_goals go_meet
  all_goals
   obtain ⟨a0,a1,a2,a3,a4⟩:=al4 w1 _ _ _ _
   refine ⟨_,rfl, ?_,a4.drew⟩
  all_goals have hs:=HS1.out
  all_goals exact Q9f _ _ _ _ _ _ _ a3 (by first|exact a0|exact a1|exact a2) (by first|exact a0|exact a1|exact a2) (by first|exact a0|exact a1|exact a2) ⟨by omega,by omega,by omega,by omega⟩ ⟨⟨by omega,by omega,by omega⟩,⟨by omega,by omega⟩,by omega⟩
 case rest=>
  obtain ⟨p,rfl,hhe,f2⟩:=hcut
  have F2:=hid (HF1.out.trans f2);have HHe:=hid hhe
  clear H1 H2 hc f2 hhe
  go_wp2_with fail
  refine (HEE.out _ F2.out).mono ?_
  rintro e w3 ⟨v',rfl,he,hv',f3⟩
  obtain ⟨a,cap,hva⟩:=he.form
  have hh3:=(HHe.out.narrow (ok':=fun y=>q≤y∧v'.ownBlock≠some y) (fun x hx h=>⟨h,fun e=>by have:=hv' x e;omega⟩)).fr f3 (by simp)
  have F3:=hid (F2.out.trans f3)
  subst hva
  obtain ⟨len,hln⟩:∃len,evs.length=len:=⟨_,rfl⟩
  have HE3:=hid he;have HH3:=hid hh3;have HLN:=hid hln
  rw [hln] at HH3 hlen ⊢
  clear f3 HHe hv' he hh3 hln F2
  go_wp2_with fail
  go_loopw [7,8] (fun s7 s8 wr=>∃(i:Nat) (h:Jo),i≤len∧s7=.int .i64 i∧XP n (evs.take i)=some h∧ZU wr (fun y=>q≤y∧(Value.slice a len cap).ownBlock≠some y) p n h∧Xn wr (.slice a len cap) evs∧Fr [] w wr) (fun s7 _ _=>len - (intOf s7).toNat)
  case atStart=>exact ⟨0,_,Nat.zero_le _,rfl,rfl,HH3.out,by have:=HE3.out;rwa [HLN.out] at this,F3.out⟩
  case round=>
   obtain ⟨i,h,hi,rfl,hlv,hhe,he,f4⟩:=hrel
   by_cases hlt:i<len
   · obtain ⟨x,hx⟩:∃x,evs[i]?=some x:=⟨_,List.getElem?_eq_getElem (by rw [HLN.out];exact hlt)⟩
     have hlt':(i:Int)<len:=by omega
     have hi0:(0:Int)≤(i:Int):=by omega
     obtain ⟨h',ht⟩:∃h',KI h x=some h':=by
      obtain ⟨h',e⟩:=EX HLV.out (i+1)
      rw [Uc hx,Y8,hlv] at e
      exact ⟨h',e⟩
     have hnx:XP n (evs.take (i+1))=some h':=by rw [Uc hx,Y8,hlv];exact ht
     have hxw:=HWW.out x (List.mem_of_getElem? hx)
     have hown:∀y,wr.heap.size≤y→q≤y∧(Value.slice a len cap).ownBlock≠some y:=fun y hy=>⟨by have:=f4.size;have:=HQ.out;omega,fun e=>by have:=he.lt y e;omega⟩
     have HTT:=hid (Q6g wr _ p n h h' x hhe hown ht hxw.1 hxw.2)
     have he':=he
     unfold Xn at he'
     rw [HLN.out] at he'
     rcases he'.2 with ⟨_,h0⟩|⟨g,off,cap',cur,hval,hg, -⟩
     · omega
     simp only [Value.slice.injEq,true_and] at hval
     obtain ⟨rfl, -⟩:=hval
     have hld:=run_ev (k:=i) (x:=x) (by rw [HLN.out];exact he) hx
     have HEV:=hid he;have HF4:=hid f4;have HNX:=hid hnx
     clear he he' hg hnx hx hhe hlv ht hown f4 hxw
     unfold pt at HTT
     go_wp2_with (first|(refine ZI rfl _ _ rfl _ _ rfl hld ?_)|fail)
     refine (HTT.out).mono ?_
     rintro e w5 ⟨rfl,hh5,S,fS,hS⟩
     have HH5:=hid hh5;have HFS:=hid fS;have HSS:=hid hS
     clear hld hh5 fS hS
     go_wp2_with fail
     refine ⟨⟨i+1,h',by omega,by go_num,HNX.out,HH5.out,QX.fr HEV.out HFS.out (fun b hb hm=>(HSS.out b hm).2 hb),HF4.out.then HFS.out (fun x hx=>.inr (by have:=(HSS.out x hx).1;have:=HQ.out;omega))⟩,by simp [intOf];omega⟩
   · obtain rfl:i=len:=by omega
     rw [List.take_of_length_le (by rw [HLN.out];exact Nat.le_refl _),HLV.out] at hlv
     cases hlv
     have HH6:=hid (hhe.narrow (ok':=fun y=>w.heap.size≤y) (fun x _ h=>by rw [HQ.out];exact h.1));have HF6:=hid f4
     clear hhe he f4
     go_wp2
     go_ret
     exact ⟨p,rfl,HH6.out,HF6.out⟩
end
section
theorem En (m:Qb) (who:Nat) (t:Qe):(XD m who t).evs=m.evs:=by
 unfold XD
 simp only
 repeat' split
 all_goals rfl
theorem UY (m:Qb) (who:Nat) (r:QM):(QY m who r).evs=m.evs:=by
 unfold QY
 simp only
 repeat' split
 all_goals rfl
theorem Q24 (m:Qb) (who:Nat):(Jb m who).evs=m.evs:=by
 unfold Jb
 simp only
 split
 · rfl
 · exact En _ _ _
 · rfl
 · rfl
 · exact UY _ _ _
 · split<;>rfl
 · rfl
theorem Q1E (m:Qb) (who:Nat):(XC m who).evs=m.evs:=by
 unfold XC
 simp only
 repeat' split
 all_goals rfl
theorem U4 (m:Qb) (who:Nat):(Xc m who).evs=m.evs:=by
 unfold Xc
 simp only
 repeat' split
 all_goals rfl
theorem Wi (m:Qb) (who:Nat):(JW m who).evs=m.evs:=by
 unfold JW
 simp only
 rfl
theorem Q1A (m:Qb) (who:Nat):(XB m who).evs=m.evs:=by
 unfold XB
 simp only
 rfl
theorem Q0V (m:Qb) (who:Nat):(Z6 m who).evs=m.evs:=by
 unfold Z6
 simp only
 split
 · exact U4 _ _
 · exact Wi _ _
theorem Q0w (m:Qb) (who:Nat):(Xp m who).evs=m.evs∨∃e:EvV,(Xp m who).evs=m.evs++[e]∧e.who=who:=by
 unfold Xp
 simp only
 split
 · split
   · exact .inl rfl
   · exact .inr ⟨_,rfl,rfl⟩
 · exact .inl rfl
theorem Q4t (m:Qb) (who:Nat):(QJ m who).evs=m.evs∨∃e:EvV,(QJ m who).evs=m.evs++[e]∧e.who=who:=by
 unfold QJ
 simp only
 split
 · exact .inl rfl
 split
 · exact .inl (Q24 _ _)
 split
 · exact .inl (Q1E _ _)
 split
 · exact .inl (Q1A _ _)
 split
 · exact Q0w _ _
 split
 · exact .inl (Q0V _ _)
 split
 · exact .inl (U4 _ _)
 split
 · exact .inl (Wi _ _)
 · exact .inl rfl
def Wu (m:Qb):Prop:=∀x∈m.evs,0≤x.who∧x.who<m.ws.length
theorem Wu.new (c:Q0):Wu (QH c):=fun x hx=>by simp [QH] at hx
theorem Wu.do_ {m:Qb} (h:Wu m) (x:QF) (hl:(doV m x).1.ws.length=m.ws.length):Wu (doV m x).1:=by
 have add:∀{m':Qb} {e:EvV},m'.evs=m.evs++[e]→0≤e.who→e.who<m.ws.length→∀y∈m'.evs,0≤y.who∧y.who<m.ws.length:=fun he h0 h1 y hy=>by
  rw [he] at hy
  rcases List.mem_append.1 hy with a|a
  · exact h y a
  · rw [List.mem_singleton.1 a];exact ⟨h0,h1⟩
 intro y hy
 rw [hl]
 unfold doV at hy
 simp only at hy
 split at hy
 · unfold YA at hy
   split at hy
   · rename_i hc
     have hh:=hc.1
     unfold Qb.has at hh
     rw [Bool.and_eq_true,decide_eq_true_eq,decide_eq_true_eq] at hh
     exact add (e:={ev0 with who:=x.who,at_:=m.entries,ask:=x.ask}) rfl hh.1 hh.2 y hy
   · exact h y hy
 split at hy
 · unfold KW at hy
   split at hy
   · rename_i hh
     unfold Qb.has at hh
     rw [Bool.and_eq_true,decide_eq_true_eq,decide_eq_true_eq] at hh
     obtain ⟨h0,h1⟩:=hh
     simp only at h1 hy
     split at hy
     · exact h y hy
     · rcases Q4t {m with at_:=m.entries,entries:=m.entries+1} x.who.toNat with e|⟨e,e1,e2⟩
       · rw [e] at hy;exact h y hy
       · exact add e1 (by omega) (by omega) y hy
   · exact h y hy
 split at hy
 · exact h y hy
 split at hy
 · split at hy
   · exact h y hy
   · exact h y hy
 split at hy
 · unfold YD at hy
   split at hy
   · exact h y hy
   · split at hy
     · exact h y hy
     · exact h y hy
 · exact h y hy
def JY (w:Int):QF:=⟨1,w,K8,0,false⟩
def Yy (W who:Nat):Nat→Qb→Nat→Int→Int→Qb×Bool×Int×Int
 |0,m,k,n,r=>(m,false,n,r)
 |f+1,m,k,n,r=>
  if k<W then
   let w:=(who+k) % W
   let d:=doV m (JY w)
   if d.2 then (if (d.1.wk w).st=0∨(d.1.wk w).st=6 then (d.1,true, -1,r+1) else (d.1,true,n,r)) else Yy W who f d.1 (k+1) n r
  else (m,false,n,r)
def UZ (order:List Int) (i:Nat):Nat:=if order.length=0 then 0 else (order.getD (i % order.length) 0).toNat
def Y5 (W:Nat) (limit:Int) (order:List Int):Nat→Qb→Nat→Int→Int→Qb×Bool
 |0,m,i,n,r=>(m,false)
 |f+1,m,i,n,r=>
  if n≤limit∧r≤3*(W:Int) then
   let d:=Yy W (UZ order i) W m 0 n r
   if d.2.1 then Y5 W limit order f d.1 (i+1) (d.2.2.1+1) d.2.2.2 else (d.1,true)
  else (m,false)
def JE:Q0:=⟨2,1,0,1,9⟩
def K6:Int:=60000
def Q7U:Bool:=
 let a:=doV (QH JE) ⟨0,0,K8,0,false⟩
 let one:=Y5 2 K6 [] 1000 a.1 0 0 0
 let b:=doV one.1 ⟨0,1,{K8 with wait:=true,dl:=9},0,false⟩
 let two:=Y5 2 K6 [] 1000 b.1 0 0 0
 let d:=doV two.1 ⟨0,0,{K8 with op:=2,gen:=1},0,false⟩
 let three:=Y5 2 K6 [] 1000 d.1 0 0 0
 a.2&&b.2&&d.2&&one.2&&two.2&&three.2&&decide ((two.1.wk 1).st=6)&&decide ((three.1.wk 1).st=0)&&decide (three.1.evs.length=6)&&decide ((three.1.evs.getD 5 ev0).e=0)&&decide (three.1.entries≤1000)
theorem Q1M:Q7U=true:=by decide+kernel
theorem Q0j (m:Qb) (who:Nat) (t:Qe):(XD m who t).entries=m.entries:=by
 unfold XD
 simp only
 repeat' split
 all_goals rfl
theorem Em (m:Qb) (who:Nat) (r:QM):(QY m who r).entries=m.entries:=by
 unfold QY
 simp only
 repeat' split
 all_goals rfl
theorem Q4e (m:Qb) (who:Nat):(Jb m who).entries=m.entries:=by
 unfold Jb
 simp only
 split
 · rfl
 · exact Q0j _ _ _
 · rfl
 · rfl
 · exact Em _ _ _
 · split<;>rfl
 · rfl
theorem Q3f (m:Qb) (who:Nat):(XC m who).entries=m.entries:=by
 unfold XC
 simp only
 repeat' split
 all_goals rfl
theorem Du (m:Qb) (who:Nat):(Xc m who).entries=m.entries:=by
 unfold Xc
 simp only
 repeat' split
 all_goals rfl
theorem Uu (m:Qb) (who:Nat):(JW m who).entries=m.entries:=by
 unfold JW
 simp only
 rfl
theorem Q3c (m:Qb) (who:Nat):(XB m who).entries=m.entries:=by
 unfold XB
 simp only
 rfl
theorem Q2A (m:Qb) (who:Nat):(Z6 m who).entries=m.entries:=by
 unfold Z6
 simp only
 split
 · exact Du _ _
 · exact Uu _ _
theorem Q2a (m:Qb) (who:Nat):(Xp m who).entries=m.entries:=by
 unfold Xp
 simp only
 repeat' split
 all_goals rfl
theorem Q6r (m:Qb) (who:Nat):(QJ m who).entries=m.entries:=by
 unfold QJ
 simp only
 split
 · rfl
 split
 · exact Q4e _ _
 split
 · exact Q3f _ _
 split
 · exact Q3c _ _
 split
 · exact Q2a _ _
 split
 · exact Q2A _ _
 split
 · exact Du _ _
 split
 · exact Uu _ _
 · rfl
theorem ZR (m:Qb) (x:QF):(doV m x).1.entries=m.entries+1:=by
 unfold doV
 simp only
 split
 · unfold YA;split<;>rfl
 split
 · unfold KW
   split
   · simp only;split
     · rfl
     · exact Q6r _ _
   · rfl
 split
 · rfl
 split
 · split<;>rfl
 split
 · unfold YD
   split
   · rfl
   · split<;>rfl
 · rfl
theorem Ug (W who:Nat):∀(f:Nat) (m:Qb) (k:Nat) (n r:Int),m.entries≤(Yy W who f m k n r).1.entries
 |0,m,k,n,r=>Int.le_refl _
 |f+1,m,k,n,r=>by
  unfold Yy
  have h:=ZR m (JY (((who+k) % W:Nat):Int))
  split
  · simp only
    split
    · split
      · show m.entries≤(doV m _).1.entries;omega
      · show m.entries≤(doV m _).1.entries;omega
    · have:=Ug W who f (doV m (JY (((who+k) % W:Nat):Int))).1 (k+1) n r
      omega
  · exact Int.le_refl _
theorem KM (W:Nat) (lim:Int) (order:List Int):∀(f:Nat) (m:Qb) (i:Nat) (n r:Int),m.entries≤(Y5 W lim order f m i n r).1.entries
 |0,m,i,n,r=>Int.le_refl _
 |f+1,m,i,n,r=>by
  unfold Y5
  have h:=Ug W (UZ order i) W m 0 n r
  split
  · simp only
    split
    · have:=KM W lim order f (Yy W (UZ order i) W m 0 n r).1 (i+1) ((Yy W (UZ order i) W m 0 n r).2.2.1+1) (Yy W (UZ order i) W m 0 n r).2.2.2
      omega
    · exact h
  · exact Int.le_refl _
end
section
def qS (s:Q8):Int:=if s.st=2∨s.st=3∨s.st=4 then 4 else if s.st=6 then 1 else 0
def QSn (c:Q0) (M:List Int):Nat→Int
 |0=>0
 |k+1=>QSn c M k+qS (SL c M k)
def QS (c:Q0) (M:List Int):Int:=QSn c M c.sl.toNat
theorem G8 {c:Q0} {M M':List Int} (h:∀i,SL c M' i=SL c M i):∀k:Nat,QSn c M' k=QSn c M k
 |0=>rfl
 |k+1=>by unfold QSn;rw [G8 h k,h]
variable {c:Q0} {w:Nat} {n:Int} {M M':List Int}
structure Same (c:Q0) (M M':List Int):Prop where
 s:∀i,Q7 M' (Q5 c i)=Q7 M (Q5 c i)
 q:Q7 M' 1=Q7 M 1
 e:Q7 M' 2=Q7 M 2
theorem Same.refl:Same c M M:=⟨fun _=>rfl,rfl,rfl⟩
theorem Same.mQ (h:Same c M M'):mQ M'=mQ M:=Q1l h.q
theorem Same.SL (h:Same c M M') (i:Int):SL c M' i=SL c M i:=by unfold Go.Proofs.YtgjklfmnmljilaaGreatDoor.SL;rw [h.s]
theorem Same.QS (h:Same c M M'):QS c M'=QS c M:=G8 h.SL _
def mt (c:Q0) (M:List Int) (i word:Int):Bool:=decide (Q7 M (Q5 c i)=word)
theorem Same.mt (h:Same c M M') (i word:Int):mt c M' i word=mt c M i word:=by unfold Go.Proofs.YtgjklfmnmljilaaGreatDoor.mt;rw [h.s]
def Qw (c:Q0):Int:=2*c.wo+1
def Gg (c:Q0) (M M':List Int) (j j' r r':Int):Prop:=
 (mQ M'=mQ M∧QS c M'+j'+1≤QS c M+j)∨(QS c M'=QS c M∧Qw c*((mQ M').length:Int)+j'+2*c.wo≤Qw c*((mQ M).length:Int)+j+1)∨(Same c M M'∧j'≤j∧r'+1≤r)
def rR (c:Q0) (M:List Int) (i:Int) (r:J4) (X:Int):Int:=match r.st with|.swap=>(if mt c M i r.word then 1 else X)|.look=>3|.age=>2|.J5=>1|.done=>0
def tFq (c:Q0):Int:=c.sl*(c.wo+5)+9
end
section
variable {c:Q0} {w:Nat} {n:Int} {M M':List Int}
def gR (c:Q0) (M:List Int) (g:Qy):Int:=if g.st=0 then tFq c+3 else if g.st=1 then tFq c+2 else if g.st=2 then (if mt c M g.i g.word then 1 else tFq c+3) else if g.st=3 then rR c M g.i g.rt (tFq c+3) else 0
end
section
variable {c:Q0} {w:Nat} {n:Int} {M M':List Int}
def Vi (c:Q0) (M:List Int):List Int:=(List.range c.sl.toNat).map fun i:Nat=>Q7 M (c.slot (i:Int))
def ZK (c:Q0) (M:List Int) (t:Tw2):Prop:=t.d=false∧t.r=(Vi c M).take t.r.length
instance (c:Q0) (M:List Int) (t:Tw2):Decidable (ZK c M t):=by unfold ZK;infer_instance
def twR (c:Q0) (M:List Int) (t:Tw2):Int:=(c.sl - t.r.length)+(if ZK c M t then (if 0<t.n∧t.l=Vi c M then 0 else c.sl) else 2*c.sl)
theorem Same.cur (h:Same c M M'):Vi c M'=Vi c M:=by
 unfold Vi
 refine List.map_congr_left fun i hi=> ?_
 have:=h.s i
 unfold Q5 at this
 rw [List.mem_range] at hi
 rw [if_pos (by omega)] at this
 exact this
theorem Same.twR (h:Same c M M') (t:Tw2):twR c M' t=twR c M t:=by unfold Go.Proofs.YtgjklfmnmljilaaGreatDoor.twR ZK;simp only [h.cur]
end
section
theorem Gg.shift {c:Q0} {M M':List Int} {j j' r r':Int} (g:Gg c M M' j j' r r') {d d' e:Int} (h:d'≤d):Gg c M M' (j+d) (j'+d') (r+e) (r'+e):=by
 rcases g with ⟨a,b⟩|⟨a,b⟩|⟨a,b,x⟩
 · exact .inl ⟨a,by omega⟩
 · exact .inr (.inl ⟨a,by omega⟩)
 · exact .inr (.inr ⟨a,by omega,by omega⟩)
theorem Gg.le {c:Q0} {M M':List Int} {j j' r r':Int} (g:Gg c M M' j j' r r') {a a' b b':Int} (h1:j≤a) (h2:a'≤j') (h3:r≤b) (h4:b'≤r'):Gg c M M' a a' b b':=by
 rcases g with ⟨x,y⟩|⟨x,y⟩|⟨x,y,z⟩
 · exact .inl ⟨x,by omega⟩
 · exact .inr (.inl ⟨x,by omega⟩)
 · exact .inr (.inr ⟨x,by omega,by omega⟩)
def cR (c:Q0) (M:List Int) (t:Tw2):Int:=twR c M t+(if ZK c M t then 3*c.sl+tFq c+6 else 8*c.sl+2*tFq c+12)
variable {n:Int} {m m':Qb} {w:Nat} {c:Q0} {M M':List Int} {k:Qa}
end
section
variable {n:Int} {m m':Qb} {w:Nat} {c:Q0} {M M':List Int} {k:Qa}
def Hg (c:Q0):Int:=10000*c.wo*(c.sl+c.wo)
end
end Go.Proofs.YtgjklfmnmljilaaGreatDoor
