/- A part of the proof. -/
import Derived.Test.YtgjklfmnmljilaaGreatDoorZR18
namespace Go.Proofs.YtgjklfmnmljilaaGreatDoor
set_option linter.unusedVariables false
set_option linter.unusedSimpArgs false
set_option linter.unusedSectionVars false
set_option linter.unnecessarySimpa false
set_option maxRecDepth 100000
set_option maxHeartbeats 8000000
section
open Go.RowKit Go.Lib
structure Th where
 own:Bool
 fp:List Nat
 P:World→Prop
 keep:∀{S:List Nat} {w w':World},Fr S w w'→(∀x∈fp,x∉S)→P w→P w'
def Th.nil:Th:=⟨false,[],fun _=>True,fun _ _ _=>trivial⟩
abbrev gt (L:List Th) (i:Nat):Th:=L.getD i Th.nil
abbrev tRo (o:Bool) (b:Nat) (A:Array Value) (t:TypeId):Th:=⟨o,[b],fun w=>w.heap[b]?=some (.cells A t (0,0)),fun f h k=>f.at k (h b Lc)⟩
abbrev tR:=tRo true
structure Bag (S0:List Nat) (w0:World) (L:List Th) (w:World):Prop where
 fr:Fr S0 w0 w
 all:∀i,(gt L i).P w
 lt:∀i,∀x∈(gt L i).fp,x<w.heap.size
 nd:∀i j,i≠j→∀x∈(gt L i).fp,x∉(gt L j).fp
 ow:∀i,(gt L i).own=true→∀x∈(gt L i).fp,x∈S0∨w0.heap.size≤x
section
variable {S0:List Nat} {w0 w w':World} {L L':List Th}
theorem Kv (L:List Th) (i j:Nat) (T:Th) (hi:i<L.length):gt (L.set i T) j=if i=j then T else gt L j:=by
 simp only [gt,List.getD_eq_getElem?_getD,List.getElem?_set]
 split
 · next h=>subst h;simp [hi]
 · rfl
theorem EN (L:List Th) (T:Th) (j:Nat):gt (L++[T]) j=if j=L.length then T else gt L j:=by
 simp only [gt,List.getD_eq_getElem?_getD,List.getElem?_append]
 split
 · rw [if_neg Lb]
 · by_cases h:j=L.length
   · subst h;simp
   · rw [if_neg h,List.getElem?_eq_none (by simp;omega),List.getElem?_eq_none Lb]
theorem WJ (L:List Th) (n j:Nat):gt (L.take n) j=if j<n then gt L j else Th.nil:=by
 simp only [gt,List.getD_eq_getElem?_getD,List.getElem?_take]
 split<;>rfl
theorem Bag.g (B:Bag S0 w0 L w) (i:Nat):(gt L i).P w:=B.all i
theorem Bag.nil (S0:List Nat) (w:World):Bag S0 w [] w:=⟨Fr.refl S0 w,fun _=>trivial,fun _ _ h=>by simp [gt,Th.nil] at h,fun _ _ _ _ h=>by simp [gt,Th.nil] at h,fun _ h=>by simp [gt,Th.nil] at h⟩
theorem Bag.add (B:Bag S0 w0 L w) (T:Th) (h:T.P w) (hlt:∀x∈T.fp,x<w.heap.size) (hn:∀i,∀x∈T.fp,x∉(gt L i).fp) (ho:T.own=true→∀x∈T.fp,x∈S0∨w0.heap.size≤x):Bag S0 w0 (L++[T]) w:=by
 refine ⟨B.fr,fun i=> ?_,fun i x hx=> ?_,fun i j hij x hx=> ?_,fun i hi x hx=> ?_⟩
 · rw [EN];split
   · exact h
   · exact B.all i
 · rw [EN] at hx;split at hx
   · exact hlt x hx
   · exact B.lt i x hx
 · rw [EN] at hx ⊢
   split at hx
   · rw [if_neg Lb];exact hn j x hx
   · split
     · intro hm;exact hn i x hm hx
     · exact B.nd i j hij x hx
 · rw [EN] at hi hx
   split at hi
   · rw [if_pos (by assumption)] at hx;exact ho hi x hx
   · rw [if_neg (by assumption)] at hx;exact B.ow i hi x hx
theorem Bag.pad (B:Bag S0 w0 L w) (hL:L++[Th.nil]=L':=by (try simp only [List.nil_append,List.cons_append]);exact rfl):Bag S0 w0 L' w:=
 hL▸B.add Th.nil trivial (fun x h=>by simp [Th.nil] at h) (fun i x h=>by simp [Th.nil] at h) (fun h=>by cases h)
theorem Bag.tm (B:Bag S0 w0 L w) {S:List Nat} (f:Fr S w w') (hS:S=[]:=by exact rfl):Bag S0 w0 L w':=by
 subst hS
 exact ⟨B.fr.trans (f.mono Lc),fun i=>(gt L i).keep f Lc (B.all i),fun i x hx=>Nat.lt_of_lt_of_le (B.lt i x hx) f.size,B.nd,B.ow⟩
theorem Bag.mono {S0 S1:List Nat} {w0 w:World} {L:List Th} (B:Bag S0 w0 L w) (h:∀x∈S0,x∈S1):Bag S1 w0 L w:=⟨B.fr.mono h,B.all,B.lt,B.nd,fun i hi x hx=>(B.ow i hi x hx).imp (h x) id⟩
theorem Bag.fo (B:Bag S0 w0 L w) {S:List Nat} (f:Fr S w w') (h0:∀x∈S,x∈S0) (hne:∀i,∀x∈(gt L i).fp,x∉S):Bag S0 w0 L w':=
 ⟨B.fr.trans (f.mono h0),fun i=>(gt L i).keep f (hne i) (B.all i),fun i x hx=>Nat.lt_of_lt_of_le (B.lt i x hx) f.size,B.nd,B.ow⟩
theorem Bag.drew (B:Bag S0 w0 L w):Bag S0 w0 L w.drew:=B.tm (Fr.refl [] w).drew
theorem Bag.tk (B:Bag S0 w0 L w) (n:Nat) (hL:L.take n=L':=by exact rfl):Bag S0 w0 L' w:=by
 subst hL
 refine ⟨B.fr,fun i=> ?_,fun i x hx=> ?_,fun i j hij x hx=> ?_,fun i hi x hx=> ?_⟩
 · rw [WJ];split
   · exact B.all i
   · trivial
 · rw [WJ] at hx;split at hx
   · exact B.lt i x hx
   · simp [Th.nil] at hx
 · rw [WJ] at hx ⊢;split at hx
   · split
     · exact B.nd i j hij x hx
     · simp [Th.nil]
   · simp [Th.nil] at hx
 · rw [WJ] at hi hx;split at hi
   · rw [if_pos (by assumption)] at hx;exact B.ow i hi x hx
   · cases hi
theorem Bag.pre (B:Bag S0 w0 L w) (hL:L.take L'.length=L':=by exact rfl):Bag S0 w0 L' w:=B.tk _ hL
theorem Bag.n2 (B:Bag S0 w0 L w) (i j:Nat) {x y:Nat} (hi:x∈(gt L i).fp:=by simp [gt]) (hj:y∈(gt L j).fp:=by simp [gt]) (h:i≠j:=by decide):x≠y:=fun e=>B.nd i j h x hi (e▸hj)
theorem Bag.new (B:Bag [] w0 L w) (i:Nat) {x:Nat} (hi:x∈(gt L i).fp:=by simp [gt]) (ho:(gt L i).own=true:=by exact rfl):w0.heap.size≤x:=(B.ow i ho x hi).resolve_left Lc
theorem Bag.sel (B:Bag S0 w0 L w) (is:List Nat) (hn:is.Nodup:=by decide) (hL:is.map (gt L)=L':=by first|(simp only [List.map_cons,List.map_nil,gt,List.getD_cons_zero,List.getD_cons_succ];done)|(simp only [List.map_cons,List.map_nil,gt,List.getD_cons_zero,List.getD_cons_succ];exact rfl)|exact rfl):Bag S0 w0 L' w:=by
 subst hL
 have hg:∀j,gt (is.map (gt L)) j=if h:j<is.length then gt L is[j] else Th.nil:=fun j=>by
  simp only [gt,List.getD_eq_getElem?_getD,List.getElem?_map]
  by_cases h:j<is.length
  · rw [dif_pos h,List.getElem?_eq_getElem h];rfl
  · rw [dif_neg h,List.getElem?_eq_none Lb];rfl
 refine ⟨B.fr,fun i=> ?_,fun i x hx=> ?_,fun i j hij x hx=> ?_,fun i hi x hx=> ?_⟩
 · rw [hg];split
   · exact B.all _
   · trivial
 · rw [hg] at hx;split at hx
   · exact B.lt _ x hx
   · simp [Th.nil] at hx
 · rw [hg] at hx ⊢;split at hx
   · split
     · next h1 h2=>
       have hp:=List.pairwise_iff_getElem.1 hn
       refine B.nd _ _ ?_ x hx
       rcases Nat.lt_or_gt_of_ne hij with h|h
       · exact hp i j h1 h2 h
       · exact fun e=>hp j i h2 h1 h e.symm
     · simp [Th.nil]
   · simp [Th.nil] at hx
 · rw [hg] at hi hx;split at hi
   · rw [dif_pos (by assumption)] at hx;exact B.ow _ hi x hx
   · cases hi
theorem Bag.look (B:Bag S0 w0 L w) (is:List Nat) (hn:is.Nodup:=by decide) (hL:is.map (fun i=>⟨false,(gt L i).fp,(gt L i).P,(gt L i).keep⟩)=L':=by (try simp only [List.map_cons,List.map_nil,gt,List.getD_cons_zero,List.getD_cons_succ]);exact rfl):Bag [] w L' w:=by
 subst hL
 have B:=B.sel is hn rfl
 have hg:∀j,gt (is.map (fun i=>(⟨false,(gt L i).fp,(gt L i).P,(gt L i).keep⟩:Th))) j=⟨false,(gt (is.map (gt L)) j).fp,(gt (is.map (gt L)) j).P,(gt (is.map (gt L)) j).keep⟩:=fun j=>by
  by_cases h:j<is.length
  · simp [gt,List.getD_eq_getElem?_getD,h]
  · simp [gt,List.getD_eq_getElem?_getD,List.getElem?_eq_none (Nat.le_of_not_lt h)];rfl
 refine ⟨Fr.refl _ _,fun i=> ?_,fun i x hx=> ?_,fun i j hij x hx=> ?_,fun i hi=> ?_⟩
 · rw [hg];exact B.all i
 · rw [hg] at hx;exact B.lt i x hx
 · rw [hg] at hx ⊢;exact B.nd i j hij x hx
 · rw [hg] at hi;cases hi
theorem Bag.up' (B:Bag S0 w0 L w) (i:Nat) {T':Th} {S:List Nat} (h:T'.P w') (f:Fr S w w') (ho:∀x∈S,(gt L i).own=true∧x∈(gt L i).fp) (hp:∀x∈T'.fp,x<w'.heap.size∧((T'.own=true→(gt L i).own=true)∧x∈(gt L i).fp∨w.heap.size≤x))
 (hi:i<L.length):Bag S0 w0 (L.set i T') w':=by
 refine ⟨B.fr.then f (fun x hx=>B.ow i (ho x hx).1 x (ho x hx).2),fun j=> ?_,fun j x hx=> ?_,fun j k hjk x hx=> ?_,fun j hj x hx=> ?_⟩
 · rw [Kv L i j T' hi];split
   · exact h
   · next hij=>exact (gt L j).keep f (fun x hx hs=>B.nd j i (fun e=>hij e.symm) x hx (ho x hs).2) (B.all j)
 · rw [Kv L i j T' hi] at hx;split at hx
   · exact (hp x hx).1
   · exact Nat.lt_of_lt_of_le (B.lt j x hx) f.size
 · rw [Kv L i j T' hi] at hx;rw [Kv L i k T' hi]
   split at hx
   · rw [if_neg Lb]
     rcases (hp x hx).2 with ⟨-,h2⟩|h2
     · exact B.nd i k Lb x h2
     · intro hm;have:=B.lt k x hm;omega
   · split
     · intro hm
       rcases (hp x hm).2 with ⟨-,h2⟩|h2
       · exact B.nd j i Lb x hx h2
       · have:=B.lt j x hx;omega
     · exact B.nd j k hjk x hx
 · rw [Kv L i j T' hi] at hj hx
   split at hj
   · rw [if_pos (by assumption)] at hx
     rcases (hp x hx).2 with ⟨h1,h2⟩|h2
     · exact B.ow i (h1 hj) x h2
     · right;have:=B.fr.size;omega
   · rw [if_neg (by assumption)] at hx;exact B.ow j hj x hx
theorem Bag.up (B:Bag S0 w0 L w) (i:Nat) {T':Th} {S:List Nat} (h:T'.P w') (f:Fr S w w') (ho:(gt L i).own=true:=by exact rfl) (hp:T'.fp=(gt L i).fp:=by exact rfl)
 (hS:S=(gt L i).fp:=by exact rfl) (hi:i<L.length:=by exact Nat.lt_of_sub_ne_zero (by intro h;cases h)) (hL:L.set i T'=L':=by (try simp only [List.set_cons_zero,List.set_cons_succ,List.nil_append,List.cons_append]);exact rfl):Bag S0 w0 L' w':=by
 subst hL
 exact B.up' i h f (fun x hx=>⟨ho,hS▸hx⟩) (fun x hx=>⟨Nat.lt_of_lt_of_le (B.lt i x (hp▸hx)) f.size,.inl ⟨fun _=>ho,hp▸hx⟩⟩) hi
theorem Bag.rp (B:Bag S0 w0 L w) (i:Nat) {T':Th} {S:List Nat} (h:T'.P w') (f:Fr S w w') (hn:∀x∈T'.fp,w.heap.size≤x∧x<w'.heap.size) (hS:S=[]:=by exact rfl) (hi:i<L.length:=by exact Nat.lt_of_sub_ne_zero (by intro h;cases h)) (hL:L.set i T'=L':=by (try simp only [List.set_cons_zero,List.set_cons_succ,List.nil_append,List.cons_append]);exact rfl):Bag S0 w0 L' w':=by
 subst hL hS
 exact B.up' i h f (fun x hx=>by simp at hx) (fun x hx=>⟨(hn x hx).2,.inr (hn x hx).1⟩) hi
theorem Bag.nw (B:Bag S0 w0 L w) {T':Th} {S:List Nat} (h:T'.P w') (f:Fr S w w') (hn:∀x∈T'.fp,w.heap.size≤x∧x<w'.heap.size) (hS:S=[]:=by exact rfl) (hL:L++[T']=L':=by (try simp only [List.set_cons_zero,List.set_cons_succ,List.nil_append,List.cons_append]);exact rfl):Bag S0 w0 L' w':=by
 subst hL
 refine (B.tm f hS).add T' h (fun x hx=>(hn x hx).2) (fun i x hx hm=> ?_) (fun _ x hx=>.inr (Nat.le_trans B.fr.size (hn x hx).1))
 have:=B.lt i x hm;have:=hn x hx;omega
theorem Bag.up2 (B:Bag S0 w0 L w) (i j:Nat) {T T':Th} {S:List Nat} (h:T.P w') (h':T'.P w') (f:Fr S w w') (ho:(gt L i).own=true∧(gt L j).own=true:=by exact ⟨rfl,rfl⟩) (hp:T.fp=(gt L i).fp∧T'.fp=(gt L j).fp:=by exact ⟨rfl,rfl⟩)
 (hS:S=(gt L i).fp++(gt L j).fp:=by exact rfl) (hij:i≠j:=by decide) (hi:i<L.length:=by exact Nat.lt_of_sub_ne_zero (by intro h;cases h)) (hj:j<L.length:=by exact Nat.lt_of_sub_ne_zero (by intro h;cases h)) (hL:(L.set i T).set j T'=L':=by (try simp only [List.set_cons_zero,List.set_cons_succ,List.nil_append,List.cons_append]);exact rfl):Bag S0 w0 L' w':=by
 subst hL
 have hf:∀k,gt ((L.set i T).set j T') k=if j=k then T' else if i=k then T else gt L k:=fun k=>by rw [Kv _ j k T' (by simpa using hj),Kv L i k T hi]
 have hfp:∀k,(gt ((L.set i T).set j T') k).fp=(gt L k).fp:=fun k=>by
  rw [hf];split
  · next h=>subst h;exact hp.2
  · split
    · next h=>subst h;exact hp.1
    · rfl
 refine ⟨B.fr.then f (fun x hx=> ?_),fun k=> ?_,fun k x hx=> ?_,fun k l hkl x hx=> ?_,fun k hk x hx=> ?_⟩
 · rw [hS,List.mem_append] at hx
   exact hx.elim (B.ow i ho.1 x) (B.ow j ho.2 x)
 · rw [hf];split
   · exact h'
   · split
     · exact h
     · next h1 h2=>
       refine (gt L k).keep f (fun x hx hs=> ?_) (B.all k)
       rw [hS,List.mem_append] at hs
       exact hs.elim (B.nd k i (fun e=>h2 e.symm) x hx) (B.nd k j (fun e=>h1 e.symm) x hx)
 · rw [hfp] at hx;exact Nat.lt_of_lt_of_le (B.lt k x hx) f.size
 · rw [hfp] at hx ⊢;exact B.nd k l hkl x hx
 · rw [hfp] at hx;rw [hf] at hk
   split at hk
   · next h=>subst h;exact B.ow _ ho.2 x hx
   · split at hk
     · next h=>subst h;exact B.ow _ ho.1 x hx
     · exact B.ow k hk x hx
theorem Bag.q (B:Bag S0 w0 L w) (i:Nat) {o:Bool} {b:Nat} {A:Array Value} {t:TypeId} (h:gt L i=tRo o b A t:=by exact rfl):∀j,w.cell? ⟨b,j,none⟩=A[j]?:=fun j=>by
 have k:=B.all i
 rw [h] at k
 simp only at k
 simp [World.cell?,k]
theorem Bag.qa (B:Bag S0 w0 L w) (i:Nat) {o:Bool} {b:Nat} {A:Array Value} {t:TypeId} (h:gt L i=tRo o b A t:=by exact rfl):∀x j,(w.alloc x).cell? ⟨b,j,none⟩=A[j]?:=fun x j=>by
 rw [←B.q i h j]
 exact World.cell?_alloc_lt _ _ _ (by have:=B.lt i b (by rw [h];simp);simpa using this)
theorem Bag.ua (B:Bag S0 w0 L w) (i:Nat) {o:Bool} {b:Nat} {A:Array Value} {t:TypeId} (h:gt L i=tRo o b A t:=by exact rfl):∀x j,(w.alloc x).frozen? ⟨b,j,none⟩=false:=fun x j=>by
 have k:=B.all i
 rw [h] at k
 exact Qb (Qh k x)
theorem Bag.u (B:Bag S0 w0 L w) (i:Nat) {o:Bool} {b:Nat} {A:Array Value} {t:TypeId} (h:gt L i=tRo o b A t:=by exact rfl):∀j,w.frozen? ⟨b,j,none⟩=false:=fun j=>by
 have k:=B.all i
 rw [h] at k
 exact Qb k
theorem Bag.s (B:Bag S0 w0 L w) (i:Nat) {b j:Nat} {A A':Array Value} {t:TypeId} {v:Value} (h:gt L i=tR b A t:=by exact rfl)
 (hA:A.setIfInBounds j v=A':=by simp only [List.setIfInBounds_toArray,List.set_cons_zero,List.set_cons_succ];exact rfl)
 (hi:i<L.length:=by exact Nat.lt_of_sub_ne_zero (by intro h;cases h)) (hL:L.set i (tR b A' t)=L':=by (try simp only [List.set_cons_zero,List.set_cons_succ]);exact rfl):Bag S0 w0 L' (w.setCell ⟨b,j,none⟩ v):=by
 have k:=B.all i
 rw [h] at k
 exact B.up i (T':=tR b A' t) (hA▸heap_setCell_same k v) ((Fr.refl [b] w).sc b j v) (by rw [h]) (by rw [h]) (by rw [h]) hi hL
theorem Bag.e (B:Bag S0 w0 L w) (h:w=w'):Bag S0 w0 L w':=h▸B
theorem Bag.al (B:Bag S0 w0 L w) {A:Array Value} {t:TypeId} {b:Nat} (hw:w.alloc (.cells A t)=w') (hb:w.heap.size=b) (hL:L++[tR b A t]=L':=by (try simp only [List.nil_append,List.cons_append]);exact rfl):Bag S0 w0 L' w':=by
 subst hw hb
 refine B.nw (T':=tR w.heap.size A t) (heap_alloc_new w _) ((Fr.refl [] w).alloc _) (fun x hx=> ?_) rfl hL
 simp at hx
 subst hx
 simp
theorem Bag.al2 (B:Bag S0 w0 L w) {A A2:Array Value} {t t2:TypeId} {b:Nat} {w2:World} (hw:w.alloc (.cells A t)=w') (hb:w.heap.size=b) (hw2:w'.alloc (.cells A2 t2)=w2) (hL:(L++[tR b A t])++[tR (b+1) A2 t2]=L':=by (try simp only [List.nil_append,List.cons_append]);exact rfl):Bag S0 w0 L' w2:=
 (B.al hw hb rfl).al hw2 (by rw [←hw,World.size_alloc,hb]) hL
theorem Bag.al3 (B:Bag S0 w0 L w) {A A2 A3:Array Value} {t t2 t3:TypeId} {b:Nat} {w2 w3:World} (hw:w.alloc (.cells A t)=w') (hb:w.heap.size=b) (hw2:w'.alloc (.cells A2 t2)=w2) (hw3:w2.alloc (.cells A3 t3)=w3)
 (hL:((L++[tR b A t])++[tR (b+1) A2 t2])++[tR (b+1+1) A3 t3]=L':=by (try simp only [List.nil_append,List.cons_append]);exact rfl):Bag S0 w0 L' w3:=
 (B.al2 hw hb hw2 rfl).al hw3 (by rw [←hw2,World.size_alloc,←hw,World.size_alloc,hb]) hL
theorem gt_mem {i:Nat} (h:gt L i≠Th.nil):∃hi:i<L.length,L[i]=gt L i:=by
 by_cases hi:i<L.length
 · exact ⟨hi,by simp [gt,List.getD_eq_getElem?_getD,hi]⟩
 · exact absurd (by simp [gt,List.getD_eq_getElem?_getD,List.getElem?_eq_none (Nat.le_of_not_lt hi)]) h
theorem Q6Y {i x:Nat} (h:x∈(gt L i).fp):∃hi:i<L.length,L[i]=gt L i:=gt_mem (fun e=>by rw [e] at h;simp [Th.nil] at h)
theorem Bag.of (hall:∀T∈L,T.P w) (hnd:(L.flatMap Th.fp).Nodup) (hlt:∀x∈L.flatMap Th.fp,x<w.heap.size) (how:∀T∈L,T.own=true→∀x∈T.fp,x∈S0):Bag S0 w L w:=by
 have hm:∀i,∀x∈(gt L i).fp,gt L i∈L:=fun i x hx=>by obtain ⟨hi,e⟩:=Q6Y hx;rw [←e];exact List.getElem_mem _
 have hp:=List.pairwise_iff_getElem.1 (List.pairwise_flatMap.1 hnd).2
 refine ⟨Fr.refl S0 w,fun i=> ?_,fun i x hx=> ?_,fun i j hij x hx hy=> ?_,fun i hi x hx=> ?_⟩
 · by_cases h:i<L.length
   · have e:gt L i=L[i]:=by simp [gt,List.getD_eq_getElem?_getD,h]
     rw [e];exact hall _ (List.getElem_mem _)
   · have e:gt L i=Th.nil:=by simp [gt,List.getD_eq_getElem?_getD,List.getElem?_eq_none (Nat.le_of_not_lt h)]
     rw [e];trivial
 · exact hlt x (List.mem_flatMap.2 ⟨_,hm i x hx,hx⟩)
 · obtain ⟨h1,e1⟩:=Q6Y hx
   obtain ⟨h2,e2⟩:=Q6Y hy
   rcases Nat.lt_or_gt_of_ne hij with h|h
   · exact hp i j h1 h2 h x (e1▸hx) x (e2▸hy) rfl
   · exact hp j i h2 h1 h x (e2▸hy) x (e1▸hx) rfl
 · exact .inl (how _ (hm i x hx) hi x hx)
theorem Bag.one {A:Array Value} {t:TypeId} {b:Nat} (h:w.heap[b]?=some (.cells A t (0,0))):Bag [] w [tRo false b A t] w:=
 (Bag.nil [] w).add (tRo false b A t) h (fun x hx=>by simp at hx;subst hx;exact Q9 h) (fun i x hx=>by simp [gt,Th.nil]) (fun h=>by cases h)
theorem Bag.own {A:Array Value} {t:TypeId} {b:Nat} (h:w.heap[b]?=some (.cells A t (0,0))):Bag [b] w [tR b A t] w:=
 (Bag.nil [b] w).add (tR b A t) h (fun x hx=>by simp at hx;subst hx;exact Q9 h) (fun i x hx=>by simp [gt,Th.nil]) (fun _ x hx=>by simp at hx;simp [hx])
def SB {V:Type} (S0:List Nat) (w0:World) (F:V→List Th) (w:World):Prop:=∃v,Bag S0 w0 (F v) w
theorem rg {P:Program} {ops:Array Oper} {Q:Exit→Act→World→Prop} {id:Nat} {a:Act} (B:Bag S0 w0 L w) (h:∀w',Bag S0 w0 L w'→wpAnyH P .any ops Q (SB S0 w0 fun (_:Unit)=>L) ops.size (Array.replicate ops.size false) a w')
 (hm:P.follows .mixedOrders=true:=by kernel_rfl):(Code.region id ops true).wp P Q a w:=wp_region_held_drew hm ⟨(),B.drew⟩ (fun _=>h _ B.drew)
theorem rgf {P:Program} {ops:Array Oper} {Q:Exit→Act→World→Prop} {id:Nat} {a:Act} (B:Bag S0 w0 L w) (h:∀w',Fr [] w w'→Bag S0 w0 L w'→wpAnyH P .any ops Q (SB S0 w0 fun (_:Unit)=>L) ops.size (Array.replicate ops.size false) a w')
 (hm:P.follows .mixedOrders=true:=by kernel_rfl):(Code.region id ops true).wp P Q a w:=wp_region_held_drew hm ⟨(),B.drew⟩ (fun _=>h _ (Fr.refl [] w).drew B.drew)
theorem rgc (i k:Nat) {F:Value→List Th} {P:Program} {ops:Array Oper} {Q:Exit→Act→World→Prop} {id:Nat} {a:Act} {b:Nat} {A:Array Value} {t:TypeId} (B:Bag S0 w0 L w) (h:∀w',Bag S0 w0 L w'→wpAnyH P .any ops Q (SB S0 w0 F) ops.size (Array.replicate ops.size false) a w')
 (hT:gt L i=tR b A t:=by exact rfl) (hF:∀v,L.set i (tR b (A.setIfInBounds k v) t)=F v:=by intro v;simp only [List.setIfInBounds_toArray,List.set_cons_zero,List.set_cons_succ];exact rfl)
 (hS:SB S0 w0 F w.drew:=by exact ⟨_,B.drew⟩) (hm:P.follows .mixedOrders=true:=by kernel_rfl):(Code.region id ops true).wp P Q a w:=wp_region_held_drew hm hS (fun _=>h _ B.drew)
theorem rga (i:Nat) {F:Array Value→List Th} {P:Program} {ops:Array Oper} {Q:Exit→Act→World→Prop} {id:Nat} {a:Act} {b:Nat} {A:Array Value} {t:TypeId} (B:Bag S0 w0 L w) (h:∀w',Bag S0 w0 L w'→wpAnyH P .any ops Q (SB S0 w0 F) ops.size (Array.replicate ops.size false) a w')
 (hT:gt L i=tR b A t:=by exact rfl) (hF:∀v,L.set i (tR b v t)=F v:=by intro v;simp only [List.setIfInBounds_toArray,List.set_cons_zero,List.set_cons_succ];exact rfl)
 (hS:SB S0 w0 F w.drew:=by exact ⟨_,B.drew⟩) (hm:P.follows .mixedOrders=true:=by kernel_rfl):(Code.region id ops true).wp P Q a w:=wp_region_held_drew hm hS (fun _=>h _ B.drew)
theorem rgxf (is:List Nat) {P:Program} {ops:Array Oper} {Q:Exit→Act→World→Prop} {id:Nat} {a:Act} (B:Bag S0 w0 L w) (h:∀w',Fr [] w w'→Bag S0 w0 L w'→wpAnyH P .any ops Q (SB S0 w0 fun (_:Unit)=>L') ops.size (Array.replicate ops.size false) a w')
 (hn:is.Nodup:=by decide) (hL:is.map (gt L)=L':=by simp only [List.map_cons,List.map_nil,gt,List.getD_cons_zero,List.getD_cons_succ];exact rfl) (hm:P.follows .mixedOrders=true:=by kernel_rfl):(Code.region id ops true).wp P Q a w:=wp_region_held_drew hm ⟨(),B.drew.sel is hn hL⟩ (fun _=>h _ (Fr.refl [] w).drew B.drew)
theorem set_self (A:Array Value) (k:Nat):A.setIfInBounds k (A.getD k undef)=A:=by
 apply Array.ext
 · simp
 · intro i h1 h2
   rw [Array.getElem_setIfInBounds (by simpa using h1)]
   split
   · next h=>subst h;simp [Array.getD,h2]
   · rfl
theorem rgm (i k k2:Nat) (is:List Nat) {F:Value×Value→List Th} {P:Program} {ops:Array Oper} {Q:Exit→Act→World→Prop} {id:Nat} {a:Act} {b:Nat} {A:Array Value} {t:TypeId} (B:Bag S0 w0 L w) (h:∀w',Bag S0 w0 L w'→wpAnyH P .any ops Q (SB S0 w0 F) ops.size (Array.replicate ops.size false) a w')
 (hT:gt L i=tR b A t:=by exact rfl) (hF:∀v,is.map (gt (L.set i (tR b ((A.setIfInBounds k v.1).setIfInBounds k2 v.2) t)))=F v:=by intro v;simp only [List.setIfInBounds_toArray,List.set_cons_zero,List.set_cons_succ,List.map_cons,List.map_nil,gt,List.getD_cons_zero,List.getD_cons_succ];exact rfl)
 (hn:is.Nodup:=by decide) (hm:P.follows .mixedOrders=true:=by kernel_rfl):(Code.region id ops true).wp P Q a w:=by
 refine wp_region_held_drew hm ⟨(A.getD k undef,A.getD k2 undef), ?_⟩ (fun _=>h _ B.drew)
 rw [←hF,set_self,set_self]
 have e:L.set i (tR b A t)=L:=by
  rw [←hT]
  by_cases h:i<L.length
  · simp [gt,List.getD_eq_getElem?_getD,h]
  · rw [List.set_eq_of_length_le Lb]
 rw [e]
 exact B.drew.sel is hn rfl
theorem rgx (is:List Nat) {P:Program} {ops:Array Oper} {Q:Exit→Act→World→Prop} {id:Nat} {a:Act} (B:Bag S0 w0 L w) (h:∀w',Bag S0 w0 L w'→wpAnyH P .any ops Q (SB S0 w0 fun (_:Unit)=>L') ops.size (Array.replicate ops.size false) a w')
 (hn:is.Nodup:=by decide) (hL:is.map (gt L)=L':=by simp only [List.map_cons,List.map_nil,gt,List.getD_cons_zero,List.getD_cons_succ];exact rfl) (hm:P.follows .mixedOrders=true:=by kernel_rfl):(Code.region id ops true).wp P Q a w:=wp_region_held_drew hm ⟨(),B.drew.sel is hn hL⟩ (fun _=>h _ B.drew)
end
section
variable {P:Program} {ops:Array Oper} {Q:Exit→Act→World→Prop} {md:Region.Mode} {V:Type} {S0:List Nat} {w0:World} {F:V→List Th}
theorem xr (i:Nat) {md:Region.Mode} {ops:Array Oper} {listed:Array Bool} (h:((Region.ready md ops listed).contains i&&Region.free md ops listed i)=true):((Region.ready md ops listed).contains i&&Region.free md ops listed i)=true:=h
def calm:Op→Bool
 |.call c=>(match c.callee with|.value _=>false|_=>true)
 |.store ..=>false
 |_=>true
theorem tb {i:Nat} {oi:Oper} {v:Value} {fuel:Nat} {listed l':Array Bool} {a a':Act} {w:World} (h:wpAnyH P md ops Q (SB S0 w0 F) fuel l' a' w)
 (hn:ops.size - (fuel+1)=i:=by
   simp only [List.size_toArray,List.length_cons,List.length_nil,Nat.reduceAdd,Nat.reduceSub]
   exact rfl)
 (hf:((Region.ready md ops listed).contains i&&Region.free md ops listed i)=true:=by decide+kernel)
 (hi:ops[i]?=some oi:=by
   simp only [List.getElem?_toArray,List.getElem?_cons_succ,List.getElem?_cons_zero]
   exact rfl)
 (hs:Region.noSelect ops=true:=by kernel_rfl)
 (hQ:∀c a w,Q (.panic c) (a.put oi.dst v) w→Q (.panic c) a w:=by exact fun _ _ _ h=>h)
 (hcm:calm oi.op=true:=by exact rfl)
 (hw:Region.wanted oi (yielded ops a.tmps)=true:=by rfl)
 (hy:∀w v',Bag S0 w0 (F v') w→(execOp a.eval oi).run P w=.ok (.value v) w:=by
   intro w _ B
   try simp only [List.getElem_toArray,List.getElem_cons_succ,List.getElem_cons_zero]
   try have q0:=B.q 0
   try have q1:=B.q 1
   try have q2:=B.q 2
   try have q3:=B.q 3
   try have q4:=B.q 4
   try have q5:=B.q 5
   try have q6:=B.wq 1 hk
   try have q7:=B.wq0 1 hk
   go_simp
   try with_reducible rfl)
 (hS:SB S0 w0 F w:=by first|exact ⟨(),B⟩|exact ⟨_,B⟩|exact ⟨(),B.pre⟩|exact ⟨_,B.pre⟩|exact ⟨(),B.sel [0,2,3]⟩|exact ⟨(),B.sel [0,2,3,4]⟩|exact ⟨(),B.sel [0,2]⟩|exact ⟨(_,_),B.sel [0,2,3,4]⟩|exact ⟨(_,_),B.sel [0,2,3]⟩|exact ⟨(),B.sel [0]⟩|exact ⟨(),B.sel [0,4]⟩)
 (ha:a.put oi.dst v=a':=by
   try go_frame
   exact rfl)
 (hl:listed.setIfInBounds i true=l':=by
   try simp only [List.setIfInBounds_toArray,List.set_cons_zero,List.set_cons_succ]
   exact rfl):wpAnyH P md ops Q (SB S0 w0 F) (fuel+1) listed a w:=by
 subst ha hl
 rw [Bool.and_eq_true] at hf
 exact wpAnyH_take hi hs hf.2 hf.1 hQ (.inl ⟨hw,fun w ⟨v,B⟩=>hy w v B⟩) hS h
theorem tj (i:Nat) {oi:Oper} {v:Value} {fuel:Nat} {listed l':Array Bool} {a a':Act} {w:World} (h:wpAnyH P md ops Q (SB S0 w0 F) fuel l' a' w)
 (hf:((Region.ready md ops listed).contains i&&Region.free md ops listed i)=true:=by decide+kernel)
 (hi:ops[i]?=some oi:=by
   simp only [List.getElem?_toArray,List.getElem?_cons_succ,List.getElem?_cons_zero]
   exact rfl)
 (hs:Region.noSelect ops=true:=by kernel_rfl)
 (hQ:∀c a w,Q (.panic c) (a.put oi.dst v) w→Q (.panic c) a w:=by exact fun _ _ _ h=>h)
 (hcm:calm oi.op=true:=by exact rfl)
 (hw:Region.wanted oi (yielded ops a.tmps)=true:=by rfl)
 (hy:∀w v',Bag S0 w0 (F v') w→(execOp a.eval oi).run P w=.ok (.value v) w:=by
   intro w _ B
   try simp only [List.getElem_toArray,List.getElem_cons_succ,List.getElem_cons_zero]
   try have q0:=B.q 0
   try have q1:=B.q 1
   try have q2:=B.q 2
   try have q3:=B.q 3
   try have q4:=B.q 4
   try have q5:=B.q 5
   try have q6:=B.wq 1 hk
   try have q7:=B.wq0 1 hk
   go_simp
   try with_reducible rfl)
 (hS:SB S0 w0 F w:=by first|exact ⟨(),B⟩|exact ⟨_,B⟩|exact ⟨(),B.pre⟩|exact ⟨_,B.pre⟩|exact ⟨(),B.sel [0,2,3]⟩|exact ⟨(),B.sel [0,2,3,4]⟩|exact ⟨(),B.sel [0,2]⟩|exact ⟨(_,_),B.sel [0,2,3,4]⟩|exact ⟨(_,_),B.sel [0,2,3]⟩|exact ⟨(),B.sel [0]⟩|exact ⟨(),B.sel [0,4]⟩)
 (ha:a.put oi.dst v=a':=by
   try go_frame
   exact rfl)
 (hl:listed.setIfInBounds i true=l':=by
   try simp only [List.setIfInBounds_toArray,List.set_cons_zero,List.set_cons_succ]
   exact rfl):wpAnyH P md ops Q (SB S0 w0 F) (fuel+1) listed a w:=by
 subst ha hl
 rw [Bool.and_eq_true] at hf
 exact wpAnyH_take hi hs hf.2 hf.1 hQ (.inl ⟨hw,fun w ⟨v,B⟩=>hy w v B⟩) hS h
theorem tv {i:Nat} {oi:Oper} {fuel:Nat} {listed l':Array Bool} {a a':Act} {w:World} (h:wpAnyH P md ops Q (SB S0 w0 F) fuel l' a' w)
 (hn:ops.size - (fuel+1)=i:=by
   simp only [List.size_toArray,List.length_cons,List.length_nil,Nat.reduceAdd,Nat.reduceSub]
   exact rfl)
 (hf:((Region.ready md ops listed).contains i&&Region.free md ops listed i)=true:=by decide+kernel)
 (hi:ops[i]?=some oi:=by
   simp only [List.getElem?_toArray,List.getElem?_cons_succ,List.getElem?_cons_zero]
   exact rfl)
 (hs:Region.noSelect ops=true:=by kernel_rfl)
 (hQ:∀c a w,Q (.panic c) (a.put oi.dst undef) w→Q (.panic c) a w:=by exact fun _ _ _ h=>h)
 (hw:Region.wanted oi (yielded ops a.tmps)=false:=by rfl)
 (hS:SB S0 w0 F w:=by first|exact ⟨(),B⟩|exact ⟨_,B⟩|exact ⟨(),B.pre⟩|exact ⟨_,B.pre⟩|exact ⟨(),B.sel [0,2,3]⟩|exact ⟨(),B.sel [0,2,3,4]⟩|exact ⟨(),B.sel [0,2]⟩|exact ⟨(_,_),B.sel [0,2,3,4]⟩|exact ⟨(_,_),B.sel [0,2,3]⟩|exact ⟨(),B.sel [0]⟩|exact ⟨(),B.sel [0,4]⟩)
 (ha:a.put oi.dst undef=a':=by
   try go_frame
   exact rfl)
 (hl:listed.setIfInBounds i true=l':=by
   try simp only [List.setIfInBounds_toArray,List.set_cons_zero,List.set_cons_succ]
   exact rfl):wpAnyH P md ops Q (SB S0 w0 F) (fuel+1) listed a w:=by
 subst ha hl
 rw [Bool.and_eq_true] at hf
 exact wpAnyH_take hi hs hf.2 hf.1 hQ (.inr ⟨hw,rfl⟩) hS h
theorem to {i:Nat} {o:Oper} {fuel:Nat} {listed l':Array Bool} {a:Act} {w:World}
 (h:∀K':Act→World→Prop,Shut (∀a w,SB S0 w0 F w→(SB S0 w0 F w→wpAnyH P md ops Q (SB S0 w0 F) fuel l' a w)→K' a w)→Oper.wp P o a w K' Q)
 (hn:ops.size - (fuel+1)=i:=by
   simp only [List.size_toArray,List.length_cons,List.length_nil,Nat.reduceAdd,Nat.reduceSub]
   exact rfl)
 (hr:Region.ready md ops listed=[i]:=by decide+kernel)
 (ho:ops[i]?=some o:=by
   simp only [List.getElem?_toArray,List.getElem?_cons_succ,List.getElem?_cons_zero]
   exact rfl)
 (hw:Region.wanted o (yielded ops a.tmps)=true:=by rfl)
 (hl:listed.setIfInBounds i true=l':=by
   try simp only [List.setIfInBounds_toArray,List.set_cons_zero,List.set_cons_succ]
   exact rfl):wpAnyH P md ops Q (SB S0 w0 F) (fuel+1) listed a w:=tc i h hr ho hw hl
theorem bk {fuel:Nat} {l':Array Bool} {K:Act→World→Prop} (hK:Shut (∀a w,SB S0 w0 F w→(SB S0 w0 F w→wpAnyH P md ops Q (SB S0 w0 F) fuel l' a w)→K a w)) {w:World} {a:Act} (h:wpAnyH P md ops Q (SB S0 w0 F) fuel l' a w) (hS:SB S0 w0 F w:=by first|exact ⟨(),B⟩|exact ⟨_,B⟩|exact ⟨(),B.pre⟩|exact ⟨_,B.pre⟩|exact ⟨(),B.sel [0,2,3]⟩|exact ⟨(),B.sel [0,2,3,4]⟩|exact ⟨(),B.sel [0,2]⟩|exact ⟨(_,_),B.sel [0,2,3,4]⟩|exact ⟨(_,_),B.sel [0,2,3]⟩|exact ⟨(),B.sel [0]⟩|exact ⟨(),B.sel [0,4]⟩):K a w:=
 hK.out _ _ hS fun _=>h
end
end
section
open Go.RowKit Go.Shelf Go.Lib
attribute [local go_sem] Oper.semAt_some
abbrev Xq (f:Nat) (s:Q7) (own more:Int) (t:Q7) (b:Bool):Prop:=∀w,Calls Tryz.prog f #[Xw s own more] w fun e w'=>e=.returned (.tuple #[t.val,.bool b])∧Fr [] w w'
theorem ten (s:Q7) (own more:Int) (h:s.right):Xq 125 s own more (toV s 1 own) (isV s 0)∧Xq 126 s own more (Js s own) (Jh s 1 own)∧Xq 127 s own more (toV s 0 own) (Jh s 1 own)∧Xq 128 s own more (Js s own) (Jp s)∧Xq 130 s own more (toV s 4 own) (Jp s)∧Xq 131 s own more (toV s 2 own) (isV s 4)∧Xq 132 s own more (toV s 5 own) (isV s 0)∧Xq 133 s own more (toV s 0 own) (isV s 5)∧Xq 134 s own more (toV s 2 own) (isV s 2)∧Xq 137 s own more (toV s 0 own) (isV s 6):=by
 unfold isV Xq
 refine ⟨?_, ?_, ?_, ?_, ?_, ?_, ?_, ?_, ?_, ?_⟩
 all_goals
  intro w
  unfold Xw
  go_in
  go_wp2_with fail
  generalize hw:World.alloc w _=w1,hb:(World.heap w).size=b
  generalize hw2:World.alloc w1 _=w2
  have B:=(Bag.nil [] w).al2 hw hb hw2
  clear hb hw hw2
  refine rga 1 B fun _ B=> ?_
  refine tj 0 ?_
  refine tj 2 ?_
  refine tc 1 fun K hK=> ?_
  go_simp
  first
  |refine (WY _ s own more _ (by decide) (by decide)).mono ?_
  |refine (Ul _ s own more h).mono ?_
  rintro e w3 ⟨rfl,f⟩
  replace B:=B.tm f
  dsimp only [Q7.val]
  go_wp2_with fail
  refine bk hK ?_
  clear hK K
  try go_frame
  refine tc 3 fun K hK=> ?_
  go_simp
  first
  |refine (Vh _ s own more _).mono ?_
  |refine (YU _ s own more _).mono ?_
  |refine (Q4c _ s own more).mono ?_
  rintro e w4 ⟨rfl,f⟩
  replace B:=B.tm f
  go_wp2_with fail
  refine bk hK ?_
  clear hK K
  try go_frame
  have q:=B.q 1;have u:=B.u 1
  refine tc 4 fun K hK=> ?_
  go_simp
  clear q u
  generalize hw:World.setCell _ _ _=w5
  replace B:=(((((((((B.s 1).s 1).s 1).s 1).s 1).s 1).s 1).s 1).s 1).e hw
  refine bk hK ?_
  clear hK K
  try go_frame
  refine tb ?_
  refine wpAnyH_done (by decide+kernel) ?_ _
  have q:=B.q 1
  go_wp2
  refine ⟨rfl,_, ?_,rfl,B.fr⟩
  simp [results,Tryz.f125,Tryz.f126,Tryz.f127,Tryz.f128,Tryz.f130,Tryz.f131,Tryz.f132,Tryz.f133,Tryz.f134,Tryz.f137,go_sem,q,Q7.val]
theorem Q4X (s:Q7) (own more:Int):Xq 204 s own more (Z6 s own more) (Z0 more):=by
 intro w
 have hcase:(decide (0≤more)=true∧decide (more≤4095)=true)∨(decide (0≤more)=true∧decide (more≤4095)=false)∨decide (0≤more)=false:=by cases decide (0≤more)<;>cases decide (more≤4095)<;>simp
 unfold Xw Z0
 rcases hcase with ⟨h1,h2⟩|⟨h1,h2⟩|h1
 all_goals
  go_in
  go_wp2_with fail
  generalize hw:World.alloc w _=w1,hb:(World.heap w).size=b
  generalize hw2:World.alloc w1 _=w2
  have B:=(Bag.nil [] w).al2 hw hb hw2
  clear hb hw hw2
  refine (WY _ s own more _ (by decide) (by decide)).mono ?_
  rintro e w3 ⟨rfl,f⟩
  replace B:=B.tm f
  clear f
  dsimp only [Q7.val]
  have q:=B.qa 0
  go_wp2_with fail
  clear q
  generalize hw:World.alloc w3 _=w4,hb:(World.heap w3).size=b3
  replace B:=B.al hw hb
  clear hw hb
  refine rga 1 B fun _ B=> ?_
  repeat first|refine tb ?_|refine tv ?_
  have q:=B.q 1;have u:=B.u 1
  refine tc 9 fun K hK=> ?_
  go_simp
  clear q u
  generalize hw:World.setCell _ _ _=w5
  replace B:=(((((((((B.s 1).s 1).s 1).s 1).s 1).s 1).s 1).s 1).s 1).e hw
  refine bk hK ?_
  clear hK K
  try go_frame
  refine tb ?_
  refine wpAnyH_done (by decide+kernel) ?_ _
  have q:=B.q 1
  go_wp2
  refine ⟨rfl,_, ?_,rfl,B.fr⟩
  simp [results,Tryz.f204,go_sem,q,Q7.val,Z6,h1]
  try simpa using h2
theorem Q6S {P:Prop} (h:P:=by
 intro w
 go_in
 go_wp2_with fail
 generalize hw:World.alloc w _=w1,hb:(World.heap w).size=b
 generalize hw2:World.alloc w1 _=w2
 first
  |(generalize hw3:World.alloc w2 _=w3
    have B:=(Bag.nil [] w).al3 hw hb hw2 hw3
    clear hb hw hw2 hw3)
  |(have B:=(Bag.nil [] w).al2 hw hb hw2
    clear hb hw hw2)
 try
  (refine (HL.out _).mono ?_
   rintro e w3 ⟨rfl,f⟩
   replace B:=B.tm f
   clear f
   have q:=B.qa 0
   go_wp2_with fail
   clear q
   generalize hw:World.alloc w3 _=w4,hb:(World.heap w3).size=b3
   replace B:=B.al hw hb
   clear hw hb)
 refine rga 1 B fun _ B=> ?_
 repeat first
  |refine tb ?_
  |refine tv ?_
  |refine tj 2 ?_
  |(first
    |refine to fun K hK=> ?_
    |refine tc 1 fun K hK=> ?_
    go_simp
    first
    |with_reducible refine (H2.out _).mono ?_
    |with_reducible refine (H3.out _).mono ?_
    |with_reducible refine (H4.out _).mono ?_
    |with_reducible refine (H6.out _).mono ?_
    |with_reducible refine (HM.out _).mono ?_
    |with_reducible refine (HA.out _).mono ?_
    rintro e w9 ⟨rfl,f⟩
    replace B:=B.tm f
    clear f
    go_wp2_with fail
    refine bk hK ?_
    clear hK K
    try go_frame)
 have q:=B.q 1;have u:=B.u 1
 refine to fun K hK=> ?_
 go_simp
 clear q u
 generalize hw:World.setCell _ _ _=w5
 replace B:=(((((((((B.s 1).s 1).s 1).s 1).s 1).s 1).s 1).s 1).s 1).e hw
 clear hw
 refine bk hK ?_
 clear hK K
 try go_frame
 refine tb ?_
 refine wpAnyH_done (by decide+kernel) ?_ _
 have q:=B.q 1
 go_wp2
 refine ⟨rfl,_, ?_,rfl,B.fr⟩
 simp [results,Tryz.f136,Tryz.f142,Tryz.f129,Tryz.f135,Tryz.f138,go_sem,q]
 try rfl):P:=h
theorem three (s:Q7) (own more:Int):Xq 136 s own more (Z6 s own more) (Z0 more&&(isV s 2||isV s 3))∧Xq 142 s own more (Z6 s own more) (Z0 more&&isV s 6)∧Xq 129 s own more (toV s 2 own) (Jh s 3 own&&decide (s.str=0)):=by
 have HL:=hid fun w'=>Q4X s own more w'
 have HA:=hid fun w'=>WY w' s own more 2 (by decide) (by decide)
 have HM:=hid fun w'=>YU w' s own more 3
 have H2:=hid fun w'=>Vh w' s own more 2
 have H3:=hid fun w'=>Vh w' s own more 3
 have H6:=hid fun w'=>Vh w' s own more 6
 unfold isV Xq
 generalize decide (s.st=2)=b2 at H2 ⊢
 generalize decide (s.st=3)=b3 at H3 ⊢
 generalize decide (s.st=6)=b6 at H6 ⊢
 generalize Z6 s own more=r at HL ⊢
 generalize Z0 more=ok at HL ⊢
 generalize toV s 2 own=r2 at HA ⊢
 generalize Jh s 3 own=m at HM ⊢
 obtain ⟨st,so,str,br,mkd,us,gen,ep,ver⟩:=s
 dsimp only [Xw,Q7.val] at*
 have hcr:ok=false∨(ok=true∧b2=true)∨(ok=true∧b2=false):=by cases ok<;>cases b2<;>simp
 refine ⟨?_, ?_, ?_⟩
 · rcases hcr with rfl|⟨rfl,rfl⟩|⟨rfl,rfl⟩<;>exact Q6S
 · cases ok<;>exact Q6S
 · cases m<;>exact Q6S
theorem two (s:Q7) (own more:Int):Xq 135 s own more {s with mkd:=true} (isV s 2&& !s.mkd)∧Xq 138 s own more {s with br:=true} (!s.br&&(isV s 2||isV s 3||isV s 4)):=by
 have H2:=hid fun w'=>Vh w' s own more 2
 have H3:=hid fun w'=>Vh w' s own more 3
 have H4:=hid fun w'=>Vh w' s own more 4
 unfold isV Xq
 generalize decide (s.st=2)=b2 at H2 ⊢
 generalize decide (s.st=3)=b3 at H3 ⊢
 generalize decide (s.st=4)=b4 at H4 ⊢
 obtain ⟨st,so,str,br,mkd,us,gen,ep,ver⟩:=s
 dsimp only [Xw,Q7.val] at*
 have hcb:br=true∨(br=false∧b2=true)∨(br=false∧b2=false∧b3=true)∨(br=false∧b2=false∧b3=false):=by cases br<;>cases b2<;>cases b3<;>simp
 refine ⟨?_, ?_⟩
 · cases b2<;>exact Q6S
 · rcases hcb with rfl|⟨rfl,rfl⟩|⟨rfl,rfl,rfl⟩|⟨rfl,rfl,rfl⟩<;>exact Q6S
theorem Q9f {n i:Nat} (hn:n<256) (hi:i<8):bits .and .i64 (n:Int) ((2 ^ i:Nat):Int)=if n.testBit i then ((2 ^ i:Nat):Int) else 0:=by
 have:∀n:Nat,n<256→∀i:Nat,i<8→bits .and .i64 (n:Int) ((2 ^ i:Nat):Int)=if n.testBit i then ((2 ^ i:Nat):Int) else 0:=by decide+kernel
 exact this n hn i hi
theorem or_bit {n i:Nat} (hn:n<256) (hi:i<8):bits .or .i64 (n:Int) ((2 ^ i:Nat):Int)=((n|||2 ^ i:Nat):Int):=by
 have:∀n:Nat,n<256→∀i:Nat,i<8→bits .or .i64 (n:Int) ((2 ^ i:Nat):Int)=((n|||2 ^ i:Nat):Int):=by decide+kernel
 exact this n hn i hi
theorem Q33 {n i:Nat} (hn:n<256) (hi:i<8) (h:n.testBit i=true):bits .andNot .i64 (n:Int) ((2 ^ i:Nat):Int)=(n:Int) - ((2 ^ i:Nat):Int):=by
 have:∀n:Nat,n<256→∀i:Nat,i<8→n.testBit i=true→bits .andNot .i64 (n:Int) ((2 ^ i:Nat):Int)=(n:Int) - ((2 ^ i:Nat):Int):=by decide+kernel
 exact this n hn i hi h
theorem D7 {str:Int} {n i:Nat} (hall:∀j<i,Xz str j=true) (hoff:Xz str i=false) (hi:i<n):Yx str n=some i:=by
 unfold Yx
 rw [List.find?_range_eq_some]
 exact ⟨by rw [hoff];rfl,List.mem_range.2 hi,fun j hj=>by rw [hall j hj];rfl⟩
theorem D8 {str:Int} {n i:Nat} (hall:∀j<i,Xz str j=true) (hi:n≤i):Yx str n=none:=by
 unfold Yx
 rw [List.find?_eq_none]
 intro j hj
 rw [hall j (by have:=List.mem_range.1 hj;omega)]
 simp
theorem Q0m {str:Int} {i:Nat} (h0:0≤str) (h1:str≤255) (hi:i<8):(bits .and .i64 str (wrap64 ((2:Int) ^ i))==0)= !Xz str i:=by
 rw [KH Lb]
 have e:((str.toNat:Nat):Int)=str:=Int.toNat_of_nonneg h0
 rw [←e,Q9f Lb hi]
 unfold Xz
 rw [Int.toNat_natCast]
 have hp:=Nat.two_pow_pos i
 cases str.toNat.testBit i with
 |true=>
  rw [if_pos rfl,Bool.not_true,beq_eq_false_iff_ne]
  intro h2
  have:=Int.natCast_eq_zero.1 h2
  omega
 |false=>rfl
theorem set_or {str:Int} {i:Nat} (h0:0≤str) (h1:str≤255) (hi:i<8):bits .or .i64 str (wrap64 ((2:Int) ^ i))=((str.toNat|||2 ^ i:Nat):Int):=by
 rw [KH Lb]
 have e:((str.toNat:Nat):Int)=str:=Int.toNat_of_nonneg h0
 rw [←e,or_bit Lb hi,Int.toNat_natCast]
theorem Q27 {str:Int} {i:Nat} (h0:0≤str) (h1:str≤255) (hi:i<8) (h:Xz str i=true):bits .andNot .i64 str (wrap64 ((2:Int) ^ i))=str - ((2 ^ i:Nat):Int):=by
 rw [KH Lb]
 have e:((str.toNat:Nat):Int)=str:=Int.toNat_of_nonneg h0
 rw [←e,Q33 Lb hi h]
theorem DX (P:Int):IntKind.i64.wrap P=wrap64 P:=by rw [IntKind.wrap_i64];unfold wrap64;omega
theorem Q45 {str more:Int} (h0:0≤str) (h1:str≤255) (h2:0≤more) (h3:more<8):(bits .and .i64 str (IntKind.i64.wrap ((2:Int) ^ more.toNat))==0)= !Xz str more.toNat:=by
 have e:IntKind.i64.wrap ((2:Int) ^ more.toNat)=wrap64 ((2:Int) ^ more.toNat):=DX _
 rw [e]
 exact Q0m h0 h1 Lb
theorem Q68 {str more:Int} (h0:0≤str) (h1:str≤255) (h2:0≤more) (h3:more<8) (h:Xz str more.toNat=true):bits .andNot .i64 str (IntKind.i64.wrap ((2:Int) ^ more.toNat))=str - ((2 ^ more.toNat:Nat):Int):=by
 rw [DX]
 exact Q27 h0 h1 Lb h
theorem Q5o (s:Q7) (own more:Int) (h:s.right):Xq 141 s own more (if Jh s 5 own=true then toV s 1 own else Js s own) (Jh s 5 own||Jh s 4 own):=by
 intro w
 have H5:=hid fun w'=>YU w' s own more 5
 have H4:=hid fun w'=>YU w' s own more 4
 have HT:=hid fun w'=>WY w' s own more 1 (by decide) (by decide)
 have HL:=hid fun w'=>Ul w' s own more h
 clear h
 generalize Jh s 5 own=m5 at H5 ⊢
 generalize Jh s 4 own=m4 at H4 ⊢
 generalize toV s 1 own=r1 at HT ⊢
 generalize Js s own=r2 at HL ⊢
 dsimp only [Xw,Q7.val] at*
 cases m5
 all_goals
  simp only [Bool.false_eq_true,if_false,if_true,Bool.false_or,Bool.true_or]
  go_in
  go_wp2_with fail
  generalize hw:World.alloc w _=w1,hb:(World.heap w).size=b
  generalize hw2:World.alloc w1 _=w2
  have B:=(Bag.nil [] w).al2 hw hb hw2
  clear hb hw hw2
  refine (H5.out _).mono ?_
  rintro e w3 ⟨rfl,f⟩
  replace B:=B.tm f
  clear f
  have q:=B.q 0
  go_wp2_with fail
  clear q
 · refine rga 1 B fun _ B=> ?_
   refine tj 0 ?_
   refine tj 2 ?_
   refine tc 1 fun K hK=> ?_
   go_simp
   refine (HL.out _).mono ?_
   rintro e w4 ⟨rfl,f⟩
   replace B:=B.tm f
   go_wp2_with fail
   refine bk hK ?_
   clear hK K
   try go_frame
   refine tc 3 fun K hK=> ?_
   go_simp
   refine (H4.out _).mono ?_
   rintro e w5 ⟨rfl,f⟩
   replace B:=B.tm f
   go_wp2_with fail
   refine bk hK ?_
   clear hK K
   try go_frame
   have q:=B.q 1;have u:=B.u 1
   refine to fun K hK=> ?_
   go_simp
   clear q u
   generalize hw:World.setCell _ _ _=w5
   replace B:=(((((((((B.s 1).s 1).s 1).s 1).s 1).s 1).s 1).s 1).s 1).e hw
   refine bk hK ?_
   clear hK K
   try go_frame
   refine tb ?_
   refine wpAnyH_done (by decide+kernel) ?_ _
   have q:=B.q 1
   go_wp2
   refine ⟨rfl,_, ?_,rfl,B.fr⟩
   simp [results,Tryz.f141,go_sem,q]
 · refine (HT.out _).mono ?_
   rintro e w4 ⟨rfl,f⟩
   replace B:=B.tm f
   have q:=B.q 1;have u:=B.u 1
   go_wp2_with fail
   clear q u
   generalize hw:World.setCell _ _ _=w5
   replace B:=(((((((((B.s 1).s 1).s 1).s 1).s 1).s 1).s 1).s 1).s 1).e hw
   have q:=B.q 1
   refine ⟨rfl,_, ?_,rfl,B.fr⟩
   simp [results,Tryz.f141,go_sem,q]
theorem Q6D {P:Prop} (h:P:=by
 have q:=B.q 2;have v:=B.q 1;have u:=B.u 1
 go_wp2_with fail
 clear q v u
 generalize hw:World.setCell _ _ _=w9
 replace B:=(((((((((B.s 1).s 1).s 1).s 1).s 1).s 1).s 1).s 1).s 1).e hw
 have q:=B.q 1
 refine ⟨rfl,_, ?_,rfl,B.fr⟩
 simp [results,Tryz.f139,Tryz.f140,go_sem,q]):P:=h
theorem Z0E {P:Prop} (h:P:=by
 have q:=B.q 2;have u:=B.u 2
 refine to fun K hK=> ?_
 go_simp
 clear q u
 generalize hw:World.setCell _ _ _=w5
 replace B:=(B.s 2).e hw
 refine bk hK ?_
 clear hK K
 try go_frame
 refine wpAnyH_done (by decide+kernel) ?_ _
 exact Q6D):P:=h
theorem Q5q (s:Q7) (own more:Int) (h:s.right):Xq 140 s own more ((Vz s own more).getD s) (Vz s own more).isSome:=by
 intro w
 have HM:=hid fun w'=>YU w' s own more 3
 have hs0:=h.str0;have hs1:=h.str1
 clear h
 unfold Vz
 generalize Jh s 3 own=m at HM ⊢
 obtain ⟨st,so,str,br,mkd,us,gen,ep,ver⟩:=s
 dsimp only [Xw,Q7.val] at*
 have hcase:m=false∨(m=true∧¬0≤more∧more<0)∨(m=true∧0≤more∧¬more<8)∨(m=true∧0≤more∧more<8∧Xz str more.toNat=false)∨(m=true∧0≤more∧more<8∧Xz str more.toNat=true):=by
  cases m<;>cases Xz str more.toNat<;>simp<;>omega
 generalize hSV:(if m=true∧0≤more∧more<8∧Xz str more.toNat=true then some _ else none:Option Q7)=SV
 rcases hcase with rfl|⟨rfl,h1,h2⟩|⟨rfl,h1,h2⟩|⟨rfl,h1,h2,h3⟩|⟨rfl,h1,h2,h3⟩
 all_goals
  simp [*] at hSV
  subst hSV
  first
   |have hd1:decide (more<0)=true:=decide_eq_true Lb
   |have hd1:decide (more<0)=false:=decide_eq_false Lb
   |skip
  first
   |have hd2:decide (8≤more)=true:=decide_eq_true Lb
   |have hd2:decide (8≤more)=false:=decide_eq_false Lb
   |skip
  try have HTA:=hid (Q45 hs0 hs1 h1 h2)
  try rw [h3] at HTA
  try have HAN:=hid (Q68 hs0 hs1 h1 h2 h3)
  simp only [Option.getD_none,Option.getD_some,Option.isSome_none,Option.isSome_some]
  go_in
  go_wp2_with fail
  generalize hw:World.alloc w _=w1,hb:(World.heap w).size=b
  generalize hw2:World.alloc w1 _=w2
  generalize hw3:World.alloc w2 _=w3
  have B:=(Bag.nil [] w).al3 hw hb hw2 hw3
  clear hb hw hw2 hw3
  refine rg B fun _ B=> ?_
  refine tb ?_
  refine to fun K hK=> ?_
  go_simp
  refine (HM.out _).mono ?_
  rintro e w9 ⟨rfl,f⟩
  replace B:=B.tm f
  clear f
  go_wp2_with fail
  refine bk hK ?_
  clear hK K
  try go_frame
  first
   |(iterate 19 refine tb ?_
     rw [HTA.out]
     refine tb ?_)
   |(repeat first|refine tb ?_|refine tv ?_)
  refine wpAnyH_done (by decide+kernel) ?_ _
 iterate 4
  · exact Q6D
 go_wp2_with fail
 refine rgc 2 2 B fun _ B=> ?_
 refine tj 0 ?_
 refine tj 2 ?_
 refine tj 3 ?_
 refine tj 4 ?_
 have q:=B.q 2
 refine tc 1 fun K hK=> ?_
 go_simp
 refine bk hK ?_
 clear hK K q
 try go_frame
 refine tj 5 ?_
 rw [HAN.out]
 refine tj 6 ?_
 exact Z0E
end
end Go.Proofs.YtgjklfmnmljilaaGreatDoor
