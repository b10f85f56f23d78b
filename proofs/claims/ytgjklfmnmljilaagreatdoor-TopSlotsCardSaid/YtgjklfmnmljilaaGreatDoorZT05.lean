/- A part of the proof: CellsQP to QuAP. -/
import Derived.Test.YtgjklfmnmljilaaGreatDoorZT01
import Derived.Test.YtgjklfmnmljilaaGreatDoorZT02
import Derived.Test.YtgjklfmnmljilaaGreatDoorZT03
import Derived.Test.YtgjklfmnmljilaaGreatDoorZT04
import Derived.Test.YtgjklfmnmljilaaGreatDoorRows
import Derived.BigQuiet
import Derived.Deep.OwnRows
import Derived.Deep.QuietTactic
import Derived.Deep.RegionHeld3
import Derived.Lib.Hide
import Derived.Outline
import Derived.RegionTactic
import Derived.WalkLawsBesides
import Derived.WalkSpells
namespace Go.Proofs.YtgjklfmnmljilaaGreatDoor
set_option linter.unusedVariables false
set_option linter.unusedSimpArgs false
set_option linter.unusedSectionVars false
set_option linter.unnecessarySimpa false
set_option maxRecDepth 100000
set_option maxHeartbeats 8000000
section
open Go.RowKit
structure Js (T:Nat) (w:World) (p q cap:Nat) (cur:Array Value) (L:List Int) (t:Int):Prop where
 hp:w.heap[p]?=some (.cells #[.slice (some ⟨q,0,none⟩) L.length cap,.int .i64 t] T (0,0))
 hq:w.heap[q]?=some (.cells cur 3 (0,0))
 hl:L.length≤cap
 hm:cap≤maxLen
 hs:cur.size=cap
 ht:∀(j:Nat) (v:Int),L[j]?=some v→cur[j]?=some (.int .i64 v)
 hne:p≠q
section
variable {T:Nat} {w:World} {p q cap:Nat} {cur:Array Value} {L:List Int} {t:Int}
theorem Js.c0 (h:Js T w p q cap cur L t):w.cell? ⟨p,0,none⟩=some (.slice (some ⟨q,0,none⟩) L.length cap):=cell_of h.hp rfl
theorem Js.c1 (h:Js T w p q cap cur L t):w.cell? ⟨p,1,none⟩=some (.int .i64 t):=cell_of h.hp rfl
theorem Js.f1 (h:Js T w p q cap cur L t) (i:Nat):w.frozen? ⟨p,i,none⟩=false:=Q9 h.hp
theorem Js.cq (h:Js T w p q cap cur L t) {i:Nat} {v:Int} (hi:L[i]?=some v):w.cell? ⟨q,i,none⟩=some (.int .i64 v):=cell_of h.hq (h.ht i v hi)
theorem Js.fq (h:Js T w p q cap cur L t) (i:Nat):w.frozen? ⟨q,i,none⟩=false:=Q9 h.hq
theorem Js.touch (h:Js T w p q cap cur L t) (u:Int):Js T (w.setCell ⟨p,1,none⟩ (.int .i64 u)) p q cap cur L u:=
 ⟨heap_setCell_same h.hp _,X4 h.hq (fun e=>h.hne e.symm) _,h.hl,h.hm,h.hs,h.ht,h.hne⟩
theorem Js.put (h:Js T w p q cap cur L t) (i:Nat) (u:Int):Js T (w.setCell ⟨q,i,none⟩ (.int .i64 u)) p q cap (cur.setIfInBounds i (.int .i64 u)) (L.set i u) t:=by
 refine ⟨by rw [List.length_set];exact X4 h.hp h.hne _,heap_setCell_same h.hq _,by simpa using h.hl,h.hm,by simpa using h.hs,fun j v hv=> ?_,h.hne⟩
 rw [List.getElem?_set] at hv
 rw [Array.getElem?_setIfInBounds]
 split at hv
 · rename_i e;subst e
   split at hv
   · rename_i hlt
     have:i<cur.size:=by have:=h.hl;have:=h.hs;omega
     simp_all
   · cases hv
 · rename_i e
   rw [if_neg e];exact h.ht j v hv
theorem Js.alloc (h:Js T w p q cap cur L t) (o:Obj):Js T (w.alloc o) p q cap cur L t:=
 ⟨Qd h.hp _,Qd h.hq _,h.hl,h.hm,h.hs,h.ht,h.hne⟩
theorem Js.drew (h:Js T w p q cap cur L t):Js T w.drew p q cap cur L t:=⟨h.hp,h.hq,h.hl,h.hm,h.hs,h.ht,h.hne⟩
theorem Js.drewN (h:Js T w p q cap cur L t) (n:Nat):Js T (w.drewN n) p q cap cur L t:=⟨h.hp,h.hq,h.hl,h.hm,h.hs,h.ht,h.hne⟩
theorem Js.fr {S:List Nat} {w':World} (h:Js T w p q cap cur L t) (f:Fr S w w') (hp:p∉S) (hq:q∉S):Js T w' p q cap cur L t:=
 ⟨f.at h.hp hp,f.at h.hq hq,h.hl,h.hm,h.hs,h.ht,h.hne⟩
theorem Js.plt (h:Js T w p q cap cur L t):p<w.heap.size:=Q6 h.hp
theorem Js.qlt (h:Js T w p q cap cur L t):q<w.heap.size:=Q6 h.hq
end
def QD (T:Nat) (w:World) (p q:Nat) (L:List Int) (t:Int):Prop:=∃cap cur,Js T w p q cap cur L t
theorem QD.fr {T:Nat} {S:List Nat} {w w':World} {p q:Nat} {L:List Int} {t:Int} (h:QD T w p q L t) (f:Fr S w w') (hp:p∉S) (hq:q∉S):QD T w' p q L t:=by
 obtain ⟨cap,cur,h⟩:=h;exact ⟨cap,cur,h.fr f hp hq⟩
theorem QD.drewN {T:Nat} {w:World} {p q:Nat} {L:List Int} {t:Int} (h:QD T w p q L t) (n:Nat):QD T (w.drewN n) p q L t:=by obtain ⟨cap,cur,h⟩:=h;exact ⟨cap,cur,h.drewN n⟩
theorem QD.drew {T:Nat} {w:World} {p q:Nat} {L:List Int} {t:Int} (h:QD T w p q L t):QD T w.drew p q L t:=by obtain ⟨cap,cur,h⟩:=h;exact ⟨cap,cur,h.drew⟩
theorem QD.ne {T:Nat} {w:World} {p q:Nat} {L:List Int} {t:Int} (h:QD T w p q L t):p≠q:=by obtain ⟨_,_,h⟩:=h;exact h.hne
theorem QD.plt {T:Nat} {w:World} {p q:Nat} {L:List Int} {t:Int} (h:QD T w p q L t):p<w.heap.size:=by obtain ⟨_,_,h⟩:=h;exact h.plt
theorem QD.qlt {T:Nat} {w:World} {p q:Nat} {L:List Int} {t:Int} (h:QD T w p q L t):q<w.heap.size:=by obtain ⟨_,_,h⟩:=h;exact h.qlt
def Left (T p q:Nat) (L:List Int) (t:Int) (w w':World):Prop:=QD T w' p q L t∧Fr [p,q] w w'
theorem XG {L:List Int} {i:Int} (h0:0≤i) (h1:i<L.length):L[i.toNat]?=some (L.getD i.toNat 0):=by
 have:i.toNat<L.length:=by omega
 simp [this]
theorem Q99 (w:World) (p q:Nat) (L:List Int) (t i:Int) (hM:QD 112 w p q L t) (ht0:0≤t) (ht1:t<4611686018427387904) (hi0:0≤i) (hi1:i<L.length):
 Calls Tryz.prog 44 #[.pointer (some ⟨p,0,none⟩),.int .i64 i] w fun e w'=>e=.returned (.int .i64 (L.getD i.toNat 0))∧Left 112 p q L (t+1) w w':=by
 obtain ⟨cap,cur,h⟩:=hM
 have hL:L.length≤9223372036854775807:=by have:=h.hl;have:=h.hm;unfold maxLen at this;omega
 have c0:=h.c0;have c1:=h.c1;have f1:=h.f1 1;have hp:=h.plt;have hq:=h.qlt
 have cq:=h.cq (XG hi0 hi1)
 have hne:=h.hne
 have H:Js 112 (w.setCell ⟨p,1,none⟩ (.int .i64 (t+1))) p q cap cur L (t+1):=h.touch _
 generalize L.getD i.toNat 0=v at cq ⊢
 go_in
 go_wp2
 go_ret
 exact ⟨rfl,⟨cap,cur,H⟩,(Fr.refl _ _).setCell (.inl (by simp)) _⟩
theorem VI (w:World) (p q:Nat) (L:List Int) (t i:Int) (hM:QD 112 w p q L t) (hi:i<0):
 Calls Tryz.prog 44 #[.pointer (some ⟨p,0,none⟩),.int .i64 i] w fun e w'=>e=.returned (.int .i64 0)∧Left 112 p q L t w w':=by
 obtain ⟨cap,cur,h⟩:=hM
 have hL:L.length≤9223372036854775807:=by have:=h.hl;have:=h.hm;unfold maxLen at this;omega
 have c0:=h.c0;have c1:=h.c1;have f1:=h.f1 1;have hp:=h.plt;have hq:=h.qlt
 go_in
 go_wp2
 go_ret
 exact ⟨rfl,⟨cap,cur,h⟩,Fr.refl _ _⟩
theorem Q5g (w:World) (p q:Nat) (L:List Int) (t i:Int) (hM:QD 112 w p q L t) (hi0:0≤i) (hi:(L.length:Int)≤i):
 Calls Tryz.prog 44 #[.pointer (some ⟨p,0,none⟩),.int .i64 i] w fun e w'=>e=.returned (.int .i64 0)∧Left 112 p q L t w w':=by
 obtain ⟨cap,cur,h⟩:=hM
 have hL:L.length≤9223372036854775807:=by have:=h.hl;have:=h.hm;unfold maxLen at this;omega
 have c0:=h.c0;have c1:=h.c1;have f1:=h.f1 1;have hp:=h.plt;have hq:=h.qlt
 go_in
 go_wp2
 go_ret
 exact ⟨rfl,⟨cap,cur,h⟩,Fr.refl _ _⟩
theorem Q6o (w:World) (p q:Nat) (L:List Int) (t i v:Int) (hM:QD 112 w p q L t) (ht0:0≤t) (ht1:t<4611686018427387904) (hi0:0≤i) (hi1:i<L.length):
 Calls Tryz.prog 45 #[.pointer (some ⟨p,0,none⟩),.int .i64 i,.int .i64 v] w fun e w'=>e=.returned (.bool true)∧Left 112 p q (L.set i.toNat v) (t+1) w w':=by
 obtain ⟨cap,cur,h⟩:=hM
 have hL:L.length≤9223372036854775807:=by have:=h.hl;have:=h.hm;unfold maxLen at this;omega
 have c0:=h.c0;have c1:=h.c1;have f1:=h.f1 1;have hp:=h.plt;have hq:=h.qlt
 have cq:=h.cq (XG hi0 hi1)
 have fq:=h.fq i.toNat
 have hne:=h.hne
 have H:=((h.touch (t+1)).put i.toNat v).alloc (.cells #[.int .i64 v] 3)
 generalize L.getD i.toNat 0=u at cq
 go_in
 go_wp2
 go_ret
 exact ⟨rfl,⟨cap,_,H⟩,(((Fr.refl _ _).setCell (.inl (by simp)) _).setCell (.inl (by simp)) _).alloc _⟩
theorem Q4s (w:World) (p q:Nat) (L:List Int) (t i v:Int) (hM:QD 112 w p q L t) (hi:i<0):
 Calls Tryz.prog 45 #[.pointer (some ⟨p,0,none⟩),.int .i64 i,.int .i64 v] w fun e w'=>e=.returned (.bool false)∧Left 112 p q L t w w':=by
 obtain ⟨cap,cur,h⟩:=hM
 have hL:L.length≤9223372036854775807:=by have:=h.hl;have:=h.hm;unfold maxLen at this;omega
 have c0:=h.c0;have c1:=h.c1;have f1:=h.f1 1;have hp:=h.plt;have hq:=h.qlt
 go_in
 go_wp2
 go_ret
 exact ⟨rfl,⟨cap,cur,(h.alloc _)⟩,(Fr.refl _ _).alloc _⟩
theorem Q2e (w:World) (p q:Nat) (L:List Int) (t i v:Int) (hM:QD 112 w p q L t) (hi0:0≤i) (hi:(L.length:Int)≤i):
 Calls Tryz.prog 45 #[.pointer (some ⟨p,0,none⟩),.int .i64 i,.int .i64 v] w fun e w'=>e=.returned (.bool false)∧Left 112 p q L t w w':=by
 obtain ⟨cap,cur,h⟩:=hM
 have hL:L.length≤9223372036854775807:=by have:=h.hl;have:=h.hm;unfold maxLen at this;omega
 have c0:=h.c0;have c1:=h.c1;have f1:=h.f1 1;have hp:=h.plt;have hq:=h.qlt
 go_in
 go_wp2
 go_ret
 exact ⟨rfl,⟨cap,cur,(h.alloc _)⟩,(Fr.refl _ _).alloc _⟩
theorem cas_no (w:World) (p q:Nat) (L:List Int) (t i o n:Int) (hM:QD 112 w p q L t) (ht0:0≤t) (ht1:t<4611686018427387904) (hi0:0≤i) (hi1:i<L.length) (hv:(L.getD i.toNat 0 != o)=true):
 Calls Tryz.prog 159 #[.pointer (some ⟨p,0,none⟩),.int .i64 i,.int .i64 o,.int .i64 n] w fun e w'=>e=.returned (.bool false)∧Left 112 p q (L) (t+1) w w':=by
 obtain ⟨cap,cur,h⟩:=hM
 have hL:L.length≤9223372036854775807:=by have:=h.hl;have:=h.hm;unfold maxLen at this;omega
 have c0:=h.c0;have c1:=h.c1;have f1:=h.f1 1;have hp:=h.plt;have hq:=h.qlt
 have cq:=h.cq (XG hi0 hi1)
 have fq:=h.fq i.toNat
 have hne:=h.hne
 have H:=(((h.touch (t+1)).alloc (.cells #[.int .i64 o] 3)).alloc (.cells #[.int .i64 n] 3)).drew
 generalize L.getD i.toNat 0=u at cq hv
 go_in
 go_wp2
 go_region
 all_goals go_wp2
 all_goals (go_ret;exact ⟨rfl,⟨cap,_,H⟩,((((Fr.refl _ _).setCell (.inl (by simp)) _).alloc _).alloc _).drew⟩)
theorem Q9x (w:World) (p q:Nat) (L:List Int) (t i o n:Int) (hM:QD 112 w p q L t) (ht0:0≤t) (ht1:t<4611686018427387904) (hi0:0≤i) (hi1:i<L.length) (hv:(L.getD i.toNat 0 != o)=false):
 Calls Tryz.prog 159 #[.pointer (some ⟨p,0,none⟩),.int .i64 i,.int .i64 o,.int .i64 n] w fun e w'=>e=.returned (.bool true)∧Left 112 p q (L.set i.toNat n) (t+1) w w':=by
 obtain ⟨cap,cur,h⟩:=hM
 have hL:L.length≤9223372036854775807:=by have:=h.hl;have:=h.hm;unfold maxLen at this;omega
 have c0:=h.c0;have c1:=h.c1;have f1:=h.f1 1;have hp:=h.plt;have hq:=h.qlt
 have cq:=h.cq (XG hi0 hi1)
 have fq:=h.fq i.toNat
 have hne:=h.hne
 have H:=((((h.touch (t+1)).put i.toNat n).alloc (.cells #[.int .i64 o] 3)).alloc (.cells #[.int .i64 n] 3)).drew
 generalize L.getD i.toNat 0=u at cq hv
 go_in
 go_wp2
 go_region
 all_goals go_wp2
 all_goals (go_ret;exact ⟨rfl,⟨cap,_,H⟩,(((((Fr.refl _ _).setCell (.inl (by simp)) _).setCell (.inl (by simp)) _).alloc _).alloc _).drew⟩)
theorem Q9y (w:World) (p q:Nat) (L:List Int) (t i o n:Int) (hM:QD 112 w p q L t) (hi:i<0):
 Calls Tryz.prog 159 #[.pointer (some ⟨p,0,none⟩),.int .i64 i,.int .i64 o,.int .i64 n] w fun e w'=>e=.returned (.bool false)∧Left 112 p q (L) (t) w w':=by
 obtain ⟨cap,cur,h⟩:=hM
 have hL:L.length≤9223372036854775807:=by have:=h.hl;have:=h.hm;unfold maxLen at this;omega
 have c0:=h.c0;have c1:=h.c1;have f1:=h.f1 1;have hp:=h.plt;have hq:=h.qlt
 go_in
 go_wp2
 go_ret
 exact ⟨rfl,⟨cap,_,(h.alloc _).alloc _⟩,((Fr.refl _ _).alloc _).alloc _⟩
theorem Q7M (w:World) (p q:Nat) (L:List Int) (t i o n:Int) (hM:QD 112 w p q L t) (hi0:0≤i) (hi:(L.length:Int)≤i):
 Calls Tryz.prog 159 #[.pointer (some ⟨p,0,none⟩),.int .i64 i,.int .i64 o,.int .i64 n] w fun e w'=>e=.returned (.bool false)∧Left 112 p q (L) (t) w w':=by
 obtain ⟨cap,cur,h⟩:=hM
 have hL:L.length≤9223372036854775807:=by have:=h.hl;have:=h.hm;unfold maxLen at this;omega
 have c0:=h.c0;have c1:=h.c1;have f1:=h.f1 1;have hp:=h.plt;have hq:=h.qlt
 go_in
 go_wp2
 go_ret
 exact ⟨rfl,⟨cap,_,(h.alloc _).alloc _⟩,((Fr.refl _ _).alloc _).alloc _⟩
end
section
open Go.RowKit
theorem VK:(Tryz.prog.info? 3).map (fun i=>(i.zero,i.size,i.bytes))=some (some (.int .i64 0),1,8):=by kernel_rfl
theorem Dh (z:Value) (n:Nat):madeCells #[z] n=Array.replicate n z:=by
 apply Array.toList_inj.1
 rw [toList_madeCells_one]
 simp
theorem Q5d (T:Nat) (w:World) (n:Nat) (hn:n≤4096):
 QD T ((w.alloc (.cells (madeCells #[.int .i64 0] n) 3)).alloc (.cells #[.slice (some ⟨w.heap.size,0,none⟩) n n,.int .i64 0] T)) (w.heap.size+1) w.heap.size (List.replicate n 0) 0:=by
 refine ⟨n,madeCells #[.int .i64 0] n, ?_, ?_,by simp,by unfold maxLen;omega,size_madeCells _ _,fun j v hv=> ?_,by omega⟩
 · have h:=heap_alloc_new (w.alloc (.cells (madeCells #[.int .i64 0] n) 3)) (.cells #[.slice (some ⟨w.heap.size,0,none⟩) n n,.int .i64 0] T)
   rw [World.size_alloc] at h
   simpa using h
 · exact Qd (heap_alloc_new w _) _
 · rw [Dh]
   rw [List.getElem?_replicate] at hv
   rw [Array.getElem?_replicate]
   split at hv
   · rename_i hlt;rw [if_pos hlt];simp at hv;rw [←hv]
   · cases hv
theorem new_ok (n:Nat) (w:World) (h1:1≤n) (h2:n≤4096):
 Calls Tryz.prog 48 #[.int .i64 n] w fun e w'=>e=.returned (.tuple #[.pointer (some ⟨w.heap.size+1,0,none⟩),.int .i64 0])∧Left 112 (w.heap.size+1) w.heap.size (List.replicate n 0) 0 w w':=by
 have hmk:=run_make_row' (P:=Tryz.prog) 44 3 (.int .i64 0) 8 Tryz.underlying44 VK rfl .i64 .i64 n (by omega) (by omega)
 have H:=Q5d 112 w n h2
 have d1:decide ((n:Int)<1)=false:=by simp;omega
 have d2:decide (4096<(n:Int))=false:=by simp;omega
 go_in
 go_wp2
 go_ret2
 exact ⟨rfl,H,((Fr.refl _ _).alloc _).alloc _⟩
theorem Q93 (n:Int) (w:World) (h1:1≤n) (h2:n≤4096):
 Calls Tryz.prog 48 #[.int .i64 n] w fun e w'=>∃p q,e=.returned (.tuple #[.pointer (some ⟨p,0,none⟩),.int .i64 0])∧w.heap.size≤p∧w.heap.size≤q∧QD 112 w' p q (List.replicate n.toNat 0) 0∧Fr [] w w':=by
 obtain ⟨k,rfl⟩:=Int.eq_ofNat_of_zero_le (show 0≤n by omega)
 refine (new_ok k w (by omega) (by omega)).mono fun e w' ⟨he,hm,hf⟩=>⟨_,_,he,by omega,by omega,hm, ?_⟩
 exact hf.drop (fun j hj=>by simp at hj;right;omega)
theorem Js.news {T:Nat} {w:World} {p q cap:Nat} {cur:Array Value} {L:List Int} {t:Int} (h:Js T w p q cap cur L t):
 ∀j u,(L.map (Value.int .i64))[j]?=some u→w.cell? ((⟨q,0,none⟩:Addr).add j)=some u:=by
 intro j u hu
 rw [List.getElem?_map] at hu
 cases hL:L[j]? with
 |none=>rw [hL] at hu;cases hu
 |some v=>
  rw [hL] at hu
  simp only [Option.map_some,Option.some.injEq] at hu
  subst hu
  have hadd:(⟨q,0,none⟩:Addr).add j=⟨q,j,none⟩:=by unfold Addr.add;split<;>simp_all
  rw [hadd];exact h.cq hL
theorem Q7l (L:List Int):∀u∈L.map (Value.int .i64),u.oneCell'=true:=by
 intro u hu
 obtain ⟨v,_,rfl⟩:=List.mem_map.1 hu
 rfl
theorem Q3h (q n cap:Nat) (L:List Int) (w:World) (hL:L.length=n) (hn:n*8≤140737488355328) (hq:q<w.heap.size)
 (hnews:∀j u,(L.map (Value.int .i64))[j]?=some u→w.cell? ((⟨q,0,none⟩:Addr).add j)=some u):
 Calls Tryz.prog 46 #[.slice (some ⟨q,0,none⟩) n cap] w fun e w'=>∃g c,e=.returned (.slice (some ⟨g,0,none⟩) n c)∧w'.ownsRow w.heap.size 3 1 (.slice (some ⟨g,0,none⟩) n c) n (L.map (Value.int .i64))∧Fr [] w w':=by
 obtain ⟨i0,hi,hz0,hz1,hz2⟩:=info_parts VK
 have hnil:=fun (wx:World)=>Lib.run_eql_slice_nil (P:=Tryz.prog) wx 44 3 (some ⟨q,0,none⟩) n cap 0 0 Tryz.underlying44
 have hown:=World.ownsRow_lit (w:=w) (base:=w.heap.size) (e:=3) (size:=1) #[] 0 (Nat.le_refl _) (by unfold maxLen;omega) rfl
 have hnews':∀j u,(L.map (Value.int .i64))[j]?=some u→(w.alloc (.cells #[] 3)).cell? ((⟨q,0,none⟩:Addr).add j)=some u:=by
  intro j u hu
  have:=hnews j u hu
  have hb:((⟨q,0,none⟩:Addr).add j).block=q:=by unfold Addr.add;split<;>rfl
  rw [←this]
  exact World.cell?_of_block (w:=w) (Below.heap_alloc _ _ _ (by rw [hb];exact hq))
 have Hn:=Lib.hid hnews;clear hnews
 have Hn':=Lib.hid hnews';clear hnews'
 have HL:=Lib.hid hL;clear hL
 go_in
 go_wp2_with (first|(at_builtin;refine wpList_append_own _ rfl _ _ 44 rfl w.heap.size 3 i0 (.int .i64 0) 1 8 Tryz.underlying44 hi hz0 hz1 hz2 rfl (by decide) _ _ _ rfl hown ⟨q,0,none⟩ n cap (L.map (Value.int .i64)) rfl ?c0 Hn'.out (Q7l L) ?c3 ?c4 ?c5 ?c6))
 case c0=>simp [HL.out]
 case c3=>unfold maxLen;omega
 case c6=>
  intro v' w1 hown1 hgrow hnl
  have hfr:Fr [] w w1:=((Fr.refl [] w).alloc (.cells #[] 3)).grown hgrow (fun k hk=>by simp [Value.ownBlock] at hk;right;omega)
  obtain ⟨g,c,rfl⟩:∃g c,v'=.slice (some ⟨g,0,none⟩) n c:=by
   rcases hown1.2 with ⟨h1,_⟩|⟨g,c,_,h1,_⟩
   · exact absurd h1 hnl
   · exact ⟨g,c,h1⟩
  clear hnl
  go_wp2
  go_ret
  exact ⟨g,c,rfl,hown1,hfr⟩
theorem Dr (w:World) (p q:Nat) (L:List Int) (t:Int) (hM:QD 112 w p q L t) (hb:L.length≤10000):
 Calls Tryz.prog 30 #[.pointer (some ⟨p,0,none⟩)] w fun e w'=>∃g c,e=.returned (.slice (some ⟨g,0,none⟩) L.length c)∧w'.ownsRow w.heap.size 3 1 (.slice (some ⟨g,0,none⟩) L.length c) L.length (L.map (Value.int .i64))∧Fr [] w w':=by
 obtain ⟨cap,cur,h⟩:=hM
 have c0:=h.c0
 have K:=Q3h q L.length cap L w rfl (by omega) h.qlt h.news
 have HK:=Lib.hid K;clear K
 go_in
 go_wp2_with fail
 refine HK.out.mono ?_
 rintro e w1 ⟨g,c,rfl,hown,hfr⟩
 go_wp2
 go_ret
 exact ⟨g,c,rfl,hown,hfr⟩
def isIn (L:List Int) (i:Int):Bool:=decide (0≤i∧i<L.length)
def Q7 (L:List Int) (i:Int):Int:=if isIn L i then L.getD i.toNat 0 else 0
def tch (L:List Int) (i:Int):Int:=if isIn L i then 1 else 0
def Qz (L:List Int) (i v:Int):List Int:=if isIn L i then L.set i.toNat v else L
def Qv (L:List Int) (i o:Int):Bool:=isIn L i&&decide (L.getD i.toNat 0=o)
def QL (L:List Int) (i o n:Int):List Int:=if Qv L i o then L.set i.toNat n else L
def Gw (L:List Int) (i d:Int):List Int:=if isIn L i then L.set i.toNat (wrap64 (L.getD i.toNat 0+d)) else L
theorem Jh {L:List Int} {i:Int} (h0:0≤i) (h1:i<L.length):isIn L i=true:=by simp [isIn];omega
theorem YT {L:List Int} {i:Int} (h:i<0):isIn L i=false:=by simp [isIn];omega
theorem VX {L:List Int} {i:Int} (h:(L.length:Int)≤i):isIn L i=false:=by simp [isIn];omega
theorem KF (L:List Int) (i:Int):(i<0)∨(0≤i∧(L.length:Int)≤i)∨(0≤i∧i<L.length):=by omega
theorem Q3w (L:List Int) (i:Int):0≤tch L i∧tch L i≤1:=by unfold tch;split<;>omega
theorem Di (L:List Int) (i v:Int):(Qz L i v).length=L.length:=by unfold Qz;split<;>simp
theorem XF (w:World) (p q:Nat) (L:List Int) (t i:Int) (hM:QD 112 w p q L t) (ht0:0≤t) (ht1:t<4611686018427387904):
 Calls Tryz.prog 44 #[.pointer (some ⟨p,0,none⟩),.int .i64 i] w fun e w'=>e=.returned (.int .i64 (Q7 L i))∧Left 112 p q (L) (t+tch L i) w w':=by
 rcases KF L i with h|⟨h0,h⟩|⟨h0,h1⟩
 · simpa [Q7,tch,YT h] using VI w p q L t i hM h
 · simpa [Q7,tch,VX h] using Q5g w p q L t i hM h0 h
 · simpa [Q7,tch,Jh h0 h1] using Q99 w p q L t i hM ht0 ht1 h0 h1
theorem Dw (w:World) (p q:Nat) (L:List Int) (t i v:Int) (hM:QD 112 w p q L t) (ht0:0≤t) (ht1:t<4611686018427387904):
 Calls Tryz.prog 45 #[.pointer (some ⟨p,0,none⟩),.int .i64 i,.int .i64 v] w fun e w'=>e=.returned (.bool (isIn L i))∧Left 112 p q (Qz L i v) (t+tch L i) w w':=by
 rcases KF L i with h|⟨h0,h⟩|⟨h0,h1⟩
 · simpa [Qz,tch,YT h] using Q4s w p q L t i v hM h
 · simpa [Qz,tch,VX h] using Q2e w p q L t i v hM h0 h
 · simpa [Qz,tch,Jh h0 h1] using Q6o w p q L t i v hM ht0 ht1 h0 h1
theorem Vj (w:World) (p q:Nat) (L:List Int) (t i o n:Int) (hM:QD 112 w p q L t) (ht0:0≤t) (ht1:t<4611686018427387904):
 Calls Tryz.prog 159 #[.pointer (some ⟨p,0,none⟩),.int .i64 i,.int .i64 o,.int .i64 n] w fun e w'=>e=.returned (.bool (Qv L i o))∧Left 112 p q (QL L i o n) (t+tch L i) w w':=by
 rcases KF L i with h|⟨h0,h⟩|⟨h0,h1⟩
 · simpa [QL,Qv,tch,YT h] using Q9y w p q L t i o n hM h
 · simpa [QL,Qv,tch,VX h] using Q7M w p q L t i o n hM h0 h
 · by_cases hv:L.getD i.toNat 0=o
   · have hc:Qv L i o=true:=by unfold Qv;rw [Jh h0 h1,hv];simp
     simpa [QL,hc,tch,Jh h0 h1] using Q9x w p q L t i o n hM ht0 ht1 h0 h1 (by rw [hv];simp)
   · have hc:Qv L i o=false:=by unfold Qv;rw [Jh h0 h1];simpa using hv
     simpa [QL,hc,tch,Jh h0 h1] using cas_no w p q L t i o n hM ht0 ht1 h0 h1 (by simpa using hv)
structure Q0 where
 wo:Int
 sl:Int
 st:Int
 wa:Int
 us:Int
def Q0.val (c:Q0):Value:=.agg #[.int .i64 c.wo,.int .i64 c.sl,.int .i64 c.st,.int .i64 c.wa,.int .i64 c.us]
def Q0.small (c:Q0):Prop:=(1≤c.wo∧c.wo≤4)∧(1≤c.sl∧c.sl≤5)∧(0≤c.st∧c.st≤3)∧(0≤c.wa∧c.wa≤3)∧(1≤c.us∧c.us≤4)
def Q0.cells (c:Q0):Int:=3+2*c.wo+c.sl
def Q0.slot (c:Q0) (i:Int):Int:=3+2*c.wo+i
theorem ZN (w:World) (a n b:Int) (h1:a≤n) (h2:n≤b):Calls Tryz.prog 47 #[.int .i64 a,.int .i64 n,.int .i64 b] w fun e w'=>e=.returned (.bool true)∧w'=w:=by
 go_in
 go_wp2
 go_ret
 exact ⟨rfl,rfl⟩
theorem Dy (w:World) (c:Q0) (i:Int) (hc:c.small) (h0:0≤i) (h1:i<c.sl):Calls Tryz.prog 22 #[c.val,.int .i64 i] w fun e w'=>e=.returned (.int .i64 (c.slot i))∧Fr [] w w':=by
 obtain ⟨wo,sl,st,wa,us⟩:=c
 obtain ⟨⟨a0,a1⟩,⟨b0,b1⟩, -⟩:=hc
 unfold Q0.val Q0.slot
 simp only at a0 a1 b0 b1 h1
 have hfr:=(Fr.refl [] w).alloc (.cells #[.int .i64 wo,.int .i64 sl,.int .i64 st,.int .i64 wa,.int .i64 us] 30)
 have HF:=Lib.hid hfr;clear hfr
 have HW:=Lib.hid (show 3+wo+wo+i=3+2*wo+i by omega)
 go_in
 go_wp2
 go_ret
 exact ⟨by rw [←HW.out];rfl,HF.out⟩
theorem Q2o (w:World) (c:Q0) (hc:c.small):Calls Tryz.prog 20 #[c.val] w fun e w'=>e=.returned (.int .i64 c.cells)∧Fr [] w w':=by
 obtain ⟨cc,hcc⟩:∃cc,cc=c:=⟨c,rfl⟩
 have HSM:=Lib.hid hc
 obtain ⟨wo,sl,st,wa,us⟩:=c
 obtain ⟨⟨a0,a1⟩,⟨b0,b1⟩, -⟩:=hc
 simp only at a0 a1 b0 b1
 have hfr:=(Fr.refl [] w).alloc (.cells #[.int .i64 wo,.int .i64 sl,.int .i64 st,.int .i64 wa,.int .i64 us] 30)
 have HF:=Lib.hid hfr
 have hs:=fun W:World=>Dy W ⟨wo,sl,st,wa,us⟩ (sl - 1) HSM.out (by omega) (by show sl - 1<sl;omega)
 have HS:=Lib.hid hs;clear hfr hs hcc
 unfold Q0.val Q0.cells
 have hw:3+2*wo+(sl - 1)+1=3+2*wo+sl:=by omega
 have HW:=Lib.hid hw;clear hw
 go_in
 go_wp2_with fail
 refine (HS.out _).mono ?_
 unfold Q0.slot
 rintro e w1 ⟨rfl,f1⟩
 go_wp2
 go_ret
 exact ⟨by rw [←HW.out];rfl,HF.out.trans f1⟩
theorem Q4I (w:World) (a b c d e:Int) (ha:0≤a∧a≤255) (hb:0≤b∧b≤255) (hc:0≤c∧c≤255) (hd:0≤d∧d≤255) (he:0≤e∧e≤255):
 Calls Tryz.prog 16 #[.agg #[.int .u8 a,.int .u8 b,.int .u8 c,.int .u8 d,.int .u8 e]] w fun en w'=>∃cv:Q0,en=.returned cv.val∧cv.small∧Fr [] w w':=by
 obtain ⟨a0,a1⟩:=ha
 obtain ⟨b0,b1⟩:=hb
 obtain ⟨c0,c1⟩:=hc
 obtain ⟨d0,d1⟩:=hd
 obtain ⟨e0,e1⟩:=he
 go_in
 go_wp2
 have hbk:=heap_alloc_new (w.alloc (.cells #[.int .u8 a,.int .u8 b,.int .u8 c,.int .u8 d,.int .u8 e] 23)) (.cells #[.int .i64 (1+a % 4),.int .i64 (1+b % 5),.int .i64 (c % 4),.int .i64 (d % 4),.int .i64 (1+e % 4)] 30)
 have hfr:=((Fr.refl [] w).alloc (.cells #[.int .u8 a,.int .u8 b,.int .u8 c,.int .u8 d,.int .u8 e] 23)).alloc (.cells #[.int .i64 (1+a % 4),.int .i64 (1+b % 5),.int .i64 (c % 4),.int .i64 (d % 4),.int .i64 (1+e % 4)] 30)
 rw [World.size_alloc] at hbk
 generalize (w.alloc (.cells #[.int .u8 a,.int .u8 b,.int .u8 c,.int .u8 d,.int .u8 e] 23)).alloc (.cells #[.int .i64 (1+a % 4),.int .i64 (1+b % 5),.int .i64 (c % 4),.int .i64 (d % 4),.int .i64 (1+e % 4)] 30)=W at hbk hfr ⊢
 have m0:W.cell? ⟨w.heap.size+1,0,none⟩=some (.int .i64 (1+a % 4)):=cell_of hbk rfl
 have m1:W.cell? ⟨w.heap.size+1,1,none⟩=some (.int .i64 (1+b % 5)):=cell_of hbk rfl
 have m2:W.cell? ⟨w.heap.size+1,2,none⟩=some (.int .i64 (c % 4)):=cell_of hbk rfl
 have m3:W.cell? ⟨w.heap.size+1,3,none⟩=some (.int .i64 (d % 4)):=cell_of hbk rfl
 have m4:W.cell? ⟨w.heap.size+1,4,none⟩=some (.int .i64 (1+e % 4)):=cell_of hbk rfl
 refine bodyPost_ret (v:=Q0.val ⟨1+a % 4,1+b % 5,c % 4,d % 4,1+e % 4⟩) ?_ rfl ⟨⟨1+a % 4,1+b % 5,c % 4,d % 4,1+e % 4⟩,rfl,⟨⟨by show 1≤1+a % 4;omega,by show 1+a % 4≤4;omega⟩,⟨by show 1≤1+b % 5;omega,by show 1+b % 5≤5;omega⟩,⟨by show 0≤c % 4;omega,by show c % 4≤3;omega⟩,⟨by show 0≤d % 4;omega,by show d % 4≤3;omega⟩,⟨by show 1≤1+e % 4;omega,by show 1+e % 4≤4;omega⟩⟩,hfr⟩
 simp [results,Tryz.f16,go_sem,m0,m1,m2,m3,m4]
 rfl
inductive QSt where
 |come|push|closed|look|drop|head|pop|tell|done
def QSt.val (p:Nat):QSt→Value
 |.come=>.func (.func 234) #[.pointer (some ⟨p,0,none⟩)] #[]
 |.push=>.func (.func 259) #[.pointer (some ⟨p,0,none⟩)] #[]
 |.closed=>.func (.func 269) #[.pointer (some ⟨p,0,none⟩)] #[]
 |.look=>.func (.func 122) #[.pointer (some ⟨p,0,none⟩)] #[]
 |.drop=>.func (.func 198) #[.pointer (some ⟨p,0,none⟩)] #[]
 |.head=>.func (.func 217) #[.pointer (some ⟨p,0,none⟩)] #[]
 |.pop=>.func (.func 251) #[.pointer (some ⟨p,0,none⟩)] #[]
 |.tell=>.func (.func 267) #[.pointer (some ⟨p,0,none⟩)] #[]
 |.done=>.nilFunc
structure QuS where
 w:Int
 line:List Int
 first:Int
 nx:QSt
 why:Int
 e:Int
def J9 (w:World) (p:Nat) (c:Q0) (s:QuS):Prop:=
 w.heap[p]?=some (.cells #[.int .i64 c.wo,.int .i64 c.sl,.int .i64 c.st,.int .i64 c.wa,.int .i64 c.us,.int .i64 s.w,.int .i64 (wd s.line:Int),.int .i64 s.first,s.nx.val p,.int .i64 s.why,.int .i64 s.e] 180)
theorem YP (w:World) (p:Nat) (c:Q0) (s:QuS) (e:Int) (h:J9 w p c s):
 Calls Tryz.prog 197 #[.pointer (some ⟨p,0,none⟩),.int .i64 e] w fun en w'=>en=.returned .nilFunc∧J9 w' p c {s with e:=e}∧Fr [p] w w':=by
 have q10:w.cell? ⟨p,10,none⟩=some (.int .i64 s.e):=cell_of h rfl
 have f10:=Q9 (i:=10) h
 have hb:=heap_setCell_same (i:=10) h (.int .i64 e)
 simp only [List.setIfInBounds_toArray,List.set_cons_zero,List.set_cons_succ] at hb
 have HB:=Lib.hid (show J9 (w.setCell ⟨p,10,none⟩ (.int .i64 e)) p c {s with e:=e} from hb)
 have HF:=Lib.hid ((Fr.refl [p] w).sc p 10 (.int .i64 e))
 clear h hb
 go_in
 go_wp2
 go_ret
 exact ⟨rfl,HB.out,HF.out⟩
def JB (w:World) (p pm qm:Nat) (c:Q0) (s':QuS) (nx:QSt) (M':List Int) (t':Int) (en:Ending) (w':World):Prop:=
 en=.returned (nx.val p)∧J9 w' p c s'∧QD 112 w' pm qm M' t'∧Fr [p,pm,qm] w w'
theorem J9.fr {w w':World} {p:Nat} {c:Q0} {s:QuS} (h:J9 w p c s) {S:List Nat} (f:Fr S w w') (hp:p∉S):J9 w' p c s:=f.at h hp
theorem J9.V9 {w:World} {p:Nat} {c:Q0} {s:QuS} (h:J9 w p c s) (L:List Int):J9 (w.setCell ⟨p,6,none⟩ (.int .i64 (wd L:Int))) p c {s with line:=L}:=by
 have hb:=heap_setCell_same (i:=6) h (.int .i64 (wd L:Int))
 simp only [List.setIfInBounds_toArray,List.set_cons_zero,List.set_cons_succ] at hb
 exact hb
theorem Q7i (w:World) (p pm qm:Nat) (c:Q0) (s:QuS) (M:List Int) (t:Int) (Q:List Int) (h:J9 w p c s) (hM:QD 112 w pm qm M t) (ht0:0≤t) (ht1:t≤1000000000) (hp:p≠pm∧p≠qm) (hQ:Ln Q) (hl:Q7 M 1=(wd Q:Int)):
 Calls Tryz.prog 122 #[.pointer (some ⟨p,0,none⟩),.pointer (some ⟨pm,0,none⟩)] w
  (JB w p pm qm c (if s.w∈Q then {s with line:=Q} else {s with line:=Q,e:=8}) (if s.w∈Q then .drop else .done) M (t+tch M 1)):=by
 by_cases hin:s.w∈Q
 · rw [if_pos hin,if_pos hin]
   have HIN:=Lib.hid hin
   clear hin
   have hld:=XF w pm qm M t 1 hM ht0 (by omega)
   rw [hl] at hld
   have HLD:=Lib.hid hld;have H:=Lib.hid h;have HP:=Lib.hid hp
   clear hld h hM hl
   go_in
   go_wp2_with fail
   refine HLD.out.mono ?_
   rintro en w1 ⟨rfl,hm1,f1⟩
   have h1:=H.out.fr f1 (by simp;exact HP.out)
   have q6:=cell_of (i:=6) h1 rfl
   have z6:=Q9 (i:=6) h1
   have h2:=h1.V9 Q
   have HM1:=Lib.hid hm1;have HF1:=Lib.hid f1;have H2:=Lib.hid h2
   have HM2:=Lib.hid (hm1.fr ((Fr.refl [p] w1).setCell (p:=⟨p,6,none⟩) (.inl (by simp)) (.int .i64 (wd Q:Int))) (by simp;exact Ne.symm HP.out.1) (by simp;exact Ne.symm HP.out.2))
   have HF2:=Lib.hid (((f1.mono (S':=[p,pm,qm]) (by simp+contextual)).setCell (p:=⟨p,6,none⟩) (.inl (by simp)) (.int .i64 (wd Q:Int))))
   clear h1 hm1 f1 h2
   go_wp2_with fail
   have r6:=cell_of (i:=6) H2.out rfl
   have r5:=cell_of (i:=5) H2.out rfl
   generalize w1.setCell ⟨p,6,none⟩ (.int .i64 (wd Q:Int))=w2 at H2 HM2 HF2 r6 r5 ⊢
   have HHAS:=Lib.hid (Q1q w2.drew Q s.w hQ)
   rw [decide_eq_true HIN.out] at HHAS
   go_region_held3 (fun w'=>w'.cell? ⟨p,6,none⟩=some (.int .i64 (wd Q:Int))∧w'.cell? ⟨p,5,none⟩=some (.int .i64 s.w)) (first|go_keep|exact ⟨f3.cell r6 (by simp),f3.cell r5 (by simp)⟩)
    (first|(go_at_call 196;refine HHAS.out.mono ?_;rintro en w3 ⟨rfl,f3⟩))
   have HE:=Lib.hid (show JB w p pm qm c {s with line:=Q} .drop M (t+tch M 1) (.returned (QSt.drop.val p)) w3 from ⟨rfl,H2.out.fr ((Fr.refl [] w2).drew.trans f3) (by simp),HM2.out.fr ((Fr.refl [] w2).drew.trans f3) (by simp) (by simp),HF2.out.trans (((Fr.refl [] w2).drew.trans f3).mono (by simp))⟩)
   go_wp2
   go_ret
   exact HE.out
 · rw [if_neg hin,if_neg hin]
   have HIN:=Lib.hid hin
   clear hin
   have hld:=XF w pm qm M t 1 hM ht0 (by omega)
   rw [hl] at hld
   have HLD:=Lib.hid hld;have H:=Lib.hid h;have HP:=Lib.hid hp
   clear hld h hM hl
   go_in
   go_wp2_with fail
   refine HLD.out.mono ?_
   rintro en w1 ⟨rfl,hm1,f1⟩
   have h1:=H.out.fr f1 (by simp;exact HP.out)
   have q6:=cell_of (i:=6) h1 rfl
   have z6:=Q9 (i:=6) h1
   have h2:=h1.V9 Q
   have HM1:=Lib.hid hm1;have HF1:=Lib.hid f1;have H2:=Lib.hid h2
   have HM2:=Lib.hid (hm1.fr ((Fr.refl [p] w1).setCell (p:=⟨p,6,none⟩) (.inl (by simp)) (.int .i64 (wd Q:Int))) (by simp;exact Ne.symm HP.out.1) (by simp;exact Ne.symm HP.out.2))
   have HF2:=Lib.hid (((f1.mono (S':=[p,pm,qm]) (by simp+contextual)).setCell (p:=⟨p,6,none⟩) (.inl (by simp)) (.int .i64 (wd Q:Int))))
   clear h1 hm1 f1 h2
   go_wp2_with fail
   have r6:=cell_of (i:=6) H2.out rfl
   have r5:=cell_of (i:=5) H2.out rfl
   generalize w1.setCell ⟨p,6,none⟩ (.int .i64 (wd Q:Int))=w2 at H2 HM2 HF2 r6 r5 ⊢
   have HHAS:=Lib.hid (Q1q w2.drew Q s.w hQ)
   rw [decide_eq_false HIN.out] at HHAS
   go_region_held3 (fun w'=>w'.cell? ⟨p,6,none⟩=some (.int .i64 (wd Q:Int))∧w'.cell? ⟨p,5,none⟩=some (.int .i64 s.w)) (first|go_keep|exact ⟨f3.cell r6 (by simp),f3.cell r5 (by simp)⟩)
    (first|(go_at_call 196;refine HHAS.out.mono ?_;rintro en w3 ⟨rfl,f3⟩))
   have f23:=(Fr.refl [] w2).drew.trans f3
   have HE3:=Lib.hid (YP w3 p c {s with line:=Q} 8 (H2.out.fr f23 (by simp)))
   have HM3:=Lib.hid (HM2.out.fr f23 (by simp) (by simp));have HF3:=Lib.hid (HF2.out.trans (f23.mono (by simp)))
   clear f23 f3
   go_wp2_with fail
   refine HE3.out.mono ?_
   rintro en w4 ⟨rfl,h4,f4⟩
   have HE:=Lib.hid (show JB w p pm qm c {s with line:=Q,e:=8} .done M (t+tch M 1) (.returned .nilFunc) w4 from ⟨rfl,h4,HM3.out.fr f4 (by simp;exact Ne.symm HP.out.1) (by simp;exact Ne.symm HP.out.2),HF3.out.trans (f4.mono (by simp))⟩)
   clear h4 f4
   go_wp2
   go_ret
   exact HE.out
end
end Go.Proofs.YtgjklfmnmljilaaGreatDoor
