/- The layer 'round', over an iterator that counts: what First, Second and Where hand back. -/
import Derived.Test.YtahkkodeppeknaaRoundU
namespace Go.Proofs.Ytahkkodeppeknaa
open Go.RowKit

/-- A value that tells xs, and counts, in this world. -/
def SeqE (w : World) (v : Value) (E : Blk) (T : Nat → World → Prop) (tick : Nat → Nat) (tend : Nat) (A : Blk) (xs : List Int) : Prop :=
  ∃ (g : FuncId) (lb : Array Value) (C : Blk), v = .func (.func g) #[] lb ∧ (∀ args w, (callFunc g args).run Try.prog w = .ok (.enter g args) w) ∧ IterE Try.prog w C E T tick tend g lb encI xs ∧ ∀ b, C b → A b
def SeqPostE (w : World) (E : Blk) (T : Nat → World → Prop) (tick : Nat → Nat) (tend : Nat) (A : Blk) (xs : List Int) (e : Ending) (w' : World) : Prop := ∃ v, e = .returned v ∧ SeqE w' v E T tick tend A xs ∧ Fr [] w w'

theorem where_anyT (w : World) (v : Value) (E : Blk) (T : Nat → World → Prop) (tick : Nat → Nat) (tend : Nat) (A : Blk) (hA : ∀ b, w.heap.size ≤ b → A b) (xs : List Int) (gf : Nat) (lbf : Array Value) (hs : SeqE w v E T tick tend A xs) (hf : FitsAt Try.prog w (fun _ => False) gf lbf (fun _ => true)) :
    Calls Try.prog 11 #[v, .func (.func gf) #[] lbf] w (SeqPostE w E T tick tend A xs) := by
  obtain ⟨g, lb, C, rfl, hg, hs, hCA⟩ := hs
  have HCA := Lib.hid hCA; clear hCA
  have HF := Lib.hid hf; have HG := Lib.hid hg; have HS := Lib.hid hs; clear hf hg hs
  go_enter Try.func11, Try.ntmps11
  go_wp2
  go_ret
  have f2 := ((Fr.refl [] w).alloc (.cells #[.func (.func g) #[] lb] 25)).alloc (.cells #[.func (.func gf) #[] lbf] 30)
  refine ⟨_, rfl, ⟨_, _, _, rfl, eg_where, where_iterT _ _ _ g gf lb lbf C (fun _ => False) E T tick tend xs ?_ ?_ HG.out (HS.out.later f2.size (fun b hb => f2.block b (HS.out.1 b hb) (by simp))) (HF.out.later f2.size (fun b hb => hb.elim)) ⟨fun h => ?_, fun h => ?_, fun b hb => hb.elim⟩, fun b hb => ?_⟩, f2⟩
  · exact cell_of (i := 0) (heap_alloc_keep (heap_alloc_new w _) _) rfl
  · exact cell_of (i := 0) (by have := heap_alloc_new (w.alloc (.cells #[.func (.func g) #[] lb] 25)) (.cells #[.func (.func gf) #[] lbf] 30); simpa using this) rfl
  · have := HS.out.1 _ (.inr h); omega
  · have := HS.out.1 _ (.inr h); omega
  · rcases hb with h | h | h | h
    · exact HCA.out b h
    · exact h.elim
    · exact hA b (by omega)
    · exact hA b (by omega)

theorem second_anyT (w : World) (v : Value) (E : Blk) (T : Nat → World → Prop) (A : Blk) (hA : ∀ b, w.heap.size ≤ b → A b) (xs : List Int) (hs : SeqE w v E T (fun k => k + 1) xs.length A xs) : Calls Try.prog 15 #[v] w (SeqPostE w E T (fun j => 2 * j + 1) xs.length A (secondL xs)) := by
  obtain ⟨g, lb, C, rfl, hg, hs, hCA⟩ := hs
  have HCA := Lib.hid hCA; clear hCA
  have HG := Lib.hid hg; have HS := Lib.hid hs; clear hg hs
  go_enter Try.func15, Try.ntmps15
  go_wp2
  go_ret
  have f2 := ((Fr.refl [] w).alloc (.cells #[.func (.func g) #[] lb] 25))
  refine ⟨_, rfl, ⟨_, _, _, rfl, eg_second, second_iterT _ _ g lb C E T xs ?_ HG.out (HS.out.later f2.size (fun b hb => f2.block b (HS.out.1 b hb) (by simp))) (fun h => ?_), fun b hb => ?_⟩, f2⟩
  · exact cell_of (i := 0) (heap_alloc_new w _) rfl
  · have := HS.out.1 _ (.inr h); omega
  · rcases hb with h | h
    · exact HCA.out b h
    · exact hA b (by omega)

theorem first_anyT (w : World) (v : Value) (E : Blk) (T : Nat → World → Prop) (A : Blk) (hA : ∀ b, w.heap.size ≤ b → A b) (xs : List Int) (many : Int) (hmany : many ≤ 9223372036854775807) (hs : SeqE w v E T (fun k => k + 1) xs.length A xs) (hT : T 0 w) :
    Calls Try.prog 18 #[v, .int .i64 many] w (SeqPostE w E T (fun k => k + 1) (xs.take many.toNat).length A (xs.take many.toNat)) := by
  obtain ⟨g, lb, C, rfl, hg, hs, hCA⟩ := hs
  have HCA := Lib.hid hCA; clear hCA
  have HG := Lib.hid hg; have HS := Lib.hid hs; have HT := Lib.hid hT; clear hg hs hT
  go_enter Try.func18, Try.ntmps18
  go_wp2
  go_ret
  have f2 := ((Fr.refl [] w).alloc (.cells #[.func (.func g) #[] lb] 25)).alloc (.cells #[.int .i64 many] 3)
  refine ⟨_, rfl, ⟨_, _, _, rfl, eg_first, first_iterT _ _ _ g lb C E T xs many hmany ?_ HG.out (HS.out.later f2.size (fun b hb => f2.block b (HS.out.1 b hb) (by simp))) ⟨fun h => ?_, fun h => ?_⟩ (HS.out.2.1 0 w _ HT.out (fun b hb => f2.block b (HS.out.1 b (.inr hb)) (by simp))) ?_, fun b hb => ?_⟩, f2⟩
  · exact cell_of (i := 0) (heap_alloc_keep (heap_alloc_new w _) _) rfl
  · have := HS.out.1 _ (.inr h); omega
  · have := HS.out.1 _ (.inr h); omega
  · exact cell_of (i := 0) (by have := heap_alloc_new (w.alloc (.cells #[.func (.func g) #[] lb] 25)) (.cells #[.int .i64 many] 3); simpa using this) rfl
  · rcases hb with h | h | h
    · exact HCA.out b h
    · exact hA b (by omega)
    · exact hA b (by omega)

/-- The first ones, as a list: how often was asked. -/
def FirstPost (w : World) (ba a0 : Nat) (xs : List Int) (e : Ending) (w' : World) : Prop := ∃ v, e = .returned v ∧ w'.ownsRow w.heap.size 3 1 v xs.length (xs.map (Value.int .i64)) ∧ AskedAt ba a0 xs.length w' ∧ Stp (fun b => b = ba) w w'
theorem seqE_asks (w : World) (bn ba n a0 : Nat) (hn : n ≤ 100000) (ha : a0 ≤ 100000) (hne : bn ≠ ba) (h1 : w.cell? ⟨bn, 0, none⟩ = some (.int .i64 n)) (h2 : AskedAt ba a0 0 w) {A : Blk} (hA : A bn) :
    SeqE w (.func (.func 19) #[] #[.pointer (some ⟨bn, 0, none⟩), .pointer (some ⟨ba, 0, none⟩)]) (fun b => b = ba) (AskedAt ba a0) (fun k => k + 1) (upTo n).length A (upTo n) :=
  ⟨_, _, _, rfl, fun _ _ => rfl, asks_iter w bn ba n a0 hn ha hne h1 h2, fun b hb => by have e : b = bn := hb; subst e; exact hA⟩
theorem list_seqT (w : World) (v : Value) (E : Blk) (T : Nat → World → Prop) (tick : Nat → Nat) (tend : Nat) (A : Blk) (xs : List Int) (hxs : xs.length ≤ 100000) (hs : SeqE w v E T tick tend A xs) : Calls Try.prog 14 #[v] w (ListPostT E (T tend) w xs) := by
  obtain ⟨g, lb, C, rfl, hg, hs, -⟩ := hs
  exact list_anyT w g lb C E T tick tend xs hxs hg hs
theorem asks2_fits (w : World) : FitsAt Try.prog w (fun _ => False) 20 #[] (fun _ => true) := by
  refine ⟨fun b hb => hb.elim, fun _ _ => rfl, fun W x _ => ?_⟩
  go_enter Try.func20, Try.ntmps20
  go_wp2
  go_ret
  exact ⟨rfl, rfl⟩

end Go.Proofs.Ytahkkodeppeknaa
