/- The layer 'round': of Of's iterator it is told that what it captures is new. -/
import Derived.Test.YtahkkodeppeknaaAwake04
namespace Go.Proofs.Ytahkkodeppeknaa
open Go.RowKit Go.Shelf

def SeqPostN (w : World) (xs : List Int) (e : Ending) (w' : World) : Prop :=
  ∃ (v : Value) (g : FuncId) (lb : Array Value) (C : Blk), e = .returned v ∧ v = .func (.func g) #[] lb ∧ (∀ args w, (callFunc g args).run Try.prog w = .ok (.enter g args) w) ∧ IterAt Try.prog w' C g lb encI xs ∧ (∀ b, C b → w.heap.size ≤ b) ∧ Fr [] w w'

theorem of_made_new (w : World) (many from' m f : Int) (hm : m = min many 100000) (hf : f = ofFrom m from') :
    SeqPostN w (ofSeq many from') (.returned (.func (.func 26) #[] #[.pointer (some ⟨w.heap.size, 0, none⟩), .pointer (some ⟨w.heap.size + 1, 0, none⟩)]))
      ((w.alloc (.cells #[.int .i64 m] 3)).alloc (.cells #[.int .i64 f] 3)) := by
  unfold ofSeq
  rw [← hm]
  refine ⟨_, _, _, _, rfl, rfl, eg_of, of_cells _ _ _ m f from' (by omega) ?_ ?_ hf, fun b hb => by omega, ((Fr.refl [] w).alloc _).alloc _⟩
  · exact cell_of (i := 0) (heap_alloc_keep (heap_alloc_new w _) _) rfl
  · exact cell_of (i := 0) (by have := heap_alloc_new (w.alloc (.cells #[.int .i64 m] 3)) (.cells #[.int .i64 f] 3); simpa using this) rfl

theorem of_any_new (w : World) (many from' : Int) (h1 : -9223372036854775808 ≤ many) (h2 : many ≤ 9223372036854775807) (h3 : -9223372036854775808 ≤ from') (h4 : from' ≤ 9223372036854775807) :
    Calls Try.prog 9 #[.int .i64 many, .int .i64 from'] w (SeqPostN w (ofSeq many from')) := by
  have fin := Lib.hid (of_made_new w many from')
  go_enter Try.func9, Try.ntmps9
  by_cases ha : from' < 0
  · go_wp2
    · go_ret
      exact fin.out _ _ (by omega) (by unfold ofFrom; rw [if_pos (.inl ha)]; rfl)
    · go_ret
      exact fin.out _ _ (by omega) (by unfold ofFrom; rw [if_pos (.inl ha)]; rfl)
  · by_cases hb : min many 100000 ≤ from'
    · by_cases hc : many ≤ 100000
      · have hb' : many ≤ from' := by omega
        clear hb
        go_wp2
        · go_ret
          exact fin.out _ _ (by omega) (by unfold ofFrom; rw [if_pos (.inr hb')]; rfl)
      · have hb' : 100000 ≤ from' := by omega
        clear hb
        go_wp2
        · go_ret
          exact fin.out _ _ (by omega) (by unfold ofFrom; rw [if_pos (.inr hb')]; rfl)
    · by_cases hc : many ≤ 100000
      · have hb' : ¬ many ≤ from' := by omega
        clear hb
        go_wp2
        · go_ret
          exact fin.out _ _ (by omega) (by unfold ofFrom; rw [if_neg (by omega)]; omega)
      · have hb' : ¬ 100000 ≤ from' := by omega
        clear hb
        go_wp2
        · go_ret
          exact fin.out _ _ (by omega) (by unfold ofFrom; rw [if_neg (by omega)]; omega)

end Go.Proofs.Ytahkkodeppeknaa
