/- The layer 'round': what makes iterators. -/
import Derived.Test.YtahkkodeppeknaaRoundL
namespace Go.Proofs.Ytahkkodeppeknaa
open Go.RowKit Go.Shelf

/-- A value that tells xs, in this world and in each behind it. -/
def SeqV (w : World) (v : Value) (xs : List Int) : Prop :=
  ∃ (g : FuncId) (lb : Array Value) (C : Blk), v = .func (.func g) #[] lb ∧ (∀ args w, (callFunc g args).run Try.prog w = .ok (.enter g args) w) ∧ IterAt Try.prog w C g lb encI xs
theorem SeqV.later {w w' : World} {v : Value} {xs : List Int} (h : SeqV w v xs) (f : Fr [] w w') : SeqV w' v xs := by
  obtain ⟨g, lb, C, hv, hg, hs⟩ := h
  exact ⟨g, lb, C, hv, hg, hs.later f.size (fun b hb => f.block b (hs.1 b hb) (by simp))⟩

theorem SeqV.mk {w : World} {g : FuncId} {lb : Array Value} {C : Blk} {xs : List Int} (hg : ∀ args w, (callFunc g args).run Try.prog w = .ok (.enter g args) w) (h : IterAt Try.prog w C g lb encI xs) : SeqV w (.func (.func g) #[] lb) xs := ⟨g, lb, C, rfl, hg, h⟩

def SeqPost (w : World) (xs : List Int) (e : Ending) (w' : World) : Prop := ∃ v, e = .returned v ∧ SeqV w' v xs ∧ Fr [] w w'

def ofFrom (many from' : Int) : Nat := if from' < 0 ∨ many ≤ from' then 0 else from'.toNat
def ofSeq (many from' : Int) : List Int := ofList (min many 100000).toNat (ofFrom (min many 100000) from')
theorem length_ofSeq (many from' : Int) : (ofSeq many from').length = (min many 100000).toNat := length_ofList _ _

theorem of_cells (w : World) (b1 b2 : Nat) (m f g : Int) (hm : m ≤ 100000) (h1 : w.cell? ⟨b1, 0, none⟩ = some (.int .i64 m)) (h2 : w.cell? ⟨b2, 0, none⟩ = some (.int .i64 f)) (hf : f = ofFrom m g) :
    IterAt Try.prog w (fun b => b = b1 ∨ b = b2) 26 #[.pointer (some ⟨b1, 0, none⟩), .pointer (some ⟨b2, 0, none⟩)] encI (ofList m.toNat (ofFrom m g)) := by
  subst hf
  by_cases hp : m ≤ 0
  · have h0 : m.toNat = 0 := by omega
    rw [h0]
    exact of_iter_none w b1 b2 m _ hp h1 h2
  · obtain ⟨n, rfl⟩ : ∃ n : Nat, m = (n : Int) := ⟨m.toNat, by omega⟩
    refine of_iter w b1 b2 n _ (by omega) ?_ h1 h2
    unfold ofFrom; split <;> omega

theorem eg_of : ∀ args w, (callFunc 26 args).run Try.prog w = .ok (.enter 26 args) w := fun _ _ => rfl

theorem of_made (w : World) (many from' m f : Int) (hm : m = min many 100000) (hf : f = ofFrom m from') :
    SeqPost w (ofSeq many from') (.returned (.func (.func 26) #[] #[.pointer (some ⟨w.heap.size, 0, none⟩), .pointer (some ⟨w.heap.size + 1, 0, none⟩)]))
      ((w.alloc (.cells #[.int .i64 m] 3)).alloc (.cells #[.int .i64 f] 3)) := by
  unfold ofSeq
  rw [← hm]
  refine ⟨_, rfl, SeqV.mk eg_of (of_cells _ _ _ m f from' (by omega) ?_ ?_ hf), ((Fr.refl [] w).alloc _).alloc _⟩
  · exact cell_of (i := 0) (heap_alloc_keep (heap_alloc_new w _) _) rfl
  · exact cell_of (i := 0) (by have := heap_alloc_new (w.alloc (.cells #[.int .i64 m] 3)) (.cells #[.int .i64 f] 3); simpa using this) rfl

theorem of_any (w : World) (many from' : Int) (h1 : -9223372036854775808 ≤ many) (h2 : many ≤ 9223372036854775807) (h3 : -9223372036854775808 ≤ from') (h4 : from' ≤ 9223372036854775807) :
    Calls Try.prog 9 #[.int .i64 many, .int .i64 from'] w (SeqPost w (ofSeq many from')) := by
  have fin := Lib.hid (of_made w many from')
  go_enter Try.func9, Try.ntmps9
  by_cases ha : from' < 0
  · go_wp2
    · go_ret
      exact fin.out _ _ (by omega) (by unfold ofFrom; rw [if_pos (.inl ha)]; rfl)
    · go_ret
      exact fin.out _ _ (by omega) (by unfold ofFrom; rw [if_pos (.inl ha)]; rfl)
  · by_cases hb : min many 100000 ≤ from'
    · by_cases hc : many ≤ 100000
      · have hb' : many ≤ from' := by omega
        clear hb
        go_wp2
        · go_ret
          exact fin.out _ _ (by omega) (by unfold ofFrom; rw [if_pos (.inr hb')]; rfl)
      · have hb' : 100000 ≤ from' := by omega
        clear hb
        go_wp2
        · go_ret
          exact fin.out _ _ (by omega) (by unfold ofFrom; rw [if_pos (.inr hb')]; rfl)
    · by_cases hc : many ≤ 100000
      · have hb' : ¬ many ≤ from' := by omega
        clear hb
        go_wp2
        · go_ret
          exact fin.out _ _ (by omega) (by unfold ofFrom; rw [if_neg (by omega)]; omega)
      · have hb' : ¬ 100000 ≤ from' := by omega
        clear hb
        go_wp2
        · go_ret
          exact fin.out _ _ (by omega) (by unfold ofFrom; rw [if_neg (by omega)]; omega)

theorem eg_where : ∀ args w, (callFunc 27 args).run Try.prog w = .ok (.enter 27 args) w := fun _ _ => rfl
theorem eg_second : ∀ args w, (callFunc 28 args).run Try.prog w = .ok (.enter 28 args) w := fun _ _ => rfl
theorem eg_first : ∀ args w, (callFunc 29 args).run Try.prog w = .ok (.enter 29 args) w := fun _ _ => rfl

theorem where_any (w : World) (v : Value) (xs : List Int) (gf : Nat) (lbf : Array Value) (Cf : Blk) (p : Int → Bool) (hs : SeqV w v xs) (hf : FitsAt Try.prog w Cf gf lbf p) :
    Calls Try.prog 11 #[v, .func (.func gf) #[] lbf] w (SeqPost w (xs.filter p)) := by
  obtain ⟨g, lb, C, rfl, hg, hs⟩ := hs
  have HF := Lib.hid hf; have HG := Lib.hid hg; have HS := Lib.hid hs; clear hf hg hs
  go_enter Try.func11, Try.ntmps11
  go_wp2
  go_ret
  have f2 := ((Fr.refl [] w).alloc (.cells #[.func (.func g) #[] lb] 25)).alloc (.cells #[.func (.func gf) #[] lbf] 30)
  refine ⟨_, rfl, SeqV.mk eg_where (where_iter _ _ _ g gf lb lbf C Cf xs p ?_ ?_ HG.out (HS.out.later f2.size (fun b hb => f2.block b (HS.out.1 b hb) (by simp))) (HF.out.later f2.size (fun b hb => f2.block b (HF.out.1 b hb) (by simp)))), f2⟩
  · exact cell_of (i := 0) (heap_alloc_keep (heap_alloc_new w _) _) rfl
  · exact cell_of (i := 0) (by have := heap_alloc_new (w.alloc (.cells #[.func (.func g) #[] lb] 25)) (.cells #[.func (.func gf) #[] lbf] 30); simpa using this) rfl

theorem second_any (w : World) (v : Value) (xs : List Int) (hs : SeqV w v xs) : Calls Try.prog 15 #[v] w (SeqPost w (secondL xs)) := by
  obtain ⟨g, lb, C, rfl, hg, hs⟩ := hs
  have HG := Lib.hid hg; have HS := Lib.hid hs; clear hg hs
  go_enter Try.func15, Try.ntmps15
  go_wp2
  go_ret
  have f2 := ((Fr.refl [] w).alloc (.cells #[.func (.func g) #[] lb] 25))
  refine ⟨_, rfl, SeqV.mk eg_second (second_iter _ _ g lb C xs ?_ HG.out (HS.out.later f2.size (fun b hb => f2.block b (HS.out.1 b hb) (by simp)))), f2⟩
  exact cell_of (i := 0) (heap_alloc_new w _) rfl

theorem first_any (w : World) (v : Value) (xs : List Int) (many : Int) (hmany : many ≤ 9223372036854775807) (hs : SeqV w v xs) : Calls Try.prog 18 #[v, .int .i64 many] w (SeqPost w (xs.take many.toNat)) := by
  obtain ⟨g, lb, C, rfl, hg, hs⟩ := hs
  have HG := Lib.hid hg; have HS := Lib.hid hs; clear hg hs
  go_enter Try.func18, Try.ntmps18
  go_wp2
  go_ret
  have f2 := ((Fr.refl [] w).alloc (.cells #[.func (.func g) #[] lb] 25)).alloc (.cells #[.int .i64 many] 3)
  refine ⟨_, rfl, SeqV.mk eg_first (first_iter _ _ _ g lb C xs many hmany ?_ HG.out (HS.out.later f2.size (fun b hb => f2.block b (HS.out.1 b hb) (by simp))) ?_), f2⟩
  · exact cell_of (i := 0) (heap_alloc_keep (heap_alloc_new w _) _) rfl
  · exact cell_of (i := 0) (by have := heap_alloc_new (w.alloc (.cells #[.func (.func g) #[] lb] 25)) (.cells #[.int .i64 many] 3); simpa using this) rfl

end Go.Proofs.Ytahkkodeppeknaa
