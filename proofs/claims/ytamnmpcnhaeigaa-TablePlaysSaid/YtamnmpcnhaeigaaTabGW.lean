/- Table[int,string]: New, Len, Put, Get, Drop. Printed by gen_tab.py. -/
import Derived.Test.YtamnmpcnhaeigaaTabFW
namespace Go.Proofs.Ytamnmpcnhaeigaa.TabW
open Go.RowKit
set_option linter.unusedVariables false

/-- The table p tells the pairs L; all its blocks are from B on. -/
structure TabAt (B : Nat) (w : World) (p : Nat) (L : List (Int × ByteArray)) : Prop where
  at_ : ∃ s, TabS w p s ∧ Things w s L ∧ p ∉ rowsOf s ∧ ∀ x ∈ rowsOf s, B ≤ x
  low : B ≤ p
  up : Rising lt L

theorem new_any (w : World) : Calls Try.prog 29 #[] w fun e w' => ∃ p, e = .returned (.pointer (some ⟨p, 0, none⟩)) ∧ w.heap.size ≤ p ∧ TabAt w.heap.size w' p [] ∧ Fr [] w w' := by
  have hb := heap_alloc_new w (.cells #[.slice none 0 0] 88 (0, 0))
  have F1 := (Fr.refl [] w).alloc (.cells #[.slice none 0 0] 88 (0, 0))
  go_enter Try.func29, Try.ntmps29
  go_wp2
  go_ret
  exact ⟨_, rfl, Nat.le_refl _, ⟨⟨_, hb, .inl ⟨rfl, rfl⟩, by simp [rowsOf], by simp [rowsOf]⟩, Nat.le_refl _, fun i j x y _ h => by simp at h⟩, F1⟩

theorem len_any (B : Nat) (w : World) (p : Nat) (L : List (Int × ByteArray)) (ht : TabAt B w p L) : Calls Try.prog 32 #[.pointer (some ⟨p, 0, none⟩)] w fun e w' => e = .returned (.int .i64 L.length) ∧ w' = w := by
  obtain ⟨s, hs, hr, _, _⟩ := ht.at_
  have c1 : w.cell? ⟨p, 0, none⟩ = some s := cell_of (c := #[s]) hs rfl
  rcases hr with ⟨rfl, rfl⟩ | ⟨q, c, rfl, hc, hc63, hr⟩
  · go_enter Try.func32, Try.ntmps32
    go_wp2
    go_ret
    exact ⟨rfl, rfl⟩
  · clear hr
    go_enter Try.func32, Try.ntmps32
    go_wp2
    go_ret
    exact ⟨rfl, rfl⟩


end Go.Proofs.Ytamnmpcnhaeigaa.TabW
