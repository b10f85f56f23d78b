/- Table[string,int]: New, Len, Put, Get, Drop. Printed by gen_tab.py. -/
import Derived.Test.YtamnmpcnhaeigaaTabFS
namespace Go.Proofs.Ytamnmpcnhaeigaa.TabS
open Go.RowKit
set_option linter.unusedVariables false

/-- The table p tells the pairs L; all its blocks are from B on. -/
structure TabAt (B : Nat) (w : World) (p : Nat) (L : List (ByteArray × Int)) : Prop where
  at_ : ∃ s, TabS w p s ∧ Things w s L ∧ p ∉ rowsOf s ∧ ∀ x ∈ rowsOf s, B ≤ x
  low : B ≤ p
  up : Rising lt L

theorem new_any (w : World) : Calls Try.prog 18 #[] w fun e w' => ∃ p, e = .returned (.pointer (some ⟨p, 0, none⟩)) ∧ w.heap.size ≤ p ∧ TabAt w.heap.size w' p [] ∧ Fr [] w w' := by
  have hb := heap_alloc_new w (.cells #[.slice none 0 0] 78 (0, 0))
  have F1 := (Fr.refl [] w).alloc (.cells #[.slice none 0 0] 78 (0, 0))
  go_enter Try.func18, Try.ntmps18
  go_wp2
  go_ret
  exact ⟨_, rfl, Nat.le_refl _, ⟨⟨_, hb, .inl ⟨rfl, rfl⟩, by simp [rowsOf], by simp [rowsOf]⟩, Nat.le_refl _, fun i j x y _ h => by simp at h⟩, F1⟩



end Go.Proofs.Ytamnmpcnhaeigaa.TabS
