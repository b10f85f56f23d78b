/- What came in, opened: texts. -/
import Derived.Test.YtamnmpcnhaeigaaOpen
import Derived.Test.YtamnmpcnhaeigaaWalkTabTexts
import Derived.Deep.Strs
namespace Go.Proofs.Ytamnmpcnhaeigaa.TabS
open Go.ChangeShapes Go.WideShapes Go.Deep Go.RowKit

section
variable {H : Type} {enc : TypeId × Value → H} {w : World} {base : Nat} {spare : Nat → Bool} {held : Bool}
theorem open_texts {fuel : Nat} {g : Option Addr} {len cap : Nat} {x : DataW H × List MemPlace} (h : DataW.trod enc Try.prog w base spare held fuel 40 [.slice g len cap] = some x) :
    ∃ l : List ByteArray, l.length = len ∧ TextsAt w.heap.size w g l := by
  rcases open_strs Try.underlying40 Try.underlying9 (by kernel_rfl) h with ⟨e, _⟩ | ⟨a, len', cap', m, Sx, e, _, hl, _, hm, _, hc⟩
  · simp at e
    obtain ⟨rfl, rfl, rfl⟩ := e
    exact ⟨[], rfl, fun j o hj => by simp at hj⟩
  · simp at e
    obtain ⟨rfl, rfl, rfl⟩ := e
    obtain ⟨b, off, spot⟩ := a
    have hlm : len ≤ m := by rw [hm]; split <;> omega
    refine ⟨(List.range len).map Sx, by simp, fun j y hj => ?_⟩
    rw [List.getElem?_map] at hj
    have hjl : j < len := by
      rcases Nat.lt_or_ge j len with h1 | h1
      · exact h1
      · rw [List.getElem?_eq_none (by simpa using h1)] at hj; cases hj
    rw [List.getElem?_range hjl] at hj
    have hy : Sx j = y := by simpa using hj
    obtain ⟨h1, _⟩ := hc j (by omega)
    have hspot : spot = none := by
      have := World.cell?_spot (hc 0 (by omega)).1
      simpa [Addr.add] using this
    subst hspot
    have h2 := add_at h1
    rw [hy] at h2
    exact ⟨b, off, rfl, World.block_lt_of_cell? w _ h2, h2⟩
end

end Go.Proofs.Ytamnmpcnhaeigaa.TabS
