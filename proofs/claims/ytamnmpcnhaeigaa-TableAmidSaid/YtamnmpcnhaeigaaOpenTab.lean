/- What came in, opened: pairs. -/
import Derived.Test.YtamnmpcnhaeigaaOpen
import Derived.Test.YtamnmpcnhaeigaaTabY
import Derived.Lib.SmallJoins
namespace Go.Proofs.Ytamnmpcnhaeigaa.TabI
open Go.ChangeShapes Go.WideShapes Go.Deep Go.RowKit Go.Joins

theorem list_of {α : Type} {P : Nat → α → Prop} (n : Nat) (h : ∀ i, i < n → ∃ x, P i x) : ∃ l : List α, l.length = n ∧ ∀ (j : Nat) (x : α), l[j]? = some x → P j x := by
  induction n with
  | zero => exact ⟨[], rfl, fun j x hx => by simp at hx⟩
  | succ n ih =>
    obtain ⟨l, hl, hp⟩ := ih (fun i hi => h i (by omega))
    obtain ⟨x, hx⟩ := h n (by omega)
    refine ⟨l ++ [x], by simp [hl], fun j y hy => ?_⟩
    rw [List.getElem?_append] at hy
    split at hy
    · exact hp j y hy
    · have hj : j - l.length = 0 := by
        rcases Nat.eq_zero_or_pos (j - l.length) with h0 | h0
        · exact h0
        · rw [List.getElem?_eq_none (by simp; omega)] at hy; cases hy
      rw [hj] at hy
      simp at hy
      subst hy
      rw [show j = n by omega]; exact hx

section
variable {H : Type} {enc : TypeId × Value → H} {w : World} {base : Nat} {spare : Nat → Bool} {held : Bool}
theorem open_pairs {fuel : Nat} {g : Option Addr} {len cap : Nat} {x : DataW H × List MemPlace} (h : DataW.trod enc Try.prog w base spare held fuel 22 [.slice g len cap] = some x) :
    ∃ l : List (Int × Int), l.length = len ∧ PairsAt w.heap.size w g l := by
  rcases open_slice_fields Try.underlying22 Try.underlying25 (by kernel_rfl) (by kernel_rfl) h with e | ⟨a, len', cap', e, hl, hm, hf⟩
  · simp at e
    obtain ⟨rfl, rfl, rfl⟩ := e
    exact ⟨[], rfl, fun j o hj => by simp at hj⟩
  · simp at e
    obtain ⟨rfl, rfl, rfl⟩ := e
    obtain ⟨b, off, spot⟩ := a
    obtain ⟨l, hll, hp⟩ := list_of (P := fun i (o : Int × Int) => w.cell? ⟨b, off + i * 2, none⟩ = some (.int .i64 o.1) ∧ w.cell? ⟨b, off + i * 2 + 1, none⟩ = some (.int .i64 o.2)) len (fun i hi => by
      obtain ⟨n, hfi⟩ := hf i hi
      obtain ⟨v0, y0, c0, t0⟩ := hfi 0 _ rfl
      obtain ⟨v1, y1, c1, t1⟩ := hfi 1 _ rfl
      obtain ⟨k, e0, _, _⟩ := DataW.trod_int Try.underlying3 t0
      obtain ⟨i', e1, _, _⟩ := DataW.trod_int Try.underlying3 t1
      simp at e0 e1
      subst e0 e1
      refine ⟨⟨k, i'⟩, ?_, ?_⟩
      · exact add_at c0
      · rw [Nat.add_assoc]; exact add_at c1)
    refine ⟨l, hll, fun j o hj => ?_⟩
    obtain ⟨c0, c1⟩ := hp j o hj
    have hspot : spot = none := by
      obtain ⟨n, hfi⟩ := hf 0 (by have := (List.getElem?_eq_some_iff.1 hj).1; omega)
      obtain ⟨v0, y0, c0, t0⟩ := hfi 0 _ rfl
      have := World.cell?_spot c0
      simpa [Addr.add] using this
    subst hspot
    exact ⟨b, off, rfl, World.block_lt_of_cell? w _ c0, c0, c1⟩
end

end Go.Proofs.Ytamnmpcnhaeigaa.TabI
