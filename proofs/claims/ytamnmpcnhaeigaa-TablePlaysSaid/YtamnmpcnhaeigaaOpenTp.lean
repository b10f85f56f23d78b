/- What came in, opened: operations of TablePlays. -/
import Derived.Test.YtamnmpcnhaeigaaOpen
import Derived.Test.YtamnmpcnhaeigaaTabPl
import Derived.Lib.SmallJoins
namespace Go.Proofs.Ytamnmpcnhaeigaa.TabI
open Go.ChangeShapes Go.WideShapes Go.Deep Go.RowKit Go.Joins

theorem list_of_o {α : Type} {P : Nat → α → Prop} (n : Nat) (h : ∀ i, i < n → ∃ x, P i x) : ∃ l : List α, l.length = n ∧ ∀ (j : Nat) (x : α), l[j]? = some x → P j x := by
  induction n with
  | zero => exact ⟨[], rfl, fun j x hx => by simp at hx⟩
  | succ n ih =>
    obtain ⟨l, hl, hp⟩ := ih (fun i hi => h i (by omega))
    obtain ⟨x, hx⟩ := h n (by omega)
    refine ⟨l ++ [x], by simp [hl], fun j y hy => ?_⟩
    rw [List.getElem?_append] at hy
    split at hy
    · exact hp j y hy
    · have hj : j - l.length = 0 := by
        rcases Nat.eq_zero_or_pos (j - l.length) with h0 | h0
        · exact h0
        · rw [List.getElem?_eq_none (by simp; omega)] at hy; cases hy
      rw [hj] at hy
      simp at hy
      subst hy
      rw [show j = n by omega]; exact hx

section
variable {H : Type} {enc : TypeId × Value → H} {w : World} {base : Nat} {spare : Nat → Bool} {held : Bool}
theorem open_tops {fuel : Nat} {g : Option Addr} {len cap : Nat} {x : DataW H × List MemPlace} (h : DataW.trod enc Try.prog w base spare held fuel 51 [.slice g len cap] = some x) :
    ∃ l : List OpV, l.length = len ∧ OpsAt w.heap.size w g l := by
  rcases open_slice_fields Try.underlying51 Try.underlying57 (by kernel_rfl) (by kernel_rfl) h with e | ⟨a, len', cap', e, hl, hm, hf⟩
  · simp at e
    obtain ⟨rfl, rfl, rfl⟩ := e
    exact ⟨[], rfl, fun j o hj => by simp at hj⟩
  · simp at e
    obtain ⟨rfl, rfl, rfl⟩ := e
    obtain ⟨b, off, spot⟩ := a
    obtain ⟨l, hll, hp⟩ := list_of_o (P := fun i (o : OpV) => 0 ≤ o.kind ∧ o.kind ≤ 255 ∧ w.cell? ⟨b, off + i * 3, none⟩ = some (.int .u8 o.kind) ∧ w.cell? ⟨b, off + i * 3 + 1, none⟩ = some (.int .i64 o.k) ∧ w.cell? ⟨b, off + i * 3 + 2, none⟩ = some (.int .i64 o.v)) len (fun i hi => by
      obtain ⟨n, hfi⟩ := hf i hi
      obtain ⟨v0, y0, c0, t0⟩ := hfi 0 _ rfl
      obtain ⟨v1, y1, c1, t1⟩ := hfi 1 _ rfl
      obtain ⟨v2, y2, c2, t2⟩ := hfi 2 _ rfl
      obtain ⟨k, e0, _, w0⟩ := DataW.trod_int Try.underlying5 t0
      obtain ⟨i', e1, _, _⟩ := DataW.trod_int Try.underlying3 t1
      obtain ⟨i2, e2, _, _⟩ := DataW.trod_int Try.underlying3 t2
      simp at e0 e1 e2
      subst e0 e1 e2
      have hb := bounds_u8 w0
      refine ⟨⟨k, i', i2⟩, hb.1, hb.2, ?_, ?_, ?_⟩
      · exact add_at c0
      · rw [Nat.add_assoc]; exact add_at c1
      · rw [Nat.add_assoc]; exact add_at c2)
    refine ⟨l, hll, fun j o hj => ?_⟩
    obtain ⟨h0, h1, c0, c1, c2⟩ := hp j o hj
    have hspot : spot = none := by
      obtain ⟨n, hfi⟩ := hf 0 (by have := (List.getElem?_eq_some_iff.1 hj).1; omega)
      obtain ⟨v0, y0, c0, t0⟩ := hfi 0 _ rfl
      have := World.cell?_spot c0
      simpa [Addr.add] using this
    subst hspot
    exact ⟨h0, h1, b, off, rfl, World.block_lt_of_cell? w _ c0, c0, c1, c2⟩
end

end Go.Proofs.Ytamnmpcnhaeigaa.TabI
