/- What came in, opened: what others do ahead of a step. -/
import Derived.Test.YtdpefnebghljoaaOpenQ
import Derived.Test.YtdpefnebghljoaaQuY
namespace Go.Proofs.Ytdpefnebghljoaa
open Go.ChangeShapes Go.WideShapes Go.Deep Go.RowKit Go.Joins

section
variable {H : Type} {enc : TypeId × Value → H} {w : World} {base : Nat} {spare : Nat → Bool} {held : Bool}
theorem open_u8v {fuel : Nat} {c : Value} {x : DataW H × List MemPlace} (h : DataW.trod enc Try.prog w base spare held fuel 22 [c] = some x) :
    ∃ (g : Option Addr) (l : List Int) (cap : Nat), c = .slice g l.length cap ∧ U8At w g l := by
  have h0 := h
  rcases open_ints Try.underlying22 Try.underlying5 (by kernel_rfl) h with ⟨hcs, _⟩ | ⟨a, len', cap', zs, hcs, _⟩
  · simp at hcs
    subst hcs
    exact ⟨none, [], 0, rfl, U8At.empty _ _⟩
  · simp at hcs
    subst hcs
    obtain ⟨L, hl, -, hu⟩ := open_u8s h0
    exact ⟨some a, L, cap', by rw [hl], hu⟩
theorem open_turns {fuel : Nat} {g : Option Addr} {len cap : Nat} {x : DataW H × List MemPlace} (h : DataW.trod enc Try.prog w base spare held fuel 54 [.slice g len cap] = some x) :
    ∃ l : List TurnV, l.length = len ∧ TurnsAt w g l := by
  rcases open_slice_fields Try.underlying54 Try.underlying56 (by kernel_rfl) (by kernel_rfl) h with e | ⟨a, len', cap', e, hl, hm, hf⟩
  · simp at e
    obtain ⟨rfl, rfl, rfl⟩ := e
    exact ⟨[], rfl, TurnsAt.empty _ _⟩
  · simp at e
    obtain ⟨rfl, rfl, rfl⟩ := e
    obtain ⟨b, off, spot⟩ := a
    obtain ⟨l, hll, hp⟩ := list_of (P := fun i (o : TurnV) => (0 ≤ o.wh ∧ o.wh ≤ 255) ∧ (0 ≤ o.cl ∧ o.cl ≤ 255) ∧ U8At w o.g o.l ∧ w.cell? ⟨b, off + i * 3, none⟩ = some (.int .u8 o.wh) ∧ w.cell? ⟨b, off + i * 3 + 1, none⟩ = some (.slice o.g o.l.length o.c) ∧
        w.cell? ⟨b, off + i * 3 + 2, none⟩ = some (.int .u8 o.cl)) len (fun i hi => by
      obtain ⟨n, hfi⟩ := hf i hi
      obtain ⟨v0, y0, c0, t0⟩ := hfi 0 _ rfl
      obtain ⟨v1, y1, c1, t1⟩ := hfi 1 _ rfl
      obtain ⟨v2, y2, c2, t2⟩ := hfi 2 _ rfl
      obtain ⟨k, e0, _, w0⟩ := DataW.trod_int Try.underlying5 t0
      obtain ⟨g1, l1, cp1, rfl, hu⟩ := open_u8v t1
      obtain ⟨v', e2, _, w2⟩ := DataW.trod_int Try.underlying5 t2
      simp at e0 e2
      subst e0 e2
      refine ⟨⟨k, g1, l1, cp1, v'⟩, bounds_u8 w0, bounds_u8 w2, hu, ?_, ?_, ?_⟩
      · exact add_at c0
      · rw [Nat.add_assoc]; exact add_at c1
      · rw [Nat.add_assoc]; exact add_at c2)
    refine ⟨l, hll, by unfold maxLen at hm; omega, fun j o hj => ?_⟩
    obtain ⟨h0, h1, hu, c0, c1, c2⟩ := hp j o hj
    have hspot : spot = none := by
      obtain ⟨n, hfi⟩ := hf 0 (by have := (List.getElem?_eq_some_iff.1 hj).1; omega)
      obtain ⟨v0, y0, c0, t0⟩ := hfi 0 _ rfl
      have := World.cell?_spot c0
      simpa [Addr.add] using this
    subst hspot
    exact ⟨h0, h1, hu, b, off, rfl, c0, c1, c2⟩
end

end Go.Proofs.Ytdpefnebghljoaa
