/- What came in, opened: small numbers; a conf by small numbers. -/
import Derived.Test.YtdpefnebghljoaaOpen
import Derived.Test.YtdpefnebghljoaaQuL
import Derived.Lib.SmallJoins
namespace Go.Proofs.Ytdpefnebghljoaa
open Go.ChangeShapes Go.WideShapes Go.Deep Go.RowKit Go.Joins

theorem U8At.empty (w : World) (g : Option Addr) : U8At w g [] := ⟨by simp, by simp, fun j x h => by simp at h⟩
theorem list_of {α : Type} {P : Nat → α → Prop} (n : Nat) (h : ∀ i, i < n → ∃ x, P i x) : ∃ l : List α, l.length = n ∧ ∀ (j : Nat) (x : α), l[j]? = some x → P j x := by
  induction n with
  | zero => exact ⟨[], rfl, fun j x hx => by simp at hx⟩
  | succ n ih =>
    obtain ⟨l, hl, hp⟩ := ih (fun i hi => h i (by omega))
    obtain ⟨x, hx⟩ := h n (by omega)
    refine ⟨l ++ [x], by simp [hl], fun j y hy => ?_⟩
    rw [List.getElem?_append] at hy
    split at hy
    · exact hp j y hy
    · have hj : j - l.length = 0 := by
        rcases Nat.eq_zero_or_pos (j - l.length) with h0 | h0
        · exact h0
        · rw [List.getElem?_eq_none (by simp; omega)] at hy; cases hy
      rw [hj] at hy
      simp at hy
      subst hy
      rw [show j = n by omega]; exact hx
theorem got {α : Type} {o : Option α} {l : List α} {k : Nat} (h : o = l[k]?) (hk : k < l.length) : ∃ y, o = some y := ⟨_, h.trans (List.getElem?_eq_getElem hk)⟩
section
variable {H : Type} {enc : TypeId × Value → H} {w : World} {base : Nat} {spare : Nat → Bool} {held : Bool}
theorem open_u8s {fuel : Nat} {g : Option Addr} {len cap : Nat} {x : DataW H × List MemPlace} (h : DataW.trod enc Try.prog w base spare held fuel 22 [.slice g len cap] = some x) :
    ∃ L : List Int, L.length = len ∧ len ≤ cap ∧ U8At w g L := by
  rcases open_ints Try.underlying22 Try.underlying5 (by kernel_rfl) h with ⟨hcs, _⟩ | ⟨a, len', cap', zs, hcs, _, hl, hm, hz, _, hcell, hwz⟩
  · simp at hcs
    obtain ⟨rfl, rfl, rfl⟩ := hcs
    exact ⟨[], rfl, Nat.le_refl _, U8At.empty _ _⟩
  · simp at hcs
    obtain ⟨rfl, rfl, rfl⟩ := hcs
    obtain ⟨b, off, spot⟩ := a
    have hz' : len ≤ zs.length ∧ zs.length ≤ cap := by simp only at hz; split at hz <;> omega
    refine ⟨zs.take len, by simp; omega, hl, by simp; unfold maxLen at hm; omega, fun n hn => bounds_u8 (hwz n (List.mem_of_mem_take hn)), fun j y hy => ?_⟩
    rw [List.getElem?_take] at hy
    split at hy
    · rename_i hj
      have hjz : j < zs.length := (List.getElem?_eq_some_iff.1 hy).1
      have hc := hcell j hjz
      have h0 := hcell 0 (by omega)
      have hspot : spot = none := by
        have := World.cell?_spot h0
        simpa [Addr.add] using this
      subst hspot
      refine ⟨b, off, rfl, ?_⟩
      have e : zs.getD j 0 = y := by simp [List.getD, hy]
      rw [e] at hc
      exact add_at hc
    · cases hy
end

end Go.Proofs.Ytdpefnebghljoaa
