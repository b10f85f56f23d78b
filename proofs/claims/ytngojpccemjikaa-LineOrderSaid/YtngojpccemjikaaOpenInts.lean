/- Numbers that came in as a slice. -/
import Derived.Test.YtngojpccemjikaaOpen
import Derived.Test.YtngojpccemjikaaInts
namespace Go.Proofs.Ytngojpccemjikaa
open Go.ChangeShapes Go.WideShapes Go.Deep Go.RowKit

section
variable {H : Type} {enc : TypeId × Value → H} {w : World} {base : Nat} {spare : Nat → Bool} {held : Bool}
theorem open_ints_at {fuel : Nat} {g : Option Addr} {len cap : Nat} {x : DataW H × List MemPlace} (h : DataW.trod enc Try.prog w base spare held fuel 22 [.slice g len cap] = some x) :
    ∃ l : List Int, l.length = len ∧ (∀ n ∈ l, -9223372036854775808 ≤ n ∧ n ≤ 9223372036854775807) ∧ IntsAt w g l := by
  rcases open_ints Try.underlying22 Try.underlying3 (by kernel_rfl) h with ⟨hcs, _⟩ | ⟨a, len', cap', zs, hcs, _, hl, hm, hz, _, hcell, hwz⟩
  · simp at hcs
    obtain ⟨rfl, rfl, rfl⟩ := hcs
    exact ⟨[], rfl, by simp, IntsAt.empty _ _⟩
  · simp at hcs
    obtain ⟨rfl, rfl, rfl⟩ := hcs
    obtain ⟨b, off, spot⟩ := a
    have hz' : len ≤ zs.length ∧ zs.length ≤ cap := by simp only at hz; split at hz <;> omega
    refine ⟨zs.take len, by simp; omega, fun n hn => bounds_i64 (hwz n (List.mem_of_mem_take hn)), by simp; unfold maxLen at hm; omega, fun j y hy => ?_⟩
    rw [List.getElem?_take] at hy
    split at hy
    · rename_i hj
      have hjz : j < zs.length := (List.getElem?_eq_some_iff.1 hy).1
      have hc := hcell j hjz
      have h0 := hcell 0 (by omega)
      have hspot : spot = none := by
        have := World.cell?_spot h0
        simpa [Addr.add] using this
      subst hspot
      refine ⟨b, off, rfl, ?_⟩
      have e : zs.getD j 0 = y := by simp [List.getD, hy]
      rw [e] at hc
      exact add_at hc
    · cases hy
end

end Go.Proofs.Ytngojpccemjikaa
