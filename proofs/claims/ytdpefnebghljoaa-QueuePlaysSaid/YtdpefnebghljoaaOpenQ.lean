/- What came in, opened: small numbers; a conf by small numbers. -/
import Derived.Test.YtdpefnebghljoaaOpen
import Derived.Test.YtdpefnebghljoaaQuL
import Derived.Lib.SmallJoins
namespace Go.Proofs.Ytdpefnebghljoaa
open Go.ChangeShapes Go.WideShapes Go.Deep Go.RowKit Go.Joins

theorem U8At.empty (w : World) (g : Option Addr) : U8At w g [] := ⟨by simp, by simp, fun j x h => by simp at h⟩
theorem list_of {α : Type} {P : Nat → α → Prop} (n : Nat) (h : ∀ i, i < n → ∃ x, P i x) : ∃ l : List α, l.length = n ∧ ∀ (j : Nat) (x : α), l[j]? = some x → P j x := by
  induction n with
  | zero => exact ⟨[], rfl, fun j x hx => by simp at hx⟩
  | succ n ih =>
    obtain ⟨l, hl, hp⟩ := ih (fun i hi => h i (by omega))
    obtain ⟨x, hx⟩ := h n (by omega)
    refine ⟨l ++ [x], by simp [hl], fun j y hy => ?_⟩
    rw [List.getElem?_append] at hy
    split at hy
    · exact hp j y hy
    · have hj : j - l.length = 0 := by
        rcases Nat.eq_zero_or_pos (j - l.length) with h0 | h0
        · exact h0
        · rw [List.getElem?_eq_none (by simp; omega)] at hy; cases hy
      rw [hj] at hy
      simp at hy
      subst hy
      rw [show j = n by omega]; exact hx
theorem got {α : Type} {o : Option α} {l : List α} {k : Nat} (h : o = l[k]?) (hk : k < l.length) : ∃ y, o = some y := ⟨_, h.trans (List.getElem?_eq_getElem hk)⟩
section
variable {H : Type} {enc : TypeId × Value → H} {w : World} {base : Nat} {spare : Nat → Bool} {held : Bool}
theorem open_u8s {fuel : Nat} {g : Option Addr} {len cap : Nat} {x : DataW H × List MemPlace} (h : DataW.trod enc Try.prog w base spare held fuel 22 [.slice g len cap] = some x) :
    ∃ L : List Int, L.length = len ∧ len ≤ cap ∧ U8At w g L := by
  rcases open_ints Try.underlying22 Try.underlying5 (by kernel_rfl) h with ⟨hcs, _⟩ | ⟨a, len', cap', zs, hcs, _, hl, hm, hz, _, hcell, hwz⟩
  · simp at hcs
    obtain ⟨rfl, rfl, rfl⟩ := hcs
    exact ⟨[], rfl, Nat.le_refl _, U8At.empty _ _⟩
  · simp at hcs
    obtain ⟨rfl, rfl, rfl⟩ := hcs
    obtain ⟨b, off, spot⟩ := a
    have hz' : len ≤ zs.length ∧ zs.length ≤ cap := by simp only at hz; split at hz <;> omega
    refine ⟨zs.take len, by simp; omega, hl, by simp; unfold maxLen at hm; omega, fun n hn => bounds_u8 (hwz n (List.mem_of_mem_take hn)), fun j y hy => ?_⟩
    rw [List.getElem?_take] at hy
    split at hy
    · rename_i hj
      have hjz : j < zs.length := (List.getElem?_eq_some_iff.1 hy).1
      have hc := hcell j hjz
      have h0 := hcell 0 (by omega)
      have hspot : spot = none := by
        have := World.cell?_spot h0
        simpa [Addr.add] using this
      subst hspot
      refine ⟨b, off, rfl, ?_⟩
      have e : zs.getD j 0 = y := by simp [List.getD, hy]
      rw [e] at hc
      exact add_at hc
    · cases hy
theorem list5 {α : Type} (l : List α) (h : l.length = 5) : ∃ a0 a1 a2 a3 a4, l = [a0, a1, a2, a3, a4] := by
  match l, h with
  | [a0, a1, a2, a3, a4], _ => exact ⟨a0, a1, a2, a3, a4, rfl⟩
theorem cof_u8 : Try.prog.cellsOf 5 = 1 := by kernel_rfl
theorem cof_g12 : Try.prog.cellsOf 44 = 5 := by kernel_rfl
theorem open_g12 {r : Reach} {b0 : Nat} {v : Value} {d : DataW H} {p : List MemPlace} (hv : Value.okWide Try.prog w r b0 44 v) (h : DataW.Trod enc Try.prog w base spare held 44 v d p) :
    ∃ a0 a1 a2 a3 a4 : Int, v = .agg #[.int .u8 a0, .int .u8 a1, .int .u8 a2, .int .u8 a3, .int .u8 a4] ∧ (0 ≤ a0 ∧ a0 ≤ 255) ∧ (0 ≤ a1 ∧ a1 ≤ 255) ∧ (0 ≤ a2 ∧ a2 ≤ 255) ∧ (0 ≤ a3 ∧ a3 ≤ 255) ∧ (0 ≤ a4 ∧ a4 ≤ 255) := by
  obtain ⟨cs, rfl, hsz⟩ := okWide_struct Try.underlying44 hv
  obtain ⟨fuel, hf0⟩ := h
  have hf1 : DataW.trod enc Try.prog w base spare held fuel 44 cs.toList = some (d, p) := hf0
  obtain ⟨zs, m', hm', hz, hzlen, hzl, hg⟩ := DataW.trod_struct Try.underlying44 hf1
  rw [cof_g12] at hzlen
  obtain ⟨c0, c1, c2, c3, c4, hcs⟩ := list5 cs.toList hzlen
  rw [hcs] at hg
  have hzl5 : zs.length = 5 := hzl
  have k0 : DataW.trod enc Try.prog w base spare held m' 5 (([c0, c1, c2, c3, c4].drop 0).take (Try.prog.cellsOf 5)) = zs[0]? := hg 0 _ rfl
  have k1 : DataW.trod enc Try.prog w base spare held m' 5 (([c0, c1, c2, c3, c4].drop 1).take (Try.prog.cellsOf 5)) = zs[1]? := hg 1 _ rfl
  have k2 : DataW.trod enc Try.prog w base spare held m' 5 (([c0, c1, c2, c3, c4].drop 2).take (Try.prog.cellsOf 5)) = zs[2]? := hg 2 _ rfl
  have k3 : DataW.trod enc Try.prog w base spare held m' 5 (([c0, c1, c2, c3, c4].drop 3).take (Try.prog.cellsOf 5)) = zs[3]? := hg 3 _ rfl
  have k4 : DataW.trod enc Try.prog w base spare held m' 5 (([c0, c1, c2, c3, c4].drop 4).take (Try.prog.cellsOf 5)) = zs[4]? := hg 4 _ rfl
  rw [cof_u8] at k0 k1 k2 k3 k4
  obtain ⟨z0, s0⟩ := got k0 (by omega)
  obtain ⟨z1, s1⟩ := got k1 (by omega)
  obtain ⟨z2, s2⟩ := got k2 (by omega)
  obtain ⟨z3, s3⟩ := got k3 (by omega)
  obtain ⟨z4, s4⟩ := got k4 (by omega)
  obtain ⟨a0, e0, _, w0⟩ := DataW.trod_int Try.underlying5 s0
  obtain ⟨a1, e1, _, w1⟩ := DataW.trod_int Try.underlying5 s1
  obtain ⟨a2, e2, _, w2⟩ := DataW.trod_int Try.underlying5 s2
  obtain ⟨a3, e3, _, w3⟩ := DataW.trod_int Try.underlying5 s3
  obtain ⟨a4, e4, _, w4⟩ := DataW.trod_int Try.underlying5 s4
  simp at e0 e1 e2 e3 e4
  subst e0 e1 e2 e3 e4
  refine ⟨a0, a1, a2, a3, a4, ?_, bounds_u8 w0, bounds_u8 w1, bounds_u8 w2, bounds_u8 w3, bounds_u8 w4⟩
  obtain ⟨l⟩ := cs
  simp at hcs
  subst hcs
  rfl
end

end Go.Proofs.Ytdpefnebghljoaa
