/- Looking twice at a memory nobody else touches: what is known behind so many steps. -/
import Derived.Test.YtnjoefanafjniaaTwI
namespace Go.Proofs.Ytnjoefanafjniaa
open Go.RowKit

/-- The words of all slots. -/
def slotsX (c : ConfV) (M : List Int) : List Int := (List.range c.sl.toNat).map (fun k : Nat => loadV M (c.slot k))
theorem length_slotsX (c : ConfV) (M : List Int) : (slotsX c M).length = c.sl.toNat := by simp [slotsX]
theorem slotsX_at (c : ConfV) (M : List Int) {k : Nat} (hk : k < c.sl.toNat) : (slotsX c M).getD k 0 = loadV M (c.slot k) := by
  rw [List.getD_eq_getElem?_getD]
  unfold slotsX
  rw [List.getElem?_map, List.getElem?_range hk]
  rfl
theorem slotsX_drop {c : ConfV} {M : List Int} (hc : c.small) (hM : (M.length : Int) = c.cells) : M.drop (c.slot 0).toNat = slotsX c M := by
  obtain ⟨⟨h1, h2⟩, ⟨h3, h4⟩, -⟩ := hc
  have e0 : (c.slot 0).toNat = (3 + 2 * c.wo).toNat := by unfold ConfV.slot; congr 1; omega
  unfold ConfV.cells at hM
  refine List.ext_getElem? fun k => ?_
  rw [List.getElem?_drop, e0]
  by_cases hk : k < c.sl.toNat
  · unfold slotsX
    rw [List.getElem?_map, List.getElem?_range hk, Option.map_some]
    have hin : isIn M (c.slot k) = true := isIn_yes (by unfold ConfV.slot; omega) (by unfold ConfV.slot; omega)
    unfold loadV
    rw [if_pos hin, show (c.slot k).toNat = (3 + 2 * c.wo).toNat + k by unfold ConfV.slot; omega]
    exact getElem?_nat (by omega)
  · rw [List.getElem?_eq_none (by omega), List.getElem?_eq_none (by rw [length_slotsX]; omega)]
/-- Behind j steps. -/
def alone (S : Nat) (X : List Int) (j : Nat) : TwS := if j < S then ⟨X.take j, [], 0, false⟩ else if j < 2 * S then ⟨X.take (j - S), X, 1, false⟩ else ⟨[], X, 2, true⟩
theorem alone_zero {S : Nat} {X : List Int} (hS : 1 ≤ S) : alone S X 0 = ⟨[], [], 0, false⟩ := by unfold alone; rw [if_pos (by omega)]; rfl
theorem alone_end {S : Nat} {X : List Int} {j : Nat} (hj : 2 * S ≤ j) : alone S X j = ⟨[], X, 2, true⟩ := by unfold alone; rw [if_neg (by omega), if_neg (by omega)]
theorem alone_d (S : Nat) (X : List Int) (j : Nat) (hS : 1 ≤ S) : (alone S X j).d = decide (2 * S ≤ j) := by
  unfold alone
  by_cases h1 : j < S
  · rw [if_pos h1]; exact (decide_eq_false (by omega)).symm
  · rw [if_neg h1]
    by_cases h2 : j < 2 * S
    · rw [if_pos h2]; exact (decide_eq_false (by omega)).symm
    · rw [if_neg h2]; exact (decide_eq_true (by omega)).symm
theorem alone_n (S : Nat) (X : List Int) (j : Nat) : 0 ≤ (alone S X j).n ∧ (alone S X j).n ≤ 2 := by
  unfold alone
  split
  · exact ⟨Int.le_refl _, by show (0 : Int) ≤ 2; omega⟩
  · split
    · exact ⟨by show (0 : Int) ≤ 1; omega, by show (1 : Int) ≤ 2; omega⟩
    · exact ⟨by show (0 : Int) ≤ 2; omega, Int.le_refl _⟩
theorem alone_r (S : Nat) (X : List Int) (j : Nat) (hX : X.length = S) (hS : 1 ≤ S) : (alone S X j).r.length < S := by
  unfold alone
  split
  · simp only [List.length_take]; omega
  · split
    · simp only [List.length_take]; omega
    · simp only [List.length_nil]; omega
theorem alone_l (S : Nat) (X : List Int) (j : Nat) (hX : X.length = S) : (alone S X j).l.length ≤ S := by
  unfold alone
  split
  · simp
  · split <;> simp [hX]
theorem take_next {X : List Int} {k : Nat} (hk : k < X.length) : X.take k ++ [X.getD k 0] = X.take (k + 1) := by
  rw [take_snocI (getElem?_nat hk)]
theorem alone_step (S : Nat) (X : List Int) (j : Nat) (hX : X.length = S) (hS : 1 ≤ S) : (alone S X j).step S (X.getD (alone S X j).r.length 0) = alone S X (j + 1) := by
  by_cases h1 : j < S
  · have e : alone S X j = ⟨X.take j, [], 0, false⟩ := by unfold alone; rw [if_pos h1]
    rw [e]
    have el : (X.take j).length = j := by rw [List.length_take]; omega
    unfold TwS.step
    simp only
    rw [if_neg (by simp), el, take_next (by omega)]
    have el2 : (X.take (j + 1)).length = j + 1 := by rw [List.length_take]; omega
    rw [el2]
    by_cases h2 : j + 1 < S
    · rw [if_pos h2]; unfold alone; rw [if_pos h2]
    · rw [if_neg h2, List.take_of_length_le (by omega)]
      unfold alone
      rw [if_neg h2, if_pos (by omega), show j + 1 - S = 0 by omega]
      simp
  · by_cases h2 : j < 2 * S
    · have e : alone S X j = ⟨X.take (j - S), X, 1, false⟩ := by unfold alone; rw [if_neg h1, if_pos h2]
      rw [e]
      have el : (X.take (j - S)).length = j - S := by rw [List.length_take]; omega
      unfold TwS.step
      simp only
      rw [if_neg (by simp), el, take_next (by omega)]
      have el2 : (X.take (j - S + 1)).length = j - S + 1 := by rw [List.length_take]; omega
      rw [el2]
      by_cases h3 : j - S + 1 < S
      · rw [if_pos h3]; unfold alone; rw [if_neg (by omega), if_pos (by omega), show j + 1 - S = j - S + 1 by omega]
      · rw [if_neg h3, List.take_of_length_le (by omega), alone_end (by omega)]
        simp
    · rw [alone_end (by omega), alone_end (by omega)]
      unfold TwS.step
      rw [if_pos rfl]

end Go.Proofs.Ytnjoefanafjniaa
