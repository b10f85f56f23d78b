/- Table: the contracts as the laws use them. -/
import Derived.Test.YtamnmpcnhaeigaaTabX
import Derived.Test.YtamnmpcnhaeigaaTabZ
namespace Go.Proofs.Ytamnmpcnhaeigaa.TabI
open Go.RowKit
set_option linter.unusedVariables false

theorem get_flat_l (L : List (Int × Int)) (j : Nat) (x : Int × Int) (h : L[j]? = some x) : (flat L)[j * 2]? = some (kv x.1) ∧ (flat L)[j * 2 + 1]? = some (vv x.2) := by
  have := get_flat L [] j x h
  simpa using this

/-- A list of pairs of the call's own. -/
def ListAt (B : Nat) (w : World) (g : Option Addr) (xs : List (Int × Int)) : Prop := PairsAt w.heap.size w g xs ∧ ∀ a, g = some a → B ≤ a.block
theorem own_pairs {w : World} {base : Nat} {v : Value} {L : List (Int × Int)} (h : w.ownsRow base 25 2 v L.length (flat L)) : ∃ g c, v = .slice g L.length c ∧ ListAt base w g L := by
  rcases h.2 with ⟨rfl, h0⟩ | ⟨g, cap, cur, rfl, hb, hg, hn, hc, hsz, ht⟩
  · obtain rfl := List.eq_nil_of_length_eq_zero h0
    exact ⟨none, 0, rfl, fun j x hx => by simp at hx, fun a ha => by cases ha⟩
  · refine ⟨_, cap, rfl, fun j x hx => ⟨g, 0, rfl, heap_lt hg, ?_, ?_⟩, fun a ha => by cases ha; exact hb⟩
    · have hl := (List.getElem?_eq_some_iff.1 hx).1
      have h1 := (get_flat_l L j x hx).1
      rw [← ht, List.getElem?_take, if_pos (by omega)] at h1
      rw [Nat.zero_add]
      exact cell_of hg (by rw [← Array.getElem?_toList]; exact h1)
    · have hl := (List.getElem?_eq_some_iff.1 hx).1
      have h1 := (get_flat_l L j x hx).2
      rw [← ht, List.getElem?_take, if_pos (by omega)] at h1
      rw [Nat.zero_add]
      exact cell_of hg (by rw [← Array.getElem?_toList]; exact h1)

/-- What 'all' leaves. -/
def AllIs (w : World) (xs : List (Int × Int)) (e : Ending) (w' : World) : Prop := ∃ g c, e = .returned (.slice g xs.length c) ∧ ListAt w.heap.size w' g xs ∧ Fr [] w w'
theorem all_tab (B : Nat) (w : World) (p : Nat) (L : List (Int × Int)) (hn : L.length ≤ 60) (ht : TabAt B w p L) : Calls Try.prog 12 #[.pointer (some ⟨p, 0, none⟩)] w (AllIs w L) := by
  obtain ⟨s, hs, hr, _, _⟩ := ht.at_
  refine (all_any w p s L hn hs hr).mono ?_
  rintro e w' ⟨v, rfl, ho, f⟩
  obtain ⟨g, c, rfl, hl⟩ := own_pairs ho
  exact ⟨g, c, rfl, hl, f⟩
theorem least_tab (B : Nat) (w : World) (p : Nat) (L : List (Int × Int)) (hn : L.length ≤ 1000) (ht : TabAt B w p L) : Calls Try.prog 28 #[.pointer (some ⟨p, 0, none⟩)] w fun e w' => e = .returned (leastV L) ∧ Fr [] w w' := by
  obtain ⟨s, hs, hr, _, _⟩ := ht.at_
  exact least_any w p s L hn hs hr

theorem fill_eq (l : List (Int × Int)) : fillL l = fillG lt l := rfl
theorem put_eq (L : List (Int × Int)) (k v : Int) : put L k v = putG lt L k v := rfl
theorem drp_eq (L : List (Int × Int)) (k : Int) : drp L k = drpG lt L k := rfl
theorem got_of {L : List (Int × Int)} (hs : Rising lt L) {x : Int × Int} (hx : x ∈ L) : got L x.1 = x.2 := by
  unfold got
  rw [has_of ord hs hx, look_of ord hs hx]
  rfl

end Go.Proofs.Ytamnmpcnhaeigaa.TabI
