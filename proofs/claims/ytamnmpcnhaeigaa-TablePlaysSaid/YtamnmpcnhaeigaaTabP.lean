/- Table, the plain law: put and drop on lists by rising keys. No program. -/
import Derived.Test.YtamnmpcnhaeigaaTabO
namespace Go.Proofs.Ytamnmpcnhaeigaa
section
variable {α β : Type} {lt : α → α → Bool}

theorem Rising.nil : Rising lt ([] : List (α × β)) := fun i j x y _ h => by simp at h
theorem rising_iff {L : List (α × β)} : Rising lt L ↔ L.Pairwise fun x y => lt x.1 y.1 = true := by
  rw [List.pairwise_iff_getElem]
  constructor
  · intro h i j hi hj hij
    exact h i j _ _ hij (List.getElem?_eq_getElem hi) (List.getElem?_eq_getElem hj)
  · intro h i j x y hij hx hy
    obtain ⟨hi, rfl⟩ := List.getElem?_eq_some_iff.1 hx
    obtain ⟨hj, rfl⟩ := List.getElem?_eq_some_iff.1 hy
    exact h i j hi hj hij
theorem Rising.sub {L M : List (α × β)} (h : Rising lt L) (s : M.Sublist L) : Rising lt M := rising_iff.2 ((rising_iff.1 h).sublist s)
theorem Rising.cut {L : List (α × β)} (h : Rising lt L) (i : Nat) : Rising lt (L.take i ++ L.drop (i + 1)) := by
  refine h.sub ?_
  have : (L.take i ++ L.drop (i + 1)).Sublist (L.take i ++ L.drop i) := by
    refine List.Sublist.append_left ?_ _
    rw [← List.drop_drop]
    exact List.drop_sublist _ _
  rwa [List.take_append_drop] at this
theorem has_key (o : KOrd lt) {L : List (α × β)} {k : α} (h : has lt L k = true) : ∃ u, L[at_ lt L k]? = some (k, u) := by
  unfold has at h
  cases hx : L[at_ lt L k]? with
  | none => rw [hx] at h; cases h
  | some x =>
    rw [hx] at h
    have h1 : lt k x.1 = false := by simpa using h
    have h2 := at_not lt hx
    exact ⟨x.2, by rw [← o.tri _ _ h2 h1]⟩
theorem not_has (o : KOrd lt) {L : List (α × β)} (hs : Rising lt L) {k : α} (h : has lt L k = false) {j : Nat} {x : α × β} (hj : at_ lt L k ≤ j) (hx : L[j]? = some x) : lt k x.1 = true := by
  have hl : j < L.length := (List.getElem?_eq_some_iff.1 hx).1
  obtain ⟨y, hy⟩ : ∃ y, L[at_ lt L k]? = some y := ⟨_, List.getElem?_eq_getElem (by omega)⟩
  unfold has at h
  rw [hy] at h
  have h0 : lt k y.1 = true := by simpa using h
  rcases Nat.lt_or_ge (at_ lt L k) j with h' | h'
  · exact o.trans _ _ _ h0 (hs _ _ _ _ h' hy hx)
  · obtain rfl : j = at_ lt L k := by omega
    rw [hx] at hy; cases hy; exact h0
theorem rising_set (o : KOrd lt) {L : List (α × β)} (hs : Rising lt L) {k : α} (h : has lt L k = true) (v : β) : Rising lt (L.set (at_ lt L k) (k, v)) := by
  obtain ⟨u, hu⟩ := has_key o h
  have key : ∀ (j : Nat) (x : α × β), (L.set (at_ lt L k) (k, v))[j]? = some x → ∃ y, L[j]? = some y ∧ y.1 = x.1 := fun j x hx => by
    by_cases hj : at_ lt L k = j
    · subst hj
      rw [List.getElem?_set_self (List.getElem?_eq_some_iff.1 hu).1] at hx
      cases hx
      exact ⟨_, hu, rfl⟩
    · rw [List.getElem?_set_ne hj] at hx; exact ⟨x, hx, rfl⟩
  intro i j x y hij hx hy
  obtain ⟨x', hx', ex⟩ := key i x hx
  obtain ⟨y', hy', ey⟩ := key j y hy
  rw [← ex, ← ey]
  exact hs i j _ _ hij hx' hy'
theorem rising_ins (o : KOrd lt) {L : List (α × β)} (hs : Rising lt L) {k : α} (h : has lt L k = false) (v : β) : Rising lt (L.take (at_ lt L k) ++ (k, v) :: L.drop (at_ lt L k)) := by
  rw [rising_iff, List.pairwise_append, List.pairwise_cons]
  have hp := rising_iff.1 hs
  refine ⟨hp.sublist (List.take_sublist _ _), ⟨fun x hx => ?_, hp.sublist (List.drop_sublist _ _)⟩, fun x hx y hy => ?_⟩
  · obtain ⟨j, hj⟩ := List.mem_iff_getElem?.1 hx
    rw [List.getElem?_drop] at hj
    exact not_has o hs h (by omega) hj
  · obtain ⟨i, hi⟩ := List.mem_iff_getElem?.1 hx
    rw [List.getElem?_take] at hi
    split at hi
    · rename_i hil
      have hlt := at_below lt hil hi
      rcases List.mem_cons.1 hy with rfl | hy
      · exact hlt
      · obtain ⟨j, hj⟩ := List.mem_iff_getElem?.1 hy
        rw [List.getElem?_drop] at hj
        exact hs _ _ _ _ (by omega) hi hj
    · cases hi
end
end Go.Proofs.Ytamnmpcnhaeigaa
