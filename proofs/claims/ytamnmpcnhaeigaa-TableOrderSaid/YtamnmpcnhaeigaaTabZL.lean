/- Table, the plain law of TableLatest: the last ones under their keys. No program. -/
import Derived.Test.YtamnmpcnhaeigaaTabZ
namespace Go.Proofs.Ytamnmpcnhaeigaa
section
variable {α β : Type} [DecidableEq α] {lt : α → α → Bool}

/-- Those behind which none has the same key. -/
def lastL : List (α × β) → List (α × β)
  | [] => []
  | x :: l => if x.1 ∈ l.map (·.1) then lastL l else x :: lastL l
theorem lastL_cons (x : α × β) (l : List (α × β)) : lastL (x :: l) = if x.1 ∈ l.map (·.1) then lastL l else x :: lastL l := rfl
theorem lastL_mem : ∀ {l : List (α × β)} {x : α × β}, x ∈ lastL l → x ∈ l
  | y :: l, x, h => by
    rw [lastL_cons] at h
    split at h
    · exact List.mem_cons_of_mem _ (lastL_mem h)
    · rcases List.mem_cons.1 h with rfl | h
      · exact List.mem_cons_self ..
      · exact List.mem_cons_of_mem _ (lastL_mem h)
theorem mem_lastL_snoc (y x : α × β) : ∀ l : List (α × β), x ∈ lastL (l ++ [y]) ↔ x = y ∨ (x ∈ lastL l ∧ x.1 ≠ y.1)
  | [] => by simp [lastL]
  | z :: l => by
    have ih := mem_lastL_snoc y x l
    rw [List.cons_append, lastL_cons, lastL_cons]
    by_cases h1 : z.1 ∈ l.map (·.1)
    · rw [if_pos (by simp only [List.map_append, List.mem_append]; exact .inl h1), if_pos h1]; exact ih
    · rw [if_neg h1]
      by_cases h2 : z.1 = y.1
      · rw [if_pos (by simp [h2]), ih]
        constructor
        · rintro (h | ⟨h, hn⟩)
          · exact .inl h
          · exact .inr ⟨List.mem_cons_of_mem _ h, hn⟩
        · rintro (h | ⟨h, hn⟩)
          · exact .inl h
          · rcases List.mem_cons.1 h with rfl | h
            · exact absurd h2 hn
            · exact .inr ⟨h, hn⟩
      · rw [if_neg (by simp only [List.map_append, List.mem_append, List.map_cons, List.map_nil, List.mem_singleton]; rintro (h | h); exact h1 h; exact h2 h), List.mem_cons, ih, List.mem_cons]
        constructor
        · rintro (rfl | h | ⟨h, hn⟩)
          · exact .inr ⟨.inl rfl, h2⟩
          · exact .inl h
          · exact .inr ⟨.inr h, hn⟩
        · rintro (h | ⟨rfl | h, hn⟩)
          · exact .inr (.inl h)
          · exact .inl rfl
          · exact .inr (.inr ⟨h, hn⟩)
theorem len_lastL_snoc (y : α × β) : ∀ l : List (α × β), (lastL (l ++ [y])).length = if y.1 ∈ l.map (·.1) then (lastL l).length else (lastL l).length + 1
  | [] => by simp [lastL]
  | z :: l => by
    have ih := len_lastL_snoc y l
    rw [List.cons_append, lastL_cons, lastL_cons]
    by_cases h1 : z.1 ∈ l.map (·.1)
    · rw [if_pos (by simp only [List.map_append, List.mem_append]; exact .inl h1), if_pos h1, ih]
      have : y.1 ∈ (z :: l).map (·.1) ↔ y.1 ∈ l.map (·.1) := by
        rw [List.map_cons, List.mem_cons]
        exact ⟨fun h => h.elim (fun h => h ▸ h1) id, .inr⟩
      simp only [this]
    · rw [if_neg h1]
      by_cases h2 : z.1 = y.1
      · rw [if_pos (by simp [h2]), ih, if_neg (by rw [← h2]; exact h1), if_pos (by simp [h2]), List.length_cons]
      · rw [if_neg (by simp only [List.map_append, List.mem_append, List.map_cons, List.map_nil, List.mem_singleton]; rintro (h | h); exact h1 h; exact h2 h), List.length_cons, ih, List.length_cons]
        have : y.1 ∈ (z :: l).map (·.1) ↔ y.1 ∈ l.map (·.1) := by
          rw [List.map_cons, List.mem_cons]
          exact ⟨fun h => h.elim (fun h => absurd h.symm h2) id, .inr⟩
        simp only [this]
        split <;> rfl
theorem mem_fill (o : KOrd lt) (l : List (α × β)) (x : α × β) : x ∈ fillG lt l ↔ x ∈ lastL l := by
  refine snoc_ind (P := fun l => x ∈ fillG lt l ↔ x ∈ lastL l) (by simp [fillG, lastL]) (fun l y h => ?_) l
  rw [fillG_snoc, mem_put o (up_fill o l), mem_lastL_snoc, h]
theorem len_fillG (o : KOrd lt) (l : List (α × β)) : (fillG lt l).length = (lastL l).length := by
  refine snoc_ind (P := fun l => (fillG lt l).length = (lastL l).length) rfl (fun l y h => ?_) l
  rw [fillG_snoc, len_putG, len_lastL_snoc, h]
  have e : has lt (fillG lt l) y.1 = true ↔ y.1 ∈ l.map (·.1) := by
    rw [has_fill o, List.mem_map]
  by_cases h1 : y.1 ∈ l.map (·.1)
  · rw [if_pos h1, if_pos (e.2 h1)]
  · rw [if_neg h1, if_neg (fun h => h1 (e.1 h))]

/-- The last one under key k, if there is one; else a. -/
def lastF (k : α) (a : β) (m : List (α × β)) : β := m.foldl (fun a x => if x.1 = k then x.2 else a) a
def anyK (k : α) (m : List (α × β)) : Bool := decide (k ∈ m.map (·.1))
theorem lastF_snoc (k : α) (a : β) (m : List (α × β)) (x : α × β) : lastF k a (m ++ [x]) = if x.1 = k then x.2 else lastF k a m := by simp [lastF]
theorem anyK_snoc (k : α) (m : List (α × β)) (x : α × β) : anyK k (m ++ [x]) = (anyK k m || decide (x.1 = k)) := by
  unfold anyK
  rw [List.map_append]
  simp only [List.mem_append, List.map_cons, List.map_nil, List.mem_singleton, Bool.decide_or]
  rw [show decide (k = x.1) = decide (x.1 = k) from decide_eq_decide.2 eq_comm]
theorem lastF_not {k : α} : ∀ {m : List (α × β)} (a : β), k ∉ m.map (·.1) → lastF k a m = a
  | [], _, _ => rfl
  | y :: m, a, h => by
    simp only [List.map_cons, List.mem_cons, not_or] at h
    show lastF k (if y.1 = k then y.2 else a) m = a
    rw [if_neg (fun e => h.1 e.symm)]
    exact lastF_not a h.2
theorem lastF_in {k : α} : ∀ {m : List (α × β)} (a : β), k ∈ m.map (·.1) → (k, lastF k a m) ∈ lastL m
  | y :: m, a, h => by
    show (k, lastF k (if y.1 = k then y.2 else a) m) ∈ lastL (y :: m)
    rw [lastL_cons]
    by_cases h1 : k ∈ m.map (·.1)
    · have := lastF_in (if y.1 = k then y.2 else a) h1
      split
      · exact this
      · exact List.mem_cons_of_mem _ this
    · have h2 : y.1 = k := by
        simp only [List.map_cons, List.mem_cons] at h
        exact (h.resolve_right h1).symm
      rw [lastF_not _ h1, if_pos h2, if_neg (by rw [h2]; exact h1)]
      rw [← h2]
      exact List.mem_cons_self ..
theorem lastL_drop {l : List (α × β)} {x : α × β} (i : Nat) (h : x ∈ lastL (l.drop i)) : x ∈ lastL l := by
  induction i with
  | zero => simpa using h
  | succ i ih =>
    refine ih ?_
    cases hd : l.drop i with
    | nil =>
      rw [← List.drop_drop, hd] at h
      simp [lastL] at h
    | cons y m =>
      rw [← List.drop_drop, hd] at h
      rw [lastL_cons]
      have h' : x ∈ lastL m := by simpa using h
      split
      · exact h'
      · exact List.mem_cons_of_mem _ h'
/-- One round of the count. -/
theorem last_round {l : List (α × β)} {i : Nat} {x : α × β} (hx : l[i]? = some x) :
    (x.1, lastF x.1 x.2 (l.drop (i + 1))) ∈ lastL l ∧ (lastL (l.drop i)).length = (if anyK x.1 (l.drop (i + 1)) then 0 else 1) + (lastL (l.drop (i + 1))).length := by
  have hl := (List.getElem?_eq_some_iff.1 hx)
  have hd : l.drop i = x :: l.drop (i + 1) := by
    rw [List.drop_eq_getElem_cons hl.1, hl.2]
  constructor
  · refine lastL_drop i ?_
    rw [hd, lastL_cons]
    by_cases h : x.1 ∈ (l.drop (i + 1)).map (·.1)
    · rw [if_pos h]; exact lastF_in _ h
    · rw [if_neg h, lastF_not _ h]; exact List.mem_cons_self ..
  · rw [hd, lastL_cons]
    unfold anyK
    by_cases h : x.1 ∈ (l.drop (i + 1)).map (·.1)
    · rw [if_pos h, decide_eq_true h]; simp
    · rw [if_neg h, decide_eq_false h]; simp; omega
end
end Go.Proofs.Ytamnmpcnhaeigaa
