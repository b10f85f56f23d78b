/- Table, the plain law: what is in a list by rising keys behind put and drop. No program. -/
import Derived.Test.YtamnmpcnhaeigaaTabP
namespace Go.Proofs.Ytamnmpcnhaeigaa
section
variable {α β : Type} {lt : α → α → Bool}

def putG (lt : α → α → Bool) (L : List (α × β)) (k : α) (v : β) : List (α × β) := if has lt L k then L.set (at_ lt L k) (k, v) else L.take (at_ lt L k) ++ (k, v) :: L.drop (at_ lt L k)
def drpG (lt : α → α → Bool) (L : List (α × β)) (k : α) : List (α × β) := if has lt L k then L.take (at_ lt L k) ++ L.drop (at_ lt L k + 1) else L
/-- What stands under a key. -/
def lookG (lt : α → α → Bool) (L : List (α × β)) (k : α) : Option β := (L[at_ lt L k]?).map (·.2)

theorem idx_of (o : KOrd lt) {L : List (α × β)} (hs : Rising lt L) {j : Nat} {x : α × β} (hx : L[j]? = some x) : at_ lt L x.1 = j := by
  have hl := (List.getElem?_eq_some_iff.1 hx).1
  rcases Nat.lt_trichotomy (at_ lt L x.1) j with h | h | h
  · have h1 := hs _ _ _ _ h (List.getElem?_eq_getElem (by omega)) hx
    have h2 := at_not lt (L := L) (k := x.1) (List.getElem?_eq_getElem (by omega))
    rw [h1] at h2; cases h2
  · exact h
  · have := at_below lt h hx
    rw [o.irrefl] at this; cases this
theorem has_of (o : KOrd lt) {L : List (α × β)} (hs : Rising lt L) {x : α × β} (hx : x ∈ L) : has lt L x.1 = true := by
  obtain ⟨j, hj⟩ := List.mem_iff_getElem?.1 hx
  unfold has
  rw [idx_of o hs hj, hj]
  simp [o.irrefl]
theorem has_iff (o : KOrd lt) {L : List (α × β)} (hs : Rising lt L) (k : α) : has lt L k = true ↔ ∃ x ∈ L, x.1 = k := by
  constructor
  · intro h
    obtain ⟨u, hu⟩ := has_key o h
    exact ⟨_, List.mem_of_getElem? hu, rfl⟩
  · rintro ⟨x, hx, rfl⟩
    exact has_of o hs hx
theorem look_of (o : KOrd lt) {L : List (α × β)} (hs : Rising lt L) {x : α × β} (hx : x ∈ L) : L[at_ lt L x.1]? = some x := by
  obtain ⟨j, hj⟩ := List.mem_iff_getElem?.1 hx
  rw [idx_of o hs hj, hj]
theorem one_of (o : KOrd lt) {L : List (α × β)} (hs : Rising lt L) {x y : α × β} (hx : x ∈ L) (hy : y ∈ L) (h : x.1 = y.1) : x = y := by
  have h1 := look_of o hs hx
  rw [h, look_of o hs hy] at h1
  exact (Option.some.inj h1).symm

theorem mem_put (o : KOrd lt) {L : List (α × β)} (hs : Rising lt L) (k : α) (v : β) (x : α × β) : x ∈ putG lt L k v ↔ x = (k, v) ∨ (x ∈ L ∧ x.1 ≠ k) := by
  unfold putG
  cases hh : has lt L k with
  | true =>
    simp only [if_true]
    obtain ⟨u, hu⟩ := has_key o hh
    have hl := (List.getElem?_eq_some_iff.1 hu).1
    rw [List.mem_iff_getElem?]
    constructor
    · rintro ⟨j, hj⟩
      by_cases h : at_ lt L k = j
      · subst h
        rw [List.getElem?_set_self hl] at hj
        exact .inl (Option.some.inj hj).symm
      · rw [List.getElem?_set_ne h] at hj
        exact .inr ⟨List.mem_of_getElem? hj, fun e => h (e ▸ idx_of o hs hj)⟩
    · rintro (rfl | ⟨hx, hne⟩)
      · exact ⟨_, List.getElem?_set_self hl⟩
      · obtain ⟨j, hj⟩ := List.mem_iff_getElem?.1 hx
        refine ⟨j, ?_⟩
        rw [List.getElem?_set_ne (fun h => ?_)]
        · exact hj
        · subst h
          rw [hj] at hu
          exact hne (by rw [Option.some.inj hu])
  | false =>
    simp only [Bool.false_eq_true, if_false, List.mem_append, List.mem_cons]
    have hk : x ∈ L → x.1 ≠ k := fun hx e => by
      have := has_of o hs hx
      rw [e, hh] at this; cases this
    have hm : x ∈ L ↔ x ∈ L.take (at_ lt L k) ∨ x ∈ L.drop (at_ lt L k) := by
      conv => lhs; rw [← List.take_append_drop (at_ lt L k) L]
      exact List.mem_append
    constructor
    · rintro (h | h | h)
      · exact .inr ⟨hm.2 (.inl h), hk (hm.2 (.inl h))⟩
      · exact .inl h
      · exact .inr ⟨hm.2 (.inr h), hk (hm.2 (.inr h))⟩
    · rintro (h | ⟨h, _⟩)
      · exact .inr (.inl h)
      · exact (hm.1 h).imp id .inr
theorem mem_drp (o : KOrd lt) {L : List (α × β)} (hs : Rising lt L) (k : α) (x : α × β) : x ∈ drpG lt L k ↔ x ∈ L ∧ x.1 ≠ k := by
  unfold drpG
  cases hh : has lt L k with
  | true =>
    simp only [if_true, List.mem_append]
    obtain ⟨u, hu⟩ := has_key o hh
    constructor
    · rintro (h | h)
      · obtain ⟨j, hj⟩ := List.mem_iff_getElem?.1 h
        rw [List.getElem?_take] at hj
        split at hj
        · exact ⟨List.mem_of_getElem? hj, fun e => by have := idx_of o hs hj; rw [e] at this; omega⟩
        · cases hj
      · obtain ⟨j, hj⟩ := List.mem_iff_getElem?.1 h
        rw [List.getElem?_drop] at hj
        exact ⟨List.mem_of_getElem? hj, fun e => by have := idx_of o hs hj; rw [e] at this; omega⟩
    · rintro ⟨hx, hne⟩
      obtain ⟨j, hj⟩ := List.mem_iff_getElem?.1 hx
      have hji : j ≠ at_ lt L k := fun h => by
        subst h
        rw [hj] at hu
        exact hne (by rw [Option.some.inj hu])
      rcases Nat.lt_or_ge j (at_ lt L k) with h | h
      · refine .inl (List.mem_iff_getElem?.2 ⟨j, ?_⟩)
        rw [List.getElem?_take, if_pos h]; exact hj
      · refine .inr (List.mem_iff_getElem?.2 ⟨j - (at_ lt L k + 1), ?_⟩)
        rw [List.getElem?_drop, show at_ lt L k + 1 + (j - (at_ lt L k + 1)) = j by omega]; exact hj
  | false =>
    simp only [Bool.false_eq_true, if_false]
    refine ⟨fun hx => ⟨hx, fun e => ?_⟩, fun h => h.1⟩
    have := has_of o hs hx
    rw [e, hh] at this; cases this
theorem up_put (o : KOrd lt) {L : List (α × β)} (hs : Rising lt L) (k : α) (v : β) : Rising lt (putG lt L k v) := by
  unfold putG
  cases hh : has lt L k with
  | true => simp only [if_true]; exact rising_set o hs hh v
  | false => simp only [Bool.false_eq_true, if_false]; exact rising_ins o hs hh v
theorem up_drp {L : List (α × β)} (hs : Rising lt L) (k : α) : Rising lt (drpG lt L k) := by
  unfold drpG
  split
  · exact hs.cut _
  · exact hs
theorem len_putG (L : List (α × β)) (k : α) (v : β) : (putG lt L k v).length = if has lt L k then L.length else L.length + 1 := by
  unfold putG; split
  · exact List.length_set
  · simp only [List.length_append, List.length_take, List.length_cons, List.length_drop]; omega
theorem at_lt {L : List (α × β)} {k : α} (h : has lt L k = true) : at_ lt L k < L.length := by
  rcases Nat.lt_or_ge (at_ lt L k) L.length with h' | h'
  · exact h'
  · simp [has, List.getElem?_eq_none h'] at h
theorem len_drpG (L : List (α × β)) (k : α) : (drpG lt L k).length = if has lt L k then L.length - 1 else L.length := by
  unfold drpG
  split
  · rename_i h
    have := at_lt h
    simp only [List.length_append, List.length_take, List.length_drop]; omega
  · rfl
theorem rising_ext (o : KOrd lt) : ∀ {L M : List (α × β)}, Rising lt L → Rising lt M → (∀ x, x ∈ L ↔ x ∈ M) → L = M
  | [], [], _, _, _ => rfl
  | [], y :: M, _, _, h => absurd ((h y).2 (List.mem_cons_self ..)) (by simp)
  | x :: L, [], _, _, h => absurd ((h x).1 (List.mem_cons_self ..)) (by simp)
  | x :: L, y :: M, hL, hM, h => by
    have pL := List.pairwise_cons.1 (rising_iff.1 hL)
    have pM := List.pairwise_cons.1 (rising_iff.1 hM)
    have hxy : x = y := by
      rcases List.mem_cons.1 ((h x).1 (List.mem_cons_self ..)) with e | hx
      · exact e
      · rcases List.mem_cons.1 ((h y).2 (List.mem_cons_self ..)) with e | hy
        · exact e.symm
        · have h1 := pM.1 x hx
          have h2 := pL.1 y hy
          rw [o.asymm h1] at h2; cases h2
    subst hxy
    rw [rising_ext o (rising_iff.2 pL.2) (rising_iff.2 pM.2) fun z => ?_]
    constructor
    · intro hz
      rcases List.mem_cons.1 ((h z).1 (List.mem_cons_of_mem _ hz)) with e | h'
      · subst e; have := pL.1 _ hz; rw [o.irrefl] at this; cases this
      · exact h'
    · intro hz
      rcases List.mem_cons.1 ((h z).2 (List.mem_cons_of_mem _ hz)) with e | h'
      · subst e; have := pM.1 _ hz; rw [o.irrefl] at this; cases this
      · exact h'

/-- Pairs put one behind the other. -/
def fillG (lt : α → α → Bool) (l : List (α × β)) : List (α × β) := l.foldl (fun L x => putG lt L x.1 x.2) []
theorem fillG_snoc (l : List (α × β)) (x : α × β) : fillG lt (l ++ [x]) = putG lt (fillG lt l) x.1 x.2 := by simp [fillG]
/-- Induction from the end. -/
theorem snoc_ind {γ : Type} {P : List γ → Prop} (h0 : P []) (h1 : ∀ l x, P l → P (l ++ [x])) (l : List γ) : P l := by
  have : ∀ (n : Nat) (l : List γ), l.length = n → P l := by
    intro n
    induction n with
    | zero => intro l hl; rw [List.eq_nil_of_length_eq_zero hl]; exact h0
    | succ n ih =>
      intro l hl
      have hne : l ≠ [] := fun h => by rw [h] at hl; cases hl
      rw [← List.dropLast_concat_getLast hne]
      exact h1 _ _ (ih _ (by rw [List.length_dropLast, hl]; rfl))
  exact this _ l rfl
theorem up_fill (o : KOrd lt) (l : List (α × β)) : Rising lt (fillG lt l) := by
  refine snoc_ind (P := fun l => Rising lt (fillG lt l)) Rising.nil (fun l x h => ?_) l
  rw [fillG_snoc]; exact up_put o h _ _
theorem has_fill (o : KOrd lt) (l : List (α × β)) (k : α) : has lt (fillG lt l) k = true ↔ ∃ x ∈ l, x.1 = k := by
  refine snoc_ind (P := fun l => has lt (fillG lt l) k = true ↔ ∃ x ∈ l, x.1 = k) ?_ (fun l x h => ?_) l
  · simp [fillG, has]
  · rw [has_iff o (up_fill o _)] at h ⊢
    rw [fillG_snoc]
    simp only [mem_put o (up_fill o l), List.mem_append, List.mem_singleton]
    constructor
    · rintro ⟨y, (rfl | ⟨hy, hne⟩), rfl⟩
      · exact ⟨x, .inr rfl, rfl⟩
      · obtain ⟨z, hz, e⟩ := h.1 ⟨y, hy, rfl⟩
        exact ⟨z, .inl hz, e⟩
    · rintro ⟨y, (hy | rfl), rfl⟩
      · by_cases e : y.1 = x.1
        · exact ⟨(x.1, x.2), .inl rfl, e.symm⟩
        · obtain ⟨z, hz, e2⟩ := h.2 ⟨y, hy, rfl⟩
          exact ⟨z, .inr ⟨hz, by rw [e2]; exact e⟩, e2⟩
      · exact ⟨(y.1, y.2), .inl rfl, rfl⟩
theorem has_drp (o : KOrd lt) {L : List (α × β)} (hs : Rising lt L) (k : α) : has lt (drpG lt L k) k = false := by
  cases e : has lt (drpG lt L k) k with
  | false => rfl
  | true =>
    obtain ⟨x, hx, e2⟩ := (has_iff o (up_drp hs k) k).1 e
    exact absurd e2 ((mem_drp o hs k x).1 hx).2
end
end Go.Proofs.Ytamnmpcnhaeigaa
