/- Table, the plain law of TablePlays: pairs in any order beside pairs by rising keys. No program. -/
import Derived.Test.YtamnmpcnhaeigaaTabZ
namespace Go.Proofs.Ytamnmpcnhaeigaa
abbrev PairL := List (Int × Int)
/-- No key twice. -/
def UnlikeZ (l : PairL) : Prop := (l.map (·.1)).Nodup

theorem UnlikeZ.inj {R : PairL} (h : UnlikeZ R) {i j : Nat} {x y : Int × Int} (hi : R[i]? = some x) (hj : R[j]? = some y) (e : x.1 = y.1) : i = j := by
  unfold UnlikeZ List.Nodup at h
  rw [List.pairwise_map, List.pairwise_iff_getElem] at h
  obtain ⟨hi1, rfl⟩ := List.getElem?_eq_some_iff.1 hi
  obtain ⟨hj1, rfl⟩ := List.getElem?_eq_some_iff.1 hj
  rcases Nat.lt_trichotomy i j with h1 | h1 | h1
  · exact absurd e (h i j hi1 hj1 h1)
  · exact h1
  · exact absurd e.symm (h j i hj1 hi1 h1)

/-- Where a key is. -/
def AtIs (R : PairL) (k : Int) (i : Int) : Prop := (i = -1 ∧ ∀ x ∈ R, x.1 ≠ k) ∨ ∃ (j : Nat) (u : Int), i = (j : Int) ∧ R[j]? = some (k, u)
def PutIs (R : PairL) (k v : Int) (R' : PairL) (b : Bool) : Prop := (b = false ∧ (∀ x ∈ R, x.1 ≠ k) ∧ R' = R ++ [(k, v)]) ∨ (b = true ∧ ∃ (j : Nat) (u : Int), R[j]? = some (k, u) ∧ R' = R.set j (k, v))
def GetIs (R : PairL) (k x : Int) (b : Bool) : Prop := (b = false ∧ x = 0 ∧ ∀ x ∈ R, x.1 ≠ k) ∨ (b = true ∧ ∃ j : Nat, R[j]? = some (k, x))
def DropIs (R : PairL) (k : Int) (R' : PairL) (b : Bool) : Prop := (b = false ∧ (∀ x ∈ R, x.1 ≠ k) ∧ R' = R) ∨ (b = true ∧ ∃ (j : Nat) (u : Int), R[j]? = some (k, u) ∧ R' = R.eraseIdx j)

/-- The same pairs. -/
structure Rel (R L : PairL) : Prop where
  mem : ∀ x, x ∈ R ↔ x ∈ L
  len : R.length = L.length
  un : UnlikeZ R
  up : Rising ltI L

theorem Rel.not {R L : PairL} (h : Rel R L) {k : Int} (hk : ∀ x ∈ R, x.1 ≠ k) : has ltI L k = false := by
  cases e : has ltI L k with
  | false => rfl
  | true =>
    obtain ⟨x, hx, e2⟩ := (has_iff ordI h.up k).1 e
    exact absurd e2 (hk x ((h.mem x).2 hx))
theorem Rel.yes {R L : PairL} (h : Rel R L) {j : Nat} {k u : Int} (hj : R[j]? = some (k, u)) : has ltI L k = true :=
  has_of ordI h.up ((h.mem _).1 (List.mem_of_getElem? hj))
theorem mem_set_un {R : PairL} (h : UnlikeZ R) {j : Nat} {k u : Int} (hj : R[j]? = some (k, u)) (v : Int) (x : Int × Int) : x ∈ R.set j (k, v) ↔ x = (k, v) ∨ (x ∈ R ∧ x.1 ≠ k) := by
  have hl := (List.getElem?_eq_some_iff.1 hj).1
  rw [List.mem_iff_getElem?]
  constructor
  · rintro ⟨i, hi⟩
    by_cases e : j = i
    · subst e
      rw [List.getElem?_set_self hl] at hi
      exact .inl (Option.some.inj hi).symm
    · rw [List.getElem?_set_ne e] at hi
      exact .inr ⟨List.mem_of_getElem? hi, fun e2 => e (h.inj hj hi e2.symm)⟩
  · rintro (rfl | ⟨hx, hne⟩)
    · exact ⟨j, List.getElem?_set_self hl⟩
    · obtain ⟨i, hi⟩ := List.mem_iff_getElem?.1 hx
      refine ⟨i, ?_⟩
      rw [List.getElem?_set_ne (fun e => ?_)]
      · exact hi
      · subst e
        rw [hj] at hi
        exact hne (by rw [← Option.some.inj hi])
theorem mem_erase_un {R : PairL} (h : UnlikeZ R) {j : Nat} {k u : Int} (hj : R[j]? = some (k, u)) (x : Int × Int) : x ∈ R.eraseIdx j ↔ x ∈ R ∧ x.1 ≠ k := by
  rw [List.mem_eraseIdx_iff_getElem?]
  constructor
  · rintro ⟨i, hne, hi⟩
    exact ⟨List.mem_of_getElem? hi, fun e => hne (h.inj hi hj e)⟩
  · rintro ⟨hx, hne⟩
    obtain ⟨i, hi⟩ := List.mem_iff_getElem?.1 hx
    refine ⟨i, fun e => ?_, hi⟩
    subst e
    rw [hj] at hi
    exact hne (by rw [← Option.some.inj hi])
theorem UnlikeZ.set {R : PairL} (h : UnlikeZ R) {j : Nat} {k u : Int} (hj : R[j]? = some (k, u)) (v : Int) : UnlikeZ (R.set j (k, v)) := by
  unfold UnlikeZ at h ⊢
  have e : (R.set j (k, v)).map (·.1) = R.map (·.1) := by
    rw [List.map_set]
    apply List.ext_getElem?
    intro i
    by_cases hij : j = i
    · subst hij
      rw [List.getElem?_set_self (by rw [List.length_map]; exact (List.getElem?_eq_some_iff.1 hj).1), List.getElem?_map, hj]; rfl
    · rw [List.getElem?_set_ne hij]
  rw [e]; exact h
theorem UnlikeZ.snoc {R : PairL} (h : UnlikeZ R) {k v : Int} (hk : ∀ x ∈ R, x.1 ≠ k) : UnlikeZ (R ++ [(k, v)]) := by
  unfold UnlikeZ List.Nodup at h ⊢
  rw [List.map_append, List.pairwise_append]
  refine ⟨h, by simp, fun a ha b hb => ?_⟩
  obtain ⟨x, hx, rfl⟩ := List.mem_map.1 ha
  simp at hb
  subst hb
  exact hk x hx
theorem UnlikeZ.erase {R : PairL} (h : UnlikeZ R) (j : Nat) : UnlikeZ (R.eraseIdx j) :=
  List.Pairwise.sublist ((List.eraseIdx_sublist R j).map _) h

theorem rel_put {R L R' : PairL} {k v : Int} {b : Bool} (h : Rel R L) (hp : PutIs R k v R' b) : Rel R' (putG ltI L k v) ∧ b = has ltI L k := by
  rcases hp with ⟨rfl, hn, rfl⟩ | ⟨rfl, j, u, hj, rfl⟩
  · have hh := h.not hn
    refine ⟨⟨fun x => ?_, ?_, h.un.snoc hn, up_put ordI h.up k v⟩, hh.symm⟩
    · rw [mem_put ordI h.up, List.mem_append, List.mem_singleton, ← h.mem x]
      exact ⟨fun hx => hx.elim (fun hx => .inr ⟨hx, hn x hx⟩) .inl, fun hx => hx.elim .inr (fun hx => .inl hx.1)⟩
    · rw [len_putG, hh, List.length_append, h.len]; rfl
  · have hh := h.yes hj
    refine ⟨⟨fun x => ?_, ?_, h.un.set hj v, up_put ordI h.up k v⟩, hh.symm⟩
    · rw [mem_put ordI h.up, mem_set_un h.un hj, h.mem x]
    · rw [len_putG, hh, List.length_set, h.len]; rfl
theorem rel_drop {R L R' : PairL} {k : Int} {b : Bool} (h : Rel R L) (hp : DropIs R k R' b) : Rel R' (drpG ltI L k) ∧ b = has ltI L k := by
  rcases hp with ⟨rfl, hn, rfl⟩ | ⟨rfl, j, u, hj, rfl⟩
  · have hh := h.not hn
    have hd : drpG ltI L k = L := by unfold drpG; rw [hh]; rfl
    rw [hd]
    exact ⟨h, hh.symm⟩
  · have hh := h.yes hj
    refine ⟨⟨fun x => ?_, ?_, h.un.erase j, up_drp h.up k⟩, hh.symm⟩
    · rw [mem_drp ordI h.up, mem_erase_un h.un hj, h.mem x]
    · rw [len_drpG, hh, List.length_eraseIdx, if_pos (List.getElem?_eq_some_iff.1 hj).1, h.len]; rfl
theorem rel_get {R L : PairL} {k x : Int} {b : Bool} (h : Rel R L) (hp : GetIs R k x b) : b = has ltI L k ∧ (b = false → x = 0) ∧ (b = true → (k, x) ∈ L) := by
  rcases hp with ⟨rfl, rfl, hn⟩ | ⟨rfl, j, hj⟩
  · exact ⟨(h.not hn).symm, fun _ => rfl, fun e => (by cases e)⟩
  · exact ⟨(h.yes hj).symm, fun e => (by cases e), fun _ => (h.mem _).1 (List.mem_of_getElem? hj)⟩
theorem take_erase {R : PairL} {i j : Nat} {x : Int × Int} (hx : R[j]? = some x) : (R.take (j + 1)).eraseIdx i = (R.take j).eraseIdx i ++ if j = i then [] else [x] := by
  have hl := (List.getElem?_eq_some_iff.1 hx).1
  have ht : (R.take j).length = j := by rw [List.length_take]; omega
  rw [List.take_add_one, hx]
  rcases Nat.lt_trichotomy i j with h | h | h
  · rw [if_neg (by omega)]
    exact List.eraseIdx_append_of_lt_length (by omega) _
  · subst h
    rw [if_pos rfl, List.append_nil, List.eraseIdx_append_of_length_le (by omega), ht, Nat.sub_self, List.eraseIdx_of_length_le (l := R.take i) (by omega)]
    simp
  · rw [if_neg (by omega), List.eraseIdx_append_of_length_le (by omega), ht, List.eraseIdx_of_length_le (l := R.take j) (by omega)]
    obtain ⟨d, hd⟩ : ∃ d, i - j = d + 1 := ⟨i - j - 1, by omega⟩
    rw [hd]
    rfl

/-- Behind the first n by rising keys: is it to be told yet? -/
def Elig (L : PairL) (n : Nat) (x : Int × Int) : Prop := n = 0 ∨ ∃ y, L[n - 1]? = some y ∧ y.1 < x.1
theorem elig_idx {L : PairL} (hs : Rising ltI L) {n q : Nat} {x : Int × Int} (hq : L[q]? = some x) (h : Elig L n x) : n ≤ q := by
  rcases h with rfl | ⟨y, hy, hlt⟩
  · exact Nat.zero_le _
  · rcases Nat.lt_or_ge q n with hqn | hqn
    · exfalso
      rcases Nat.lt_or_ge q (n - 1) with h1 | h1
      · have := hs q (n - 1) _ _ h1 hq hy
        simp only [ltI, decide_eq_true_eq] at this
        omega
      · have e : q = n - 1 := by omega
        rw [e, hy] at hq
        have e2 := Option.some.inj hq
        rw [e2] at hlt
        omega
    · exact hqn
theorem elig_at {L : PairL} (hs : Rising ltI L) {n : Nat} {x : Int × Int} (hx : L[n]? = some x) : Elig L n x := by
  by_cases h : n = 0
  · exact .inl h
  · right
    have hl := (List.getElem?_eq_some_iff.1 hx).1
    refine ⟨_, List.getElem?_eq_getElem (by omega : n - 1 < L.length), ?_⟩
    have := hs (n - 1) n _ _ (by omega) (List.getElem?_eq_getElem (by omega)) hx
    simpa only [ltI, decide_eq_true_eq] using this
/-- The best one so far. -/
def Best (R L : PairL) (n i : Nat) (b : Int) : Prop :=
  (b = -1 ∧ ∀ (j : Nat) (x : Int × Int), j < i → R[j]? = some x → ¬ Elig L n x) ∨ ∃ (m : Nat) (y : Int × Int), b = (m : Int) ∧ m < i ∧ R[m]? = some y ∧ Elig L n y ∧ ∀ (j : Nat) (x : Int × Int), j < i → R[j]? = some x → Elig L n x → y.1 ≤ x.1
theorem best_end {R L : PairL} (h : Rel R L) {n : Nat} {b : Int} (hn : n < L.length) (hb : Best R L n R.length b) : ∃ m : Nat, b = (m : Int) ∧ R[m]? = L[n]? := by
  obtain ⟨x, hx⟩ : ∃ x, L[n]? = some x := ⟨_, List.getElem?_eq_getElem hn⟩
  have hxR : x ∈ R := (h.mem x).2 (List.mem_of_getElem? hx)
  obtain ⟨j, hj⟩ := List.mem_iff_getElem?.1 hxR
  have hjl := (List.getElem?_eq_some_iff.1 hj).1
  have he := elig_at h.up hx
  rcases hb with ⟨_, hno⟩ | ⟨m, y, hm, hml, hy, hye, hmin⟩
  · exact absurd he (hno j x hjl hj)
  · refine ⟨m, hm, ?_⟩
    have hle := hmin j x hjl hj he
    obtain ⟨q, hq⟩ := List.mem_iff_getElem?.1 ((h.mem y).1 (List.mem_of_getElem? hy))
    have hnq := elig_idx h.up hq hye
    rcases Nat.lt_or_ge n q with h1 | h1
    · have := h.up n q _ _ h1 hx hq
      simp only [ltI, decide_eq_true_eq] at this
      omega
    · have e : q = n := by omega
      rw [e] at hq
      rw [hy, hq]
theorem best_none {R L : PairL} {n i : Nat} {b : Int} {x : Int × Int} (h : Best R L n i b) (hx : R[i]? = some x) (he : ¬ Elig L n x) : Best R L n (i + 1) b := by
  rcases h with ⟨rfl, hno⟩ | ⟨m, y, rfl, hml, hy, hye, hmin⟩
  · refine .inl ⟨rfl, fun j z hj hz => ?_⟩
    rcases Nat.lt_or_ge j i with h1 | h1
    · exact hno j z h1 hz
    · have e : j = i := by omega
      rw [e, hx] at hz
      rw [← Option.some.inj hz]; exact he
  · refine .inr ⟨m, y, rfl, by omega, hy, hye, fun j z hj hz hze => ?_⟩
    rcases Nat.lt_or_ge j i with h1 | h1
    · exact hmin j z h1 hz hze
    · have e : j = i := by omega
      rw [e, hx] at hz
      rw [← Option.some.inj hz] at hze
      exact absurd hze he
theorem best_keep {R L : PairL} {n i m : Nat} {x y : Int × Int} (h : Best R L n i (m : Int)) (hm : R[m]? = some y) (hx : R[i]? = some x) (hle : y.1 ≤ x.1) : Best R L n (i + 1) (m : Int) := by
  rcases h with ⟨e, _⟩ | ⟨m', y', e, hml, hy, hye, hmin⟩
  · omega
  · have e2 : m' = m := by omega
    subst e2
    rw [hm] at hy
    have e3 := Option.some.inj hy
    subst e3
    refine .inr ⟨m', y, e, by omega, hm, hye, fun j z hj hz hze => ?_⟩
    rcases Nat.lt_or_ge j i with h1 | h1
    · exact hmin j z h1 hz hze
    · have e : j = i := by omega
      rw [e, hx] at hz
      rw [← Option.some.inj hz]; exact hle
theorem best_new {R L : PairL} {n i : Nat} {b : Int} {x : Int × Int} (h : Best R L n i b) (hx : R[i]? = some x) (he : Elig L n x) (hlt : b = -1 ∨ ∃ (m : Nat) (y : Int × Int), b = (m : Int) ∧ R[m]? = some y ∧ x.1 < y.1) : Best R L n (i + 1) (i : Int) := by
  refine .inr ⟨i, x, rfl, by omega, hx, he, fun j z hj hz hze => ?_⟩
  rcases Nat.lt_or_ge j i with h1 | h1
  · rcases h with ⟨rfl, hno⟩ | ⟨m, y, rfl, hml, hy, hye, hmin⟩
    · exact absurd hze (hno j z h1 hz)
    · rcases hlt with hlt | ⟨m', y', e, hm', hlt⟩
      · omega
      · have e2 : m' = m := by omega
        rw [e2, hy] at hm'
        rw [← Option.some.inj hm'] at hlt
        have := hmin j z h1 hz hze
        omega
  · have e : j = i := by omega
    rw [e, hx] at hz
    rw [← Option.some.inj hz]; exact Int.le_refl _

end Go.Proofs.Ytamnmpcnhaeigaa
