/- The layer 'entry': what is encoded is decoded, in plain Lean; bytes as texts. -/
import Derived.Test.YtphnjgkaapfocaaEntS
import Derived.Laws.BytesArg
namespace Go.Proofs.Ytphnjgkaapfocaa
open Go.RowKit

theorem sum_bits : ∀ n : Nat, n < 8 → sumV (decide ((n : Int) % 2 = 1)) (decide ((n : Int) / 2 % 2 = 1)) (decide ((n : Int) / 4 % 2 = 1)) = n := by decide
theorem sum_back (a b c : Bool) : decide (sumV a b c % 2 = 1) = a ∧ decide (sumV a b c / 2 % 2 = 1) = b ∧ decide (sumV a b c / 4 % 2 = 1) = c ∧ 0 ≤ sumV a b c ∧ sumV a b c ≤ 7 := by cases a <;> cases b <;> cases c <;> decide
theorem length_form (x : EntV) : x.form.length = 12 := rfl
theorem ofB_form (x : EntV) (f : Nat → Int) (hf : ∀ i, i < 12 → f i = x.form.getD i 0) : ofB f = x := by
  obtain ⟨kind, who, op, dl, wait, force, slot, gen, stream, n, good⟩ := x
  have hs := sum_back wait force good
  simp only [ofB, hf 0 (by omega), hf 1 (by omega), hf 2 (by omega), hf 3 (by omega), hf 4 (by omega), hf 5 (by omega), hf 6 (by omega), hf 7 (by omega), hf 8 (by omega), hf 9 (by omega), hf 10 (by omega), hf 11 (by omega), EntV.form, List.getD_cons_zero, List.getD_cons_succ, hs.1, hs.2.1, hs.2.2.1, EntV.mk.injEq, true_and, and_true]
  refine ⟨?_, ?_, ?_⟩ <;> omega
theorem form_ofB (f : Nat → Int) (hf : ∀ i, i < 12 → 0 ≤ f i ∧ f i ≤ 255) (h3 : f 3 ≤ 7) : (ofB f).form = (List.range 12).map f := by
  have h6 := hf 6 (by omega); have h7 := hf 7 (by omega); have h8 := hf 8 (by omega); have h9 := hf 9 (by omega); have h10 := hf 10 (by omega); have h11 := hf 11 (by omega); have h30 := hf 3 (by omega)
  have hs := sum_bits (f 3).toNat (by omega)
  rw [Int.toNat_of_nonneg h30.1] at hs
  have e : ∀ a b : Int, 0 ≤ a → a ≤ 255 → (a + 256 * b) % 256 = a ∧ (a + 256 * b) / 256 = b := fun a b h1 h2 => by omega
  simp only [EntV.form, ofB, hs, (e _ (f 7) h6.1 h6.2).1, (e _ (f 7) h6.1 h6.2).2, (e _ (f 9) h8.1 h8.2).1, (e _ (f 9) h8.1 h8.2).2, (e _ (f 11) h10.1 h10.2).1, (e _ (f 11) h10.1 h10.2).2]
  rfl
theorem forms_append (L M : List EntV) : forms (L ++ M) = forms L ++ forms M := by simp [forms]
theorem forms_getD : ∀ (L : List EntV) (k i : Nat) (x : EntV), L[k]? = some x → i < 12 → (forms L).getD (12 * k + i) 0 = x.form.getD i 0
  | [], _, _, _, h, _ => by simp at h
  | a :: t, 0, i, x, h, hi => by
    simp only [List.getElem?_cons_zero, Option.some.injEq] at h
    subst h
    rw [show forms (a :: t) = a.form ++ forms t from List.flatMap_cons]
    simp only [List.getD_eq_getElem?_getD, Nat.mul_zero, Nat.zero_add]
    rw [List.getElem?_append_left (by rw [length_form]; exact hi)]
  | a :: t, k + 1, i, x, h, hi => by
    rw [List.getElem?_cons_succ] at h
    have := forms_getD t k i x h hi
    rw [show forms (a :: t) = a.form ++ forms t from List.flatMap_cons]
    simp only [List.getD_eq_getElem?_getD] at this ⊢
    rw [List.getElem?_append_right (by rw [length_form]; omega), length_form, show 12 * (k + 1) + i - 12 = 12 * k + i by omega]
    exact this
theorem entB_forms {L : List EntV} {k : Nat} {x : EntV} (h : L[k]? = some x) : entB (forms L) k = x := ofB_form x _ (fun i hi => forms_getD L k i x h hi)
theorem okB_forms {L : List EntV} {k : Nat} {x : EntV} (h : L[k]? = some x) (hx : x.ok) : okB (forms L) k := by
  refine ⟨?_, by rw [entB_forms h]; exact hx⟩
  rw [forms_getD L k 3 x h (by omega)]
  exact (sum_back x.wait x.force x.good).2.2.2.2
theorem entsB_forms (L : List EntV) : entsB (forms L) L.length = L := by
  refine List.ext_getElem? fun k => ?_
  rcases Nat.lt_or_ge k L.length with h | h
  · have hx : L[k]? = some L[k] := List.getElem?_eq_getElem h
    rw [hx]
    simp [entsB, h, entB_forms hx]
  · rw [List.getElem?_eq_none h, List.getElem?_eq_none (by rw [length_entsB]; exact h)]
theorem forms_entsB {B : List Int} (hb : ∀ x ∈ B, 0 ≤ x ∧ x ≤ 255) : ∀ m : Nat, 12 * m ≤ B.length → (∀ k, k < m → okB B k) → forms (entsB B m) = B.take (12 * m)
  | 0, _, _ => by simp [entsB, forms]
  | m + 1, hl, hk => by
    rw [entsB_succ, forms_append, forms_entsB hb m (by omega) (fun k h => hk k (by omega))]
    have h1 : forms [entB B m] = (List.range 12).map (fun i => B.getD (12 * m + i) 0) := by
      simp only [forms, List.flatMap_cons, List.flatMap_nil, List.append_nil]
      exact form_ofB _ (fun i _ => byte_of hb _) (hk m (by omega)).1
    rw [h1]
    refine List.ext_getElem? fun j => ?_
    rcases Nat.lt_or_ge j (12 * m) with h | h
    · rw [List.getElem?_append_left (by rw [List.length_take]; omega), List.getElem?_take, List.getElem?_take, if_pos h, if_pos (by omega)]
    · rw [List.getElem?_append_right (by rw [List.length_take]; omega), List.length_take, Nat.min_eq_left (by omega), List.getElem?_take]
      split
      · rename_i hj
        have hj2 : j < B.length := by omega
        rw [List.getElem?_map, List.getElem?_range (by omega)]
        simp only [Option.map_some, List.getD_eq_getElem?_getD]
        rw [show 12 * m + (j - 12 * m) = j by omega, List.getElem?_eq_getElem hj2]
        rfl
      · rw [List.getElem?_eq_none (by simp; omega)]
theorem forms_take (L : List EntV) (j : Nat) : (forms L).take (12 * j) = forms (L.take j) := by
  induction L generalizing j with
  | nil => simp [forms]
  | cons x t ih =>
    cases j with
    | zero => simp [forms]
    | succ j =>
      rw [List.take_succ_cons, show forms (x :: t) = x.form ++ forms t from List.flatMap_cons, show forms (x :: t.take j) = x.form ++ forms (t.take j) from List.flatMap_cons, List.take_append, length_form, show 12 * (j + 1) - 12 = 12 * j by omega, ih, List.take_of_length_le (by rw [length_form]; omega)]

theorem conv_any {w : World} {g : Option Addr} {L : List Int} (h : BytsAt w g L) (c : Nat) : (convert 24 9 (.slice g L.length c)).run Try.prog w = .ok (.string (strOfNums L)) w := by
  by_cases hn : L = []
  · subst hn
    cases g with
    | none => exact run_convert_bytes_nil w 24 5 Try.underlying24 Try.underlying5 0 c 9 Try.underlying9
    | some a =>
      rw [run_convert_bytes_string w 24 9 5 _ _ c Try.underlying24 Try.underlying5 Try.underlying9]
      rw [run_bytesToString w a _ c [] (by simp [loadCells, loadCellsFrom])]
      rfl
  · obtain ⟨b, o, rfl, hc⟩ := h.base hn
    exact run_convert_bytes_arg w 24 5 Try.underlying24 Try.underlying5 b o L.length c L rfl (fun i hi => hc i _ (by simp [hi])) 9 Try.underlying9
theorem str_append (A B : List Int) : strOfNums A ++ strOfNums B = strOfNums (A ++ B) := by
  ext1
  simp [strOfNums]

theorem enc_yes {w w' : World} {L : List EntV} {e : Ending} (h : EncPost w L e w') (hl : L.length ≤ 1000) (hok : ∀ x ∈ L, x.ok) :
    ∃ (g : Option Addr) (c : Nat), e = .returned (.tuple #[.slice g (forms L).length c, .int .i64 0]) ∧ BytsAt w' g (forms L) ∧ (forms L).length ≤ c ∧ Fr [] w w' := by
  obtain ⟨f, ⟨h1, _⟩ | ⟨_, h1, _⟩ | ⟨_, _, g, c, h1, h2, h3⟩⟩ := h
  · omega
  · exact (h1 hok).elim
  · exact ⟨g, c, h1, h2, h3, f⟩
theorem enc_no {w w' : World} {L : List EntV} {e : Ending} (h : EncPost w L e w') (hl : L.length ≤ 1000) (hok : ¬ ∀ x ∈ L, x.ok) :
    e = .returned (.tuple #[.slice none 0 0, .int .i64 1]) ∧ Fr [] w w' := by
  obtain ⟨f, ⟨h1, _⟩ | ⟨_, _, h1⟩ | ⟨_, h1, _⟩⟩ := h
  · omega
  · exact ⟨h1, f⟩
  · exact (hok h1).elim
theorem dec_forms {w w' : World} {L : List EntV} {e : Ending} (h : DecPost w (forms L) e w') (hl : L.length ≤ 1000) (hok : ∀ x ∈ L, x.ok) :
    ∃ (g : Option Addr) (c : Nat), e = .returned (.tuple #[.slice g L.length c, .int .i64 0]) ∧ EntsAt w' g L ∧ L.length ≤ c ∧ Fr [] w w' := by
  have hlen := length_forms L
  have hdiv : (forms L).length / 12 = L.length := by omega
  obtain ⟨f, ⟨h1, _⟩ | ⟨_, h1, _⟩ | ⟨_, _, h1, _⟩ | ⟨_, _, _, g, c, h1, h2, h3⟩⟩ := h
  · omega
  · omega
  · rw [hdiv] at h1
    exact (h1 (fun k hk => okB_forms (List.getElem?_eq_getElem hk) (hok _ (List.getElem_mem hk)))).elim
  · rw [hdiv] at h1 h2 h3
    rw [entsB_forms] at h2
    exact ⟨g, c, h1, h2, h3, f⟩
theorem EntsAt.lit (w : World) (t : TypeId) (L : List EntV) (h : L.length ≤ 9223372036854775807) : EntsAt (w.alloc (.cells (L.flatMap EntV.cells).toArray t)) (some ⟨w.heap.size, 0, none⟩) L :=
  ⟨h, fun j x hx => ⟨w.heap.size, 0, rfl, fun i v hv => cell_of (heap_alloc_new w _) (by rw [Nat.zero_add, List.getElem?_toArray]; exact cells_at L j i x v hx hv)⟩⟩

/-- What Encode tells: the bytes, and the error. -/
def encB (L : List EntV) : List Int := if L.length ≤ 1000 ∧ ∀ x ∈ L, x.ok then forms L else []
def encE (L : List EntV) : Int := if 1000 < L.length then 13 else if ∀ x ∈ L, x.ok then 0 else 1
theorem enc_val {w w' : World} {L : List EntV} {e : Ending} (h : EncPost w L e w') :
    ∃ (g : Option Addr) (c : Nat), e = .returned (.tuple #[.slice g (encB L).length c, .int .i64 (encE L)]) ∧ BytsAt w' g (encB L) ∧ (encB L).length ≤ c ∧ Fr [] w w' := by
  obtain ⟨f, ⟨h1, rfl⟩ | ⟨h1, h2, rfl⟩ | ⟨h1, h2, g, c, rfl, h3, h4⟩⟩ := h
  · rw [show encB L = [] from if_neg (fun h => by omega), show encE L = 13 from if_pos h1]
    exact ⟨none, 0, rfl, BytsAt.empty _ _, Nat.le_refl _, f⟩
  · rw [show encB L = [] from if_neg (fun h => h2 h.2), show encE L = 1 by unfold encE; rw [if_neg (by omega), if_neg h2]]
    exact ⟨none, 0, rfl, BytsAt.empty _ _, Nat.le_refl _, f⟩
  · rw [show encB L = forms L from if_pos ⟨h1, h2⟩, show encE L = 0 by unfold encE; rw [if_neg (by omega), if_pos h2]]
    exact ⟨g, c, rfl, h3, h4, f⟩
theorem encB_yes {L : List EntV} (hl : L.length ≤ 1000) (h : ∀ x ∈ L, x.ok) : encB L = forms L ∧ encE L = 0 := ⟨if_pos ⟨hl, h⟩, by unfold encE; rw [if_neg (by omega), if_pos h]⟩
theorem encB_no {L : List EntV} (hl : L.length ≤ 1000) (h : ¬ ∀ x ∈ L, x.ok) : encB L = [] ∧ encE L = 1 := ⟨if_neg (fun h2 => h h2.2), by unfold encE; rw [if_neg (by omega), if_neg h]⟩
/-- What Decode tells: the entries, and the error. -/
def decL (B : List Int) : List EntV := if B.length % 12 = 0 ∧ B.length / 12 ≤ 1000 ∧ (∀ k, k < B.length / 12 → okB B k) then entsB B (B.length / 12) else []
def decE (B : List Int) : Int := if B.length % 12 ≠ 0 then 12 else if 1000 < B.length / 12 then 13 else if ∀ k, k < B.length / 12 → okB B k then 0 else 12
theorem dec_val {w w' : World} {B : List Int} {e : Ending} (h : DecPost w B e w') :
    ∃ (g : Option Addr) (c : Nat), e = .returned (.tuple #[.slice g (decL B).length c, .int .i64 (decE B)]) ∧ EntsAt w' g (decL B) ∧ (decL B).length ≤ c ∧ Fr [] w w' := by
  obtain ⟨f, ⟨h1, rfl⟩ | ⟨h1, h2, rfl⟩ | ⟨h1, h2, h3, rfl⟩ | ⟨h1, h2, h3, g, c, rfl, h4, h5⟩⟩ := h
  · rw [show decL B = [] from if_neg (fun h => h1 h.1), show decE B = 12 from if_pos h1]
    exact ⟨none, 0, rfl, EntsAt.empty _ _, Nat.le_refl _, f⟩
  · rw [show decL B = [] from if_neg (fun h => by omega), show decE B = 13 by unfold decE; rw [if_neg (by omega), if_pos h2]]
    exact ⟨none, 0, rfl, EntsAt.empty _ _, Nat.le_refl _, f⟩
  · rw [show decL B = [] from if_neg (fun h => h3 h.2.2), show decE B = 12 by unfold decE; rw [if_neg (by omega), if_neg (by omega), if_neg h3]]
    exact ⟨none, 0, rfl, EntsAt.empty _ _, Nat.le_refl _, f⟩
  · rw [show decL B = entsB B (B.length / 12) from if_pos ⟨h1, h2, h3⟩, show decE B = 0 by unfold decE; rw [if_neg (by omega), if_neg (by omega), if_pos h3], length_entsB]
    exact ⟨g, c, rfl, h4, h5, f⟩
theorem dec_of_forms {L : List EntV} (hl : L.length ≤ 1000) (hok : ∀ x ∈ L, x.ok) : decL (forms L) = L ∧ decE (forms L) = 0 := by
  have hlen := length_forms L
  have hdiv : (forms L).length / 12 = L.length := by omega
  have hk : ∀ k, k < (forms L).length / 12 → okB (forms L) k := fun k hk => by
    rw [hdiv] at hk
    exact okB_forms (List.getElem?_eq_getElem hk) (hok _ (List.getElem_mem hk))
  refine ⟨?_, by unfold decE; rw [if_neg (by omega), if_neg (by omega), if_pos hk]⟩
  rw [show decL (forms L) = entsB (forms L) ((forms L).length / 12) from if_pos ⟨by omega, by omega, hk⟩, hdiv, entsB_forms]
theorem decE_0 {B : List Int} (hb : ∀ x ∈ B, 0 ≤ x ∧ x ≤ 255) (h : decE B = 0) : (∀ x ∈ decL B, x.ok) ∧ forms (decL B) = B ∧ (decL B).length ≤ 1000 := by
  by_cases h1 : B.length % 12 ≠ 0
  · rw [show decE B = 12 from if_pos h1] at h; omega
  · by_cases h2 : 1000 < B.length / 12
    · rw [show decE B = 13 by unfold decE; rw [if_neg h1, if_pos h2]] at h; omega
    · by_cases h3 : ∀ k, k < B.length / 12 → okB B k
      · rw [show decL B = entsB B (B.length / 12) from if_pos ⟨by omega, by omega, h3⟩]
        refine ⟨fun x hx => ?_, ?_, by rw [length_entsB]; omega⟩
        · obtain ⟨k, hk, rfl⟩ := List.mem_map.1 hx
          exact (h3 k (List.mem_range.1 hk)).2
        · rw [forms_entsB hb _ (by omega) h3, List.take_of_length_le (by omega)]
      · rw [show decE B = 12 by unfold decE; rw [if_neg h1, if_neg h2, if_neg h3]] at h; omega
theorem decL_bad {B : List Int} (h : decE B ≠ 0) : decL B = [] := by
  refine if_neg fun ⟨h1, h2, h3⟩ => h ?_
  unfold decE; rw [if_neg (by omega), if_neg (by omega), if_pos h3]
theorem encB_len (L : List EntV) (h : L.length ≤ 1000) : (encB L).length ≤ 12000 := by
  unfold encB; split
  · rw [length_forms]; omega
  · simp
theorem decL_len (B : List Int) : (decL B).length ≤ 1000 := by
  unfold decL; split
  · rw [length_entsB]; omega
  · simp

end Go.Proofs.Ytphnjgkaapfocaa
