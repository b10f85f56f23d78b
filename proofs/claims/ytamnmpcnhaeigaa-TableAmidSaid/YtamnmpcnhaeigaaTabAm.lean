/- TableAmid: the plain law; what is known between two rounds. -/
import Derived.Test.YtamnmpcnhaeigaaTabSm
import Derived.Test.YtamnmpcnhaeigaaHeldR
namespace Go.Proofs.Ytamnmpcnhaeigaa.TabI
open Go.RowKit Go.Shelf
set_option linter.unusedVariables false

/-- The table ahead of round k. -/
def amS (L : List (Int × Int)) (v : Int) (k : Nat) : List (Int × Int) := if k = 0 then L else match L.drop k with | [] => [] | x :: M => (x.1, v) :: M
theorem drop_at {L : List (Int × Int)} {k : Nat} {x : Int × Int} (h : L[k]? = some x) : L.drop k = x :: L.drop (k + 1) := by
  have hl := List.getElem?_eq_some_iff.1 h
  rw [List.drop_eq_getElem_cons hl.1, hl.2]
theorem amS_round {L : List (Int × Int)} {v : Int} {k : Nat} {a y : Int} (h : L[k]? = some (a, y)) : ∃ y', amS L v k = (a, y') :: L.drop (k + 1) := by
  have hd := drop_at h
  unfold amS
  by_cases hk : k = 0
  · subst hk
    rw [if_pos rfl]
    rw [List.drop_zero] at hd
    exact ⟨y, hd⟩
  · rw [if_neg hk, hd]; exact ⟨v, rfl⟩
theorem at_head (a y : Int) (M : List (Int × Int)) : Go.Proofs.Ytamnmpcnhaeigaa.at_ lt ((a, y) :: M) a = 0 := by
  unfold Go.Proofs.Ytamnmpcnhaeigaa.at_
  rw [List.takeWhile_cons, if_neg (by rw [ord.irrefl]; simp)]; rfl
theorem has_head (a y : Int) (M : List (Int × Int)) : has lt ((a, y) :: M) a = true := by
  unfold has
  rw [at_head]
  simp [ord.irrefl]
theorem drp_head (a y : Int) (M : List (Int × Int)) : drp ((a, y) :: M) a = M := by
  unfold drp
  rw [has_head, at_head]; rfl
theorem put_head (a y v : Int) (M : List (Int × Int)) : put ((a, y) :: M) a v = (a, v) :: M := by
  unfold put
  rw [has_head, at_head]; rfl
theorem amS_next {L : List (Int × Int)} {v : Int} {k : Nat} {a y : Int} (h : L[k + 1]? = some (a, y)) : put (L.drop (k + 1)) a v = amS L v (k + 1) := by
  unfold amS
  rw [drop_at h, put_head, if_neg (by omega)]
theorem amS_end {L : List (Int × Int)} {v : Int} {k : Nat} (h : L.length ≤ k + 1) : L.drop (k + 1) = amS L v (k + 1) := by
  unfold amS
  rw [List.drop_eq_nil_of_le h, if_neg (by omega)]
theorem amS_last {L : List (Int × Int)} {v : Int} : amS L v L.length = [] := by
  unfold amS
  rw [List.drop_eq_nil_of_le (Nat.le_refl _)]
  by_cases h : L.length = 0
  · rw [if_pos h]; exact List.eq_nil_of_length_eq_zero h
  · rw [if_neg h]
theorem amS_len (L : List (Int × Int)) (v : Int) (k : Nat) : (amS L v k).length ≤ L.length := by
  unfold amS
  split
  · exact Nat.le_refl _
  · have : (L.drop k).length ≤ L.length := by rw [List.length_drop]; omega
    split
    · exact Nat.zero_le _
    · rename_i h; rw [h] at this; exact this

/-- The rounds' blocks. -/
def amO (bn p : Nat) (s : Value) : Blk := fun x => x = bn ∨ x = p ∨ x ∈ rowsOf s
def AmI (w7 : World) (bn p : Nat) (s7 : Value) (L : List (Int × Int)) (v : Int) : Nat → World → Blk → Prop := fun k W O =>
  ∃ s, O = amO bn p s ∧ TabX W p s (amS L v k) ∧ bn ≠ p ∧ bn ∉ rowsOf s ∧ W.heap[bn]? = some (.cells #[.int .i64 k] 3 (0, 0)) ∧ (∀ x ∈ rowsOf s, x ∈ rowsOf s7 ∨ w7.heap.size ≤ x) ∧ Stp (amO bn p s7) w7 W
theorem Things.own {w W : World} {s : Value} {L : List (Int × Int)} (h : Things w s L) (hC : ∀ b ∈ rowsOf s, W.heap[b]? = w.heap[b]?) : Things W s L := by
  rcases h with h | ⟨q, c, h1, h2, h3, h4⟩
  · exact .inl h
  · obtain ⟨cur, g1, g2, g3⟩ := h4.row
    exact .inr ⟨q, c, h1, h2, h3, ⟨cur, (hC q (by rw [h1]; simp [rowsOf])).trans g1, g2, g3⟩⟩
theorem TabX.own {w W : World} {p : Nat} {s : Value} {L : List (Int × Int)} (h : TabX w p s L) (hp : W.heap[p]? = w.heap[p]?) (hC : ∀ b ∈ rowsOf s, W.heap[b]? = w.heap[b]?) : TabX W p s L :=
  ⟨hp.trans h.tab, h.th.own hC, h.apart, h.up⟩
theorem AmI.stable {w7 : World} {bn p : Nat} {s7 : Value} {L : List (Int × Int)} {v : Int} : Stable w7.heap.size (AmI w7 bn p s7 L v) := by
  rintro k W _ W' ⟨s, rfl, hx, h1, h2, hn, hr, hs⟩ e1 e2 e3 e4 e5
  exact ⟨s, rfl, hx.own (e5 p (.inl (.inr (.inl rfl)))) (fun b hb => e5 b (.inl (.inr (.inr hb)))), h1, h2, (e5 bn (.inl (.inl rfl))).trans hn, hr, hs.outside (O1 := amO bn p s) e1 e2 e3 e4 e5⟩
/-- One round. -/
theorem AmI.next {w7 W2 W3 W' : World} {bn p : Nat} {s7 s s' : Value} {L : List (Int × Int)} {v : Int} {k : Nat} {O : Blk} (hO : O = amO bn p s) (hb2 : ∀ x, O x → x < W2.heap.size)
    (hst : Stp (amO bn p s7) w7 W2) (h27 : ∀ x ∈ rowsOf s, x ∈ rowsOf s7 ∨ w7.heap.size ≤ x)
    (h3 : W3 = W2.setCell ⟨bn, 0, none⟩ (.int .i64 ((k : Int) + 1))) (hc : W2.heap[bn]? = some (.cells #[.int .i64 k] 3 (0, 0)))
    (h' : Stp (fun x => x = p ∨ x ∈ rowsOf s) W3 W') (hrow : ∀ x ∈ rowsOf s', x ∈ rowsOf s ∨ W2.heap.size ≤ x) (hx : TabX W' p s' (amS L v (k + 1))) (hne : bn ≠ p) (hnr : bn ∉ rowsOf s) :
    ∃ O', Stp O W2 W' ∧ Grw O O' W2 W' ∧ AmI w7 bn p s7 L v (k + 1) W' O' := by
  subst hO
  have hbn : bn < W2.heap.size := heap_lt hc
  have s3 : Stp (amO bn p s) W2 W3 := by rw [h3]; exact (Stp.refl _ W2).setCell (p := ⟨bn, 0, none⟩) (.inl (.inl rfl)) _
  have s4 : Stp (amO bn p s) W2 W' := s3.then h' (fun x hx => .inl (.inr hx))
  have c3 : W3.heap[bn]? = some (.cells #[.int .i64 ((k : Int) + 1)] 3 (0, 0)) := by
    rw [h3]
    have := heap_setCell_same (i := 0) hc (.int .i64 ((k : Int) + 1))
    simpa using this
  have hbr' : bn ∉ rowsOf s' := fun h => (hrow _ h).elim hnr (fun h => by omega)
  refine ⟨amO bn p s', s4, fun x hx' => ?_, s', rfl, hx, hne, hbr', ?_, fun x hx => (hrow x hx).elim (h27 x) (fun h => .inr (Nat.le_trans hst.size h)), hst.then s4 (fun x hx => ?_)⟩
  · rcases hx' with rfl | rfl | h
    · exact ⟨Nat.lt_of_lt_of_le hbn s4.size, .inl (.inl rfl)⟩
    · exact ⟨heap_lt hx.tab, .inl (.inr (.inl rfl))⟩
    · refine ⟨?_, (hrow x h).imp (fun h => .inr (.inr h)) id⟩
      rcases hx.th with ⟨_, rfl⟩ | ⟨q, c, rfl, _, _, hr⟩
      · simp [rowsOf] at h
      · simp [rowsOf] at h; subst h; exact hr.lt
  · exact h'.at c3 (fun h => h.elim hne hnr)
  · rcases hx with h | h | h
    · exact .inl (.inl h)
    · exact .inl (.inr (.inl h))
    · exact (h27 x h).imp (fun h => .inr (.inr h)) id

end Go.Proofs.Ytamnmpcnhaeigaa.TabI
