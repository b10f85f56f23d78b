/- What is known of one that looks twice while others store: the plain law of TwiceLate. -/
import Derived.Test.YtnjoefanafjniaaTwTwo
namespace Go.Proofs.Ytnjoefanafjniaa
open Go.RowKit

/-- How many of the first S fit. -/
def cnt (p : Nat → Bool) : Nat → Nat
  | 0 => 0
  | S + 1 => cnt p S + (p S).toNat
theorem cnt_le (p : Nat → Bool) (S : Nat) : cnt p S ≤ S := by
  induction S with
  | zero => exact Nat.le_refl _
  | succ S ih => unfold cnt; have := Bool.toNat_le (p S); omega
theorem cnt_congr {p p' : Nat → Bool} {S : Nat} (h : ∀ j, j < S → p' j = p j) : cnt p' S = cnt p S := by
  induction S with
  | zero => rfl
  | succ S ih => unfold cnt; rw [ih (fun j hj => h j (by omega)), h S (by omega)]
theorem cnt_one {p p' : Nat → Bool} {S : Nat} (k : Nat) (h : ∀ j, j < S → j ≠ k → p' j = p j) : cnt p' S ≤ cnt p S + 1 := by
  induction S with
  | zero => exact Nat.zero_le _
  | succ S ih =>
    unfold cnt
    by_cases e : S = k
    · rw [cnt_congr (p := p) (p' := p') (fun j hj => h j (by omega) (by omega))]
      have := Bool.toNat_le (p' S)
      omega
    · rw [h S (by omega) e]
      have := ih (fun j hj => h j (by omega))
      omega
theorem cnt_off {p p' : Nat → Bool} {S : Nat} (k : Nat) (hk : k < S) (h : ∀ j, j < S → j ≠ k → p' j = p j) (hf : p' k = false) : cnt p' S + (p k).toNat = cnt p S := by
  induction S with
  | zero => omega
  | succ S ih =>
    unfold cnt
    by_cases e : S = k
    · subst e
      rw [cnt_congr (p := p) (p' := p') (fun j hj => h j (by omega) (by omega)), hf]
      simp
    · rw [h S (by omega) e]
      have := ih (by omega) (fun j hj => h j (by omega))
      omega

/-- What was seen of slot j last; where nothing was seen: what stands there. -/
def TwS.ref (s : TwS) (X : List Int) (j : Nat) : Int := if j < s.r.length then s.r.getD j 0 else if s.n = 0 then X.getD j 0 else s.l.getD j 0
/-- Does slot j have another word than what was seen last? -/
def TwS.odd (s : TwS) (X : List Int) (j : Nat) : Bool := decide (s.ref X j ≠ X.getD j 0)
/-- Is the round at work unlike the last one? -/
def TwS.unlike (s : TwS) : Bool := decide (s.n ≠ 0 ∧ s.r ≠ s.l.take s.r.length)
def TwS.pot (s : TwS) (S : Nat) (X : List Int) : Nat := max s.n.toNat 1 + s.unlike.toNat + cnt (s.odd X) S
/-- A Twice that isn't done: m rounds are done; W words were stored. -/
structure Late (S : Nat) (s : TwS) (X : List Int) (m W : Nat) : Prop where
  hd : s.d = false
  hn : s.n = (m : Int)
  hr : s.r.length < S
  hl : 1 ≤ m → s.l.length = S
  hp : s.pot S X ≤ 1 + W
theorem late_zero {S : Nat} (hS : 1 ≤ S) (X : List Int) : Late S ⟨[], [], 0, false⟩ X 0 0 := by
  refine ⟨rfl, rfl, hS, fun h => by omega, ?_⟩
  have h1 : (⟨[], [], 0, false⟩ : TwS).unlike = false := by unfold TwS.unlike; exact decide_eq_false (fun h => h.1 rfl)
  have h2 : cnt ((⟨[], [], 0, false⟩ : TwS).odd X) S = 0 := by
    rw [cnt_congr (p := fun _ => false) (fun j _ => by unfold TwS.odd TwS.ref; simp)]
    induction S with
    | zero => rfl
    | succ S ih => unfold cnt; cases S with
      | zero => rfl
      | succ S => rw [ih (by omega)]; rfl
  unfold TwS.pot
  rw [h1, h2]
  simp
theorem Late.write {S : Nat} {s : TwS} {X : List Int} {m W : Nat} (h : Late S s X m W) (k : Nat) (v : Int) : Late S s (X.set k v) m (W + 1) := by
  refine ⟨h.hd, h.hn, h.hr, h.hl, ?_⟩
  have h1 : cnt (s.odd (X.set k v)) S ≤ cnt (s.odd X) S + 1 := cnt_one k (fun j _ hj => by
    have e : (X.set k v).getD j 0 = X.getD j 0 := by rw [List.getD_eq_getElem?_getD, List.getElem?_set_ne (Ne.symm hj), List.getD_eq_getElem?_getD]
    unfold TwS.odd TwS.ref
    rw [e])
  have h2 := h.hp
  unfold TwS.pot at h2 ⊢
  omega
theorem Late.more {S : Nat} {s : TwS} {X : List Int} {m W : Nat} (h : Late S s X m W) : Late S s X m (W + 1) := ⟨h.hd, h.hn, h.hr, h.hl, by have := h.hp; omega⟩
theorem Late.m_le {S : Nat} {s : TwS} {X : List Int} {m W : Nat} (h : Late S s X m W) : m ≤ 1 + W := by
  have h1 := h.hp
  have h2 := h.hn
  unfold TwS.pot at h1
  omega
theorem getD_snoc_lt {r : List Int} {x : Int} {j : Nat} (h : j < r.length) : (r ++ [x]).getD j 0 = r.getD j 0 := by
  rw [List.getD_eq_getElem?_getD, List.getElem?_append_left h, List.getD_eq_getElem?_getD]
theorem getD_snoc_eq {r : List Int} {x : Int} {j : Nat} (h : j = r.length) : (r ++ [x]).getD j 0 = x := by
  subst h
  rw [List.getD_eq_getElem?_getD]
  simp
theorem take_snocD {l : List Int} {k : Nat} (h : k < l.length) : l.take (k + 1) = l.take k ++ [l.getD k 0] := by
  rw [List.take_add_one, List.getD_eq_getElem?_getD, List.getElem?_eq_getElem h]
  rfl
/-- A step that sees x = what stands at its slot. -/
theorem Late.step {S : Nat} {s : TwS} {X : List Int} {m W : Nat} (h : Late S s X m W) {x : Int} (hx : x = X.getD s.r.length 0) :
    ((s.step S x).d = false ∧ ∃ m', Late S (s.step S x) X m' W ∧ m' * S + (s.step S x).r.length = m * S + s.r.length + 1) ∨
    ((s.step S x).d = true ∧ 1 ≤ m ∧ (s.step S x).n = ((m + 1 : Nat) : Int) ∧ m + 1 ≤ 2 + W) := by
  obtain ⟨r, l, n, d⟩ := s
  obtain ⟨hd, hn, hr, hl, hp⟩ := h
  simp only at hd hn hr hl hx
  subst hd hn
  unfold TwS.pot at hp
  have hlen : (r ++ [x]).length = r.length + 1 := by simp
  by_cases hk : r.length + 1 < S
  · have e : TwS.step S x ⟨r, l, (m : Int), false⟩ = ⟨r ++ [x], l, (m : Int), false⟩ := by
      unfold TwS.step
      rw [if_neg (by simp), if_pos (by rw [hlen]; exact hk)]
    rw [e]
    refine .inl ⟨rfl, m, ⟨rfl, rfl, by rw [hlen]; exact hk, hl, ?_⟩, by show m * S + (r ++ [x]).length = m * S + r.length + 1; rw [hlen]; omega⟩
    have hoff := cnt_off (p := TwS.odd ⟨r, l, (m : Int), false⟩ X) (p' := TwS.odd ⟨r ++ [x], l, (m : Int), false⟩ X) (S := S) r.length hr (fun j hj hne => by
      unfold TwS.odd TwS.ref
      simp only [hlen]
      by_cases hjk : j < r.length
      · rw [if_pos (by omega), if_pos hjk, getD_snoc_lt hjk]
      · rw [if_neg (by omega), if_neg hjk]) (by
      unfold TwS.odd TwS.ref
      simp only [hlen]
      rw [if_pos (by omega), getD_snoc_eq rfl, hx]
      simp)
    have hul : (TwS.unlike ⟨r ++ [x], l, (m : Int), false⟩).toNat ≤ (TwS.unlike ⟨r, l, (m : Int), false⟩).toNat + (TwS.odd ⟨r, l, (m : Int), false⟩ X r.length).toNat := by
      by_cases h0 : m = 0
      · have : TwS.unlike ⟨r ++ [x], l, (m : Int), false⟩ = false := by unfold TwS.unlike; exact decide_eq_false (fun h => h.1 (by simp [h0]))
        rw [this]; simp
      · by_cases h1 : r = l.take r.length
        · by_cases h2 : l.getD r.length 0 = x
          · have : TwS.unlike ⟨r ++ [x], l, (m : Int), false⟩ = false := by
              unfold TwS.unlike
              refine decide_eq_false (fun h => h.2 ?_)
              simp only [hlen]
              rw [take_snocD (by rw [hl (by omega)]; omega), ← h1, h2]
            rw [this]; simp
          · have : TwS.odd ⟨r, l, (m : Int), false⟩ X r.length = true := by
              unfold TwS.odd TwS.ref
              refine decide_eq_true ?_
              simp only
              rw [if_neg (by omega), if_neg (by omega), ← hx]
              exact h2
            rw [this]
            have := Bool.toNat_le (TwS.unlike ⟨r ++ [x], l, (m : Int), false⟩)
            simp; omega
        · have : TwS.unlike ⟨r, l, (m : Int), false⟩ = true := by unfold TwS.unlike; exact decide_eq_true ⟨by simp; omega, h1⟩
          rw [this]
          have := Bool.toNat_le (TwS.unlike ⟨r ++ [x], l, (m : Int), false⟩)
          simp; omega
    unfold TwS.pot
    simp only at hp ⊢
    omega
  · have e : TwS.step S x ⟨r, l, (m : Int), false⟩ = ⟨[], r ++ [x], (m : Int) + 1, decide (0 < (m : Int)) && decide (r ++ [x] = l)⟩ := by
      unfold TwS.step
      rw [if_neg (by simp), if_neg (by rw [hlen]; exact hk)]
    rw [e]
    have hS : r.length + 1 = S := by omega
    by_cases hdone : 0 < m ∧ r ++ [x] = l
    · refine .inr ⟨by simp [hdone.1, hdone.2], hdone.1, by simp, ?_⟩
      have := Nat.le_max_left ((m : Int).toNat) 1
      simp only at hp
      omega
    · have hdf : (decide (0 < (m : Int)) && decide (r ++ [x] = l)) = false := by
        by_cases h0 : 0 < m
        · have : ¬ r ++ [x] = l := fun h => hdone ⟨h0, h⟩
          simp [this]
        · simp [h0]
      rw [hdf]
      refine .inl ⟨rfl, m + 1, ⟨rfl, by simp, by simp; omega, fun _ => by rw [hlen]; exact hS, ?_⟩, ?_⟩
      rotate_left
      · simp only [List.length_nil]
        rw [Nat.add_mul]
        omega
      have hoff := cnt_off (p := TwS.odd ⟨r, l, (m : Int), false⟩ X) (p' := TwS.odd ⟨[], r ++ [x], (m : Int) + 1, false⟩ X) (S := S) r.length hr (fun j hj hne => by
        unfold TwS.odd TwS.ref
        simp only [List.length_nil]
        rw [if_neg (by omega), if_neg (by omega), if_pos (by omega), getD_snoc_lt (by omega)]) (by
        unfold TwS.odd TwS.ref
        simp only [List.length_nil]
        rw [if_neg (by omega), if_neg (by omega), getD_snoc_eq rfl, hx]
        simp)
      have hul : (TwS.unlike ⟨[], r ++ [x], (m : Int) + 1, false⟩) = false := by unfold TwS.unlike; simp
      unfold TwS.pot
      rw [hul]
      simp only at hp ⊢
      by_cases h0 : m = 0
      · subst h0
        simp only [Bool.toNat_false]
        have e1 : ((0 : Nat) : Int).toNat = 0 := rfl
        rw [e1] at hp
        have e2 : (((0 : Nat) : Int) + 1).toNat = 1 := rfl
        rw [e2]
        omega
      · have hul2 : 1 ≤ (TwS.unlike ⟨r, l, (m : Int), false⟩).toNat + (TwS.odd ⟨r, l, (m : Int), false⟩ X r.length).toNat := by
          by_cases h1 : r = l.take r.length
          · have h2 : l.getD r.length 0 ≠ x := fun h2 => hdone ⟨by omega, by
              have h3 := take_snocD (l := l) (k := r.length) (by rw [hl (by omega)]; omega)
              rw [← h1, h2, List.take_of_length_le (by rw [hl (by omega)]; omega)] at h3
              exact h3.symm⟩
            have : TwS.odd ⟨r, l, (m : Int), false⟩ X r.length = true := by
              unfold TwS.odd TwS.ref
              refine decide_eq_true ?_
              simp only
              rw [if_neg (by omega), if_neg (by omega), ← hx]
              exact h2
            rw [this]; simp
          · have : TwS.unlike ⟨r, l, (m : Int), false⟩ = true := by unfold TwS.unlike; exact decide_eq_true ⟨by simp; omega, h1⟩
            rw [this]; simp
        simp only [Bool.toNat_false]
        omega

/-- What others store ahead of step i. -/
def wrOne (i : Int) (M : List Int) (x : WrV) : List Int := if x.wh = i then M.set (x.pl.toNat % M.length) x.v else M
def wrL (i : Int) (l : List WrV) (M : List Int) : List Int := l.foldl (wrOne i) M
theorem length_wrOne (i : Int) (M : List Int) (x : WrV) : (wrOne i M x).length = M.length := by unfold wrOne; split <;> simp
theorem length_wrL (i : Int) (l : List WrV) (M : List Int) : (wrL i l M).length = M.length := by
  induction l generalizing M with
  | nil => rfl
  | cons x l ih => show (wrL i l (wrOne i M x)).length = _; rw [ih, length_wrOne]
theorem wrL_take {i : Int} {l : List WrV} {M : List Int} {k : Nat} {x : WrV} (hx : l[k]? = some x) : wrL i (l.take (k + 1)) M = wrOne i (wrL i (l.take k) M) x := by
  unfold wrL
  rw [List.take_add_one, hx]
  simp [List.foldl_append]
/-- How many of them. -/
def cntW (i : Int) (l : List WrV) : Nat := l.countP (fun x => decide (x.wh = i))
def befW (i : Int) (l : List WrV) : Nat := l.countP (fun x => decide (x.wh < i))
theorem befW_next (i : Int) (l : List WrV) : befW (i + 1) l = befW i l + cntW i l := by
  unfold befW cntW
  induction l with
  | nil => rfl
  | cons x l ih =>
    simp only [List.countP_cons]
    rw [ih]
    by_cases h1 : x.wh < i
    · rw [if_pos (decide_eq_true (show x.wh < i + 1 by omega)), if_pos (decide_eq_true h1), if_neg (by simp; omega)]; omega
    · by_cases h2 : x.wh = i
      · rw [if_pos (decide_eq_true (show x.wh < i + 1 by omega)), if_neg (by simp; omega), if_pos (decide_eq_true h2)]; omega
      · rw [if_neg (by simp; omega), if_neg (by simp; omega), if_neg (by simp; omega)]; omega
theorem befW_le (i : Int) (l : List WrV) : befW i l ≤ l.length := List.countP_le_length
theorem befW_zero {l : List WrV} (h : ∀ x ∈ l, 0 ≤ x.wh) : befW 0 l = 0 := List.countP_eq_zero.2 (fun x hx => by have := h x hx; simp; omega)
theorem slotsX_set {c : ConfV} {M : List Int} (hc : c.small) (hM : (M.length : Int) = c.cells) (a : Nat) (v : Int) : slotsX c (M.set a v) = (if a < (c.slot 0).toNat then slotsX c M else (slotsX c M).set (a - (c.slot 0).toNat) v) := by
  rw [← slotsX_drop hc hM, ← slotsX_drop hc (by rw [List.length_set]; exact hM), List.drop_set]
theorem late_writes {c : ConfV} (hc : c.small) {s : TwS} {S : Nat} (i : Int) (l : List WrV) {M : List Int} (hM : (M.length : Int) = c.cells) {m W : Nat} (h : Late S s (slotsX c M) m W) : Late S s (slotsX c (wrL i l M)) m (W + cntW i l) := by
  induction l generalizing M W with
  | nil => exact h
  | cons x l ih =>
    have e : cntW i (x :: l) = cntW i l + (if x.wh = i then 1 else 0) := by
      unfold cntW
      rw [List.countP_cons]
      simp only [decide_eq_true_eq]
    rw [e]
    show Late S s (slotsX c (wrL i l (wrOne i M x))) m _
    by_cases hx : x.wh = i
    · rw [if_pos hx]
      have h1 : Late S s (slotsX c (wrOne i M x)) m (W + 1) := by
        unfold wrOne
        rw [if_pos hx, slotsX_set hc hM]
        split
        · exact h.more
        · exact h.write _ _
      have h2 := ih (by rw [length_wrOne]; exact hM) h1
      rw [show W + (cntW i l + 1) = W + 1 + cntW i l by omega]
      exact h2
    · rw [if_neg hx]
      have h1 : Late S s (slotsX c (wrOne i M x)) m W := by unfold wrOne; rw [if_neg hx]; exact h
      exact ih (by rw [length_wrOne]; exact hM) h1

end Go.Proofs.Ytnjoefanafjniaa
