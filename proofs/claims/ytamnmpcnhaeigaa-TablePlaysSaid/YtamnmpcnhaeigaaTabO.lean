/- Table, the plain law: an order of keys, and lists of pairs by rising keys. No program. -/
import Derived.Laws.Strings
namespace Go.Proofs.Ytamnmpcnhaeigaa

structure KOrd {α : Type} (lt : α → α → Bool) : Prop where
  irrefl : ∀ a, lt a a = false
  trans : ∀ a b c, lt a b = true → lt b c = true → lt a c = true
  tri : ∀ a b, lt a b = false → lt b a = false → a = b

def ltI (a b : Int) : Bool := decide (a < b)
theorem ordI : KOrd ltI := ⟨fun a => by simp [ltI], fun a b c => by simp only [ltI, decide_eq_true_eq]; omega, fun a b => by simp only [ltI, decide_eq_false_iff_not]; omega⟩

def ltS (a b : ByteArray) : Bool := Op.bytesLess a.toList b.toList

theorem less_irrefl : ∀ l : List UInt8, Op.bytesLess l l = false
  | [] => rfl
  | a :: l => by simp [Op.bytesLess, less_irrefl l]
theorem less_trans : ∀ a b c : List UInt8, Op.bytesLess a b = true → Op.bytesLess b c = true → Op.bytesLess a c = true
  | _, [], _, h, _ => by simp [Op.bytesLess] at h
  | _, _ :: _, [], _, h => by simp [Op.bytesLess] at h
  | [], _ :: _, _ :: _, _, _ => by simp [Op.bytesLess]
  | x :: a, y :: b, z :: c, h, k => by
    simp only [Op.bytesLess, Bool.or_eq_true, Bool.and_eq_true, decide_eq_true_eq, beq_iff_eq] at h k ⊢
    rcases h with h | ⟨rfl, h⟩
    · rcases k with k | ⟨rfl, k⟩
      · exact .inl (UInt8.lt_trans h k)
      · exact .inl h
    · rcases k with k | ⟨rfl, k⟩
      · exact .inl k
      · exact .inr ⟨rfl, less_trans a b c h k⟩
theorem less_tri : ∀ a b : List UInt8, Op.bytesLess a b = false → Op.bytesLess b a = false → a = b
  | [], [], _, _ => rfl
  | [], _ :: _, h, _ => by simp [Op.bytesLess] at h
  | _ :: _, [], _, h => by simp [Op.bytesLess] at h
  | x :: a, y :: b, h, k => by
    simp only [Op.bytesLess, Bool.or_eq_false_iff, Bool.and_eq_false_iff, decide_eq_false_iff_not, beq_eq_false_iff_ne, ne_eq] at h k
    obtain ⟨h1, h2⟩ := h
    obtain ⟨k1, k2⟩ := k
    have hxy : x = y := by
      apply UInt8.toNat_inj.1
      rw [UInt8.lt_iff_toNat_lt] at h1 k1
      omega
    subst hxy
    have h3 := h2.resolve_left (fun h => h rfl)
    have k3 := k2.resolve_left (fun h => h rfl)
    rw [less_tri a b h3 k3]

theorem bytes_inj {a b : ByteArray} (h : a.toList = b.toList) : a = b := by
  rw [ByteArray.toList_eq, ByteArray.toList_eq] at h
  exact ByteArray.ext (Array.toList_inj.mp h)

theorem ordS : KOrd ltS := ⟨fun _ => less_irrefl _, fun _ _ _ => less_trans _ _ _, fun _ _ h k => bytes_inj (less_tri _ _ h k)⟩

/-- What Compare says. -/
def cmpK {α : Type} (lt : α → α → Bool) (a b : α) : Int := if lt a b then -1 else if lt b a then 1 else 0

theorem cmp_lt {α : Type} {lt : α → α → Bool} (_ : KOrd lt) {a b : α} (h : lt a b = true) : cmpK lt a b = -1 := by simp [cmpK, h]
theorem KOrd.asymm {α : Type} {lt : α → α → Bool} (o : KOrd lt) {a b : α} (h : lt a b = true) : lt b a = false := by
  cases k : lt b a with
  | false => rfl
  | true => exact absurd (o.trans a b a h k) (by simp [o.irrefl])
theorem cmp_gt {α : Type} {lt : α → α → Bool} (o : KOrd lt) {a b : α} (h : lt b a = true) : cmpK lt a b = 1 := by simp [cmpK, h, o.asymm h]
theorem cmp_eq {α : Type} {lt : α → α → Bool} (o : KOrd lt) {a b : α} (h : a = b) : cmpK lt a b = 0 := by subst h; simp [cmpK, o.irrefl]
theorem gt_of {a b : ByteArray} (h : Op.bytesLess a.toList b.toList = false) (k : ¬ a.toList = b.toList) : ltS b a = true := by
  cases e : ltS b a with
  | true => rfl
  | false => exact absurd (less_tri _ _ h e) k

section
variable {α β : Type} (lt : α → α → Bool)

/-- By rising keys. -/
def Rising (L : List (α × β)) : Prop := ∀ (i j : Nat) (x y : α × β), i < j → L[i]? = some x → L[j]? = some y → lt x.1 y.1 = true
/-- Where k stands, or would. -/
def at_ (L : List (α × β)) (k : α) : Nat := (L.takeWhile fun x => lt x.1 k).length
def has (L : List (α × β)) (k : α) : Bool := match L[at_ lt L k]? with | some x => !lt k x.1 | none => false

theorem at_le (L : List (α × β)) (k : α) : at_ lt L k ≤ L.length := by
  unfold at_; exact (List.takeWhile_prefix _).length_le
theorem at_below {L : List (α × β)} {k : α} {i : Nat} {x : α × β} (hi : i < at_ lt L k) (hx : L[i]? = some x) : lt x.1 k = true := by
  unfold at_ at hi
  have h1 : (L.takeWhile fun x => lt x.1 k)[i]? = some x := by
    obtain ⟨t, ht⟩ := List.takeWhile_prefix (l := L) (fun x => lt x.1 k)
    rw [← ht, List.getElem?_append_left hi] at hx
    exact hx
  have h2 := List.all_takeWhile (p := fun x : α × β => lt x.1 k) (l := L)
  rw [List.all_eq_true] at h2
  exact h2 x (List.mem_of_getElem? h1)
theorem at_not {L : List (α × β)} {k : α} {x : α × β} (hx : L[at_ lt L k]? = some x) : lt x.1 k = false := by
  unfold at_ at hx
  induction L with
  | nil => simp at hx
  | cons y L ih =>
    rw [List.takeWhile_cons] at hx
    cases h : lt y.1 k with
    | true => simp only [h, if_true, List.length_cons, List.getElem?_cons_succ] at hx; exact ih hx
    | false => simp only [h] at hx; simp at hx; rw [← hx]; exact h
theorem at_eq {lt : α → α → Bool} {L : List (α × β)} {k : α} {i : Nat} (hi : i ≤ L.length) (h1 : ∀ j x, j < i → L[j]? = some x → lt x.1 k = true) (h2 : ∀ j x, i ≤ j → L[j]? = some x → lt x.1 k = false) : i = at_ lt L k := by
  rcases Nat.lt_trichotomy i (at_ lt L k) with h | h | h
  · have hlt : i < L.length := Nat.lt_of_lt_of_le h (at_le lt L k)
    have := at_below lt h (List.getElem?_eq_getElem hlt)
    rw [h2 i _ (Nat.le_refl _) (List.getElem?_eq_getElem hlt)] at this
    cases this
  · exact h
  · have hlt : at_ lt L k < L.length := by omega
    have := at_not lt (List.getElem?_eq_getElem hlt)
    rw [h1 _ _ h (List.getElem?_eq_getElem hlt)] at this
    cases this
theorem at_after {lt : α → α → Bool} (o : KOrd lt) {L : List (α × β)} (hs : Rising lt L) {k : α} {j : Nat} {x : α × β} (hj : at_ lt L k ≤ j) (hx : L[j]? = some x) : lt x.1 k = false := by
  have hl : j < L.length := (List.getElem?_eq_some_iff.1 hx).1
  have h0 := at_not lt (L := L) (k := k) (List.getElem?_eq_getElem (by omega))
  rcases Nat.lt_or_ge (at_ lt L k) j with h | h
  · have hr := hs _ _ _ _ h (List.getElem?_eq_getElem (by omega)) hx
    cases e : lt x.1 k with
    | false => rfl
    | true => rw [o.trans _ _ _ hr e] at h0; cases h0
  · obtain rfl : j = at_ lt L k := by omega
    exact at_not lt hx
theorem below_mid {lt : α → α → Bool} (o : KOrd lt) {L : List (α × β)} (hs : Rising lt L) {k : α} {i j : Nat} {y x : α × β} (hy : L[i]? = some y) (h : lt y.1 k = true) (hj : j ≤ i) (hx : L[j]? = some x) : lt x.1 k = true := by
  rcases Nat.lt_or_ge j i with h' | h'
  · exact o.trans _ _ _ (hs _ _ _ _ h' hx hy) h
  · obtain rfl : j = i := by omega
    rw [hx] at hy; cases hy; exact h
theorem above_mid {lt : α → α → Bool} (o : KOrd lt) {L : List (α × β)} (hs : Rising lt L) {k : α} {i j : Nat} {y x : α × β} (hy : L[i]? = some y) (h : lt y.1 k = false) (hj : i ≤ j) (hx : L[j]? = some x) : lt x.1 k = false := by
  rcases Nat.lt_or_ge i j with h' | h'
  · cases e : lt x.1 k with
    | false => rfl
    | true => rw [o.trans _ _ _ (hs _ _ _ _ h' hy hx) e] at h; cases h
  · obtain rfl : j = i := by omega
    rw [hx] at hy; cases hy; exact h
end

end Go.Proofs.Ytamnmpcnhaeigaa
