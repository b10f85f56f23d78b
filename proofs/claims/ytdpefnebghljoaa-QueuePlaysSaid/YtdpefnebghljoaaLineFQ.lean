/- The layer 'line': whether a word is a line's. -/
import Derived.Test.YtdpefnebghljoaaLineEQ
import Derived.Test.YtdpefnebghljoaaBitsQ
namespace Go.Proofs.Ytdpefnebghljoaa
open Go.RowKit Go.Shelf
attribute [local go_sem] Oper.semAt_some

/-- In a round a region goes as anywhere, where it defers nothing. -/
theorem opIn_round {P : Program} {n r : Nat} {o : Oper} {a : Act} {w : World} {K : Act → World → Prop} {Q : Exit → Act → World → Prop} (hd : ∀ c, o.op ≠ .defer c) (h : o.wpIn Fence.wide n P a w K Q) : o.wpIn (Fence.wide.inRound r) n P a w K Q := by
  unfold Oper.wpIn at *
  refine ⟨fun _ _ => trivial, ?_⟩
  have h2 := h.2
  rw [show Fence.wide.round = none from rfl, Oper.semAt_none] at h2
  rw [Fence.inRound_round, Oper.semAt_some _ _ _ hd]
  exact h2
theorem anyIn_round {P : Program} {n r : Nat} {md : Region.Mode} {ops : Array Oper} {Q : Exit → Act → World → Prop} (hd : ∀ (i : Nat) (o : Oper), ops[i]? = some o → ∀ c, o.op ≠ .defer c) :
    ∀ (fuel : Nat) (listed : Array Bool) (a : Act) (w : World), wpAnyIn Fence.wide n P md ops Q fuel listed a w → wpAnyIn (Fence.wide.inRound r) n P md ops Q fuel listed a w
  | 0, _, _, _, h => h
  | fuel + 1, _, _, _, h => ⟨h.1, fun i hi => by
    have h2 := wpOpIn_mono (fun a' w' h' => anyIn_round (r := r) hd fuel _ a' w' h') (h.2 i hi)
    unfold wpOpIn at h2 ⊢
    cases ho : ops[i]? with
    | none => simpa only [ho] using h2
    | some o =>
      simp only [ho] at h2 ⊢
      split
      · rename_i hw
        rw [if_pos hw] at h2
        exact opIn_round (hd i o ho) h2
      · rename_i hw
        rw [if_neg hw] at h2
        exact ⟨fun _ _ => trivial, h2.2⟩⟩
theorem region_round {P : Program} {n r id : Nat} {ops : Array Oper} {Q : Exit → Act → World → Prop} {a : Act} {w : World} (hm : P.follows .mixedOrders = true) (hd : ∀ o ∈ ops.toList, ∀ c, o.op ≠ .defer c)
    (h : wpAnyIn Fence.wide n P .any ops Q ops.size (Array.replicate ops.size false) a w.drew) : (Code.region id ops true).wpIn (Fence.wide.inRound r) n P Q a w :=
  wpIn_region_any hm (anyIn_round (fun i o ho => hd o (by rw [Array.mem_toList_iff]; exact Array.mem_of_getElem? ho)) _ _ _ _ h)

/-- The first k of L may stand in a line. -/
def Rgt (L : List Int) (k : Nat) : Prop := ∀ (j : Nat) (x : Int), j < k → L[j]? = some x → j < 15 ∧ 0 ≤ x ∧ x ∉ L.take j
theorem Rgt.zero (L : List Int) : Rgt L 0 := fun j x h => by omega
theorem Rgt.succ {L : List Int} {k : Nat} {x : Int} (h : Rgt L k) (hx : L[k]? = some x) (h1 : k < 15) (h2 : 0 ≤ x) (h3 : x ∉ L.take k) : Rgt L (k + 1) := fun j y hj hy => by
  rcases Nat.lt_or_ge j k with hl | hl
  · exact h j y hl hy
  · obtain rfl : j = k := by omega
    rw [hx] at hy
    cases hy
    exact ⟨h1, h2, h3⟩
/-- The bits of those that were seen. -/
def maskN (l : List Int) : Nat := l.foldl (fun m x => m ||| 2 ^ x.toNat) 0
theorem maskN_snoc {L : List Int} {k : Nat} {x : Int} (hx : L[k]? = some x) : maskN (L.take (k + 1)) = maskN (L.take k) ||| 2 ^ x.toNat := by
  rw [List.take_add_one, hx]; simp [maskN, List.foldl_append]
theorem fold_bit : ∀ (l : List Int) (m i : Nat), (l.foldl (fun m x => m ||| 2 ^ x.toNat) m).testBit i = (m.testBit i || l.any (fun x => x.toNat == i))
  | [], m, i => by simp
  | x :: t, m, i => by
    rw [List.foldl_cons, fold_bit t]
    rw [Nat.testBit_or, Nat.testBit_two_pow]
    simp only [List.any_cons, Bool.or_assoc]
    congr 1
theorem maskN_bit (l : List Int) (i : Nat) : (maskN l).testBit i = l.any (fun x => x.toNat == i) := by
  unfold maskN; rw [fold_bit]; simp
theorem fold_lt : ∀ (l : List Int) (m : Nat), m < 2 ^ 15 → (∀ x ∈ l, x ≤ 14) → l.foldl (fun m x => m ||| 2 ^ x.toNat) m < 2 ^ 15
  | [], m, h, _ => h
  | x :: t, m, h, hl => by
    rw [List.foldl_cons]
    refine fold_lt t _ (Nat.or_lt_two_pow h ?_) (fun y hy => hl y (List.mem_cons_of_mem _ hy))
    exact Nat.pow_lt_pow_right (by decide) (by have := hl x List.mem_cons_self; omega)
theorem maskN_lt (l : List Int) (h : ∀ x ∈ l, x ≤ 14) : maskN l < 32768 := fold_lt l 0 (by decide) h
theorem and_pow_ne (n i : Nat) : (n &&& 2 ^ i ≠ 0) ↔ n.testBit i = true := by
  constructor
  · intro h
    cases hb : n.testBit i with
    | true => rfl
    | false =>
      refine absurd (Nat.eq_of_testBit_eq fun j => ?_) h
      rw [Nat.testBit_and, Nat.testBit_two_pow, Nat.zero_testBit]
      by_cases hij : i = j
      · subst hij; simp [hb]
      · simp [hij]
  · intro h he
    have h2 : (n &&& 2 ^ i).testBit i = true := by rw [Nat.testBit_and, Nat.testBit_two_pow, h]; simp
    rw [he, Nat.zero_testBit] at h2
    cases h2
theorem maskN_mem {l : List Int} (h : ∀ x ∈ l, 0 ≤ x) {x : Int} (h0 : 0 ≤ x) : (maskN l &&& 2 ^ x.toNat ≠ 0) ↔ x ∈ l := by
  rw [and_pow_ne]
  have e : (maskN l).testBit x.toNat = decide (x ∈ l) := by
    rw [maskN_bit, Bool.eq_iff_iff]
    simp only [List.any_eq_true, beq_iff_eq, decide_eq_true_eq]
    constructor
    · rintro ⟨y, hy, he⟩
      have := h y hy
      obtain rfl : y = x := by omega
      exact hy
    · exact fun hm => ⟨x, hm, rfl⟩
  rw [e, decide_eq_true_eq]
theorem digF_le : ∀ (f n : Nat) (x : Int), x ∈ digF f n → x ≤ 14
  | 0, n, x, h => by simp [digF] at h
  | f + 1, n, x, h => by
    rw [digF] at h
    split at h
    · simp at h
    · rcases List.mem_cons.1 h with rfl | h
      · omega
      · exact digF_le f _ x h
theorem digW_le {n : Nat} {x : Int} (h : x ∈ digW n) : x ≤ 14 := digF_le 16 n x h

def RightPost (w : World) (L : List Int) (e : Ending) (w' : World) : Prop := ∃ r : Bool, e = .returned (.bool r) ∧ (r = true ↔ Rgt L L.length) ∧ Fr [] w w'

/-- The result's cell, and the seen ones' bits. -/
def rightOb (b : Nat) (M : Nat → Nat) : Nat → Nat → Obj := fun k x => if x = b then .cells #[.bool false] 4 else .cells #[.int .i64 (M k : Int)] 3

end Go.Proofs.Ytdpefnebghljoaa
