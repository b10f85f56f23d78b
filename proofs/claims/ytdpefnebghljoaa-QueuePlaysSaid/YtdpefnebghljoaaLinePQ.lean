/- The layer 'line': words of lines, in plain Lean. -/
import Derived.Test.YtdpefnebghljoaaLineGQ
namespace Go.Proofs.Ytdpefnebghljoaa

/-- A line: who stands there, from the first one on. -/
def Ln (L : List Int) : Prop := (∀ x ∈ L, 0 ≤ x ∧ x ≤ 14) ∧ L.Nodup
instance (L : List Int) : Decidable (Ln L) := by unfold Ln; infer_instance
/-- Its word. -/
def wd : List Int → Nat
  | [] => 0
  | x :: t => (x + 1).toNat + 16 * wd t
theorem nodup_le {α : Type} [DecidableEq α] : ∀ (l s : List α), l.Nodup → (∀ x ∈ l, x ∈ s) → l.length ≤ s.length
  | [], _, _, _ => Nat.zero_le _
  | a :: t, s, hn, h => by
    rw [List.nodup_cons] at hn
    have ha := h a (List.mem_cons_self ..)
    have := nodup_le t (s.erase a) hn.2 fun x hx => (List.mem_erase_of_ne (fun (e : x = a) => hn.1 (e ▸ hx))).2 (h x (List.mem_cons_of_mem _ hx))
    rw [List.length_erase_of_mem ha] at this
    have hp : 0 < s.length := List.length_pos_of_mem ha
    simp only [List.length_cons]; omega
theorem Ln.nil : Ln [] := ⟨by simp, by simp⟩
theorem Ln.length {L : List Int} (h : Ln L) : L.length ≤ 15 := by
  have := nodup_le L ((List.range 15).map Int.ofNat) h.2 fun x hx => by
    have := h.1 x hx
    rw [List.mem_map]
    exact ⟨x.toNat, by rw [List.mem_range]; omega, by show ((x.toNat : Nat) : Int) = x; omega⟩
  simpa using this
theorem Ln.tail {L : List Int} (h : Ln L) : Ln L.tail := by
  cases L with
  | nil => exact h
  | cons a t => exact ⟨fun x hx => h.1 x (List.mem_cons_of_mem _ hx), (List.nodup_cons.1 h.2).2⟩
theorem Ln.filter {L : List Int} (h : Ln L) (p : Int → Bool) : Ln (L.filter p) := ⟨fun x hx => h.1 x (List.mem_filter.1 hx).1, h.2.filter _⟩
theorem Ln.take {L : List Int} (h : Ln L) (k : Nat) : Ln (L.take k) := ⟨fun x hx => h.1 x (List.mem_of_mem_take hx), h.2.sublist (List.take_sublist _ _)⟩
theorem ln_snoc {L : List Int} {x : Int} (h : Ln L) : Ln (L ++ [x]) ↔ (0 ≤ x ∧ x ≤ 14 ∧ x ∉ L) := by
  constructor
  · rintro ⟨h1, h2⟩
    have := h1 x (by simp)
    rw [List.nodup_append] at h2
    exact ⟨this.1, this.2, fun hm => h2.2.2 x hm x (by simp) rfl⟩
  · rintro ⟨h1, h2, h3⟩
    refine ⟨fun y hy => ?_, ?_⟩
    · rcases List.mem_append.1 hy with hy | hy
      · exact h.1 y hy
      · rw [List.mem_singleton] at hy; subst hy; exact ⟨h1, h2⟩
    · rw [List.nodup_append]
      refine ⟨h.2, by simp, fun a ha b hb e => ?_⟩
      rw [List.mem_singleton] at hb
      subst hb; subst e; exact h3 ha
theorem wd_digF : ∀ (f n : Nat), n < 16 ^ f → wd (digF f n) = n
  | 0, n, h => by simp at h; simp [digF, wd, h]
  | f + 1, n, h => by
    rw [digF]
    split
    · rename_i h0; rw [h0]; rfl
    · rw [wd, wd_digF f (n / 16) (by rw [Nat.div_lt_iff_lt_mul (by decide)]; rw [Nat.pow_succ] at h; omega)]
      omega
theorem wd_digW {n : Nat} (h : n < 9223372036854775808) : wd (digW n) = n := wd_digF 16 n (by omega)
theorem digF_wd : ∀ (f : Nat) (L : List Int), L.length ≤ f → (∀ x ∈ L, 0 ≤ x ∧ x ≤ 14) → digF f (wd L) = L
  | 0, [], _, _ => rfl
  | f + 1, [], _, _ => by simp [digF, wd]
  | f + 1, x :: t, h, hx => by
    have h1 := hx x (List.mem_cons_self ..)
    rw [digF, wd, if_neg (by omega)]
    rw [show ((x + 1).toNat + 16 * wd t) / 16 = wd t by omega, digF_wd f t (by simpa using h) (fun y hy => hx y (List.mem_cons_of_mem _ hy))]
    congr 1
    omega
theorem digW_wd {L : List Int} (h : Ln L) : digW (wd L) = L := digF_wd 16 L (by have := h.length; omega) h.1
theorem wd_lt_pow : ∀ (L : List Int), (∀ x ∈ L, 0 ≤ x ∧ x ≤ 14) → wd L < 16 ^ L.length
  | [], _ => by simp [wd]
  | x :: t, hx => by
    have h1 := hx x (List.mem_cons_self ..)
    have h2 := wd_lt_pow t (fun y hy => hx y (List.mem_cons_of_mem _ hy))
    rw [wd, List.length_cons, Nat.pow_succ]; omega
theorem wd_lt {L : List Int} (h : Ln L) : wd L < 1152921504606846976 := Nat.lt_of_lt_of_le (wd_lt_pow L h.1) (by
  have := Nat.pow_le_pow_right (n := 16) (by decide) h.length
  exact Nat.le_trans this (by decide))
theorem wd_inj {L M : List Int} (h : Ln L) (h' : Ln M) (e : wd L = wd M) : L = M := by rw [← digW_wd h, ← digW_wd h', e]
theorem wd_tail {L : List Int} (h : Ln L) : wd L / 16 = wd L.tail := by
  cases L with
  | nil => rfl
  | cons a t => have := h.1 a (List.mem_cons_self ..); simp only [wd, List.tail_cons]; omega
theorem wd_snoc : ∀ (L : List Int) (x : Int), wd (L ++ [x]) = wd L + (x + 1).toNat * 16 ^ L.length
  | [], x => by simp [wd]
  | a :: t, x => by
    rw [List.cons_append, wd, wd, wd_snoc t x, List.length_cons, Nat.pow_succ, Nat.mul_add, Nat.add_assoc, Nat.mul_left_comm, Nat.mul_comm 16 (16 ^ t.length)]
theorem wd_pos {L : List Int} (h : Ln L) (h0 : L ≠ []) : 0 < wd L := by
  cases L with
  | nil => exact (h0 rfl).elim
  | cons a t => have := h.1 a (List.mem_cons_self ..); simp only [wd]; omega
theorem cutN_zero (n : Nat) : cutN n 0 = n / 16 := by simp [cutN, Nat.mod_one]
theorem cutN_succ (n k : Nat) : cutN n (k + 1) = n % 16 + 16 * cutN (n / 16) k := by
  unfold cutN
  rw [Nat.pow_succ 16 k, Nat.mul_comm (16 ^ k) 16, Nat.mod_mul, Nat.pow_succ 16 (k + 1), Nat.mul_comm (16 ^ (k + 1)) 16, ← Nat.div_div_eq_div_mul, Nat.mul_add, Nat.add_assoc, Nat.pow_succ 16 k, Nat.mul_comm (16 ^ k) 16]
  congr 2
  rw [Nat.mul_left_comm]
theorem wd_cut : ∀ (k : Nat) (L : List Int), (∀ x ∈ L, 0 ≤ x ∧ x ≤ 14) → k < L.length → cutN (wd L) k = wd (L.eraseIdx k)
  | 0, a :: t, hx, _ => by
    have h1 := hx a (List.mem_cons_self ..)
    rw [cutN_zero]; simp only [wd, List.eraseIdx_zero, List.tail_cons]; omega
  | k + 1, a :: t, hx, hk => by
    have h1 := hx a (List.mem_cons_self ..)
    rw [cutN_succ, List.eraseIdx_cons_succ, wd, wd, show ((a + 1).toNat + 16 * wd t) / 16 = wd t by omega, wd_cut k t (fun y hy => hx y (List.mem_cons_of_mem _ hy)) (by simpa using hk)]
    omega
/-- A list without one. -/
def rm (L : List Int) (x : Int) : List Int := L.filter fun y => decide (y ≠ x)
theorem rm_self {L : List Int} {x : Int} (h : x ∉ L) : rm L x = L := List.filter_eq_self.2 fun y hy => by simp; exact fun e => h (e ▸ hy)
theorem erase_rm : ∀ (k : Nat) (L : List Int) (x : Int), L.Nodup → L[k]? = some x → L.eraseIdx k = rm L x
  | 0, a :: t, x, hn, h => by
    simp only [List.getElem?_cons_zero, Option.some.injEq] at h
    subst h
    rw [List.nodup_cons] at hn
    have := rm_self hn.1
    simp only [rm] at this
    simp only [rm, List.eraseIdx_zero, List.tail_cons, ne_eq, not_true_eq_false, decide_false, Bool.false_eq_true, not_false_eq_true, List.filter_cons_of_neg]
    exact this.symm
  | k + 1, a :: t, x, hn, h => by
    simp only [List.getElem?_cons_succ] at h
    rw [List.nodup_cons] at hn
    have hm := List.mem_of_getElem? h
    have hax : a ≠ x := fun e => hn.1 (e ▸ hm)
    have := erase_rm k t x hn.2 h
    simp only [rm] at this
    simp [rm, hax]
    simpa using this
  | 0, [], _, _, h => by simp at h
  | k + 1, [], _, _, h => by simp at h
theorem Ln.rm {L : List Int} (h : Ln L) (x : Int) : Ln (rm L x) := h.filter _
theorem rm_comm (L : List Int) (x y : Int) : rm (rm L x) y = rm (rm L y) x := by simp only [rm, List.filter_filter]; congr 1; funext z; rw [Bool.and_comm]
theorem not_mem_rm (L : List Int) (x : Int) : x ∉ rm L x := by simp [rm]
theorem wd_drop {L : List Int} {k : Nat} {x : Int} (h : Ln L) (hk : L[k]? = some x) : cutN (wd L) k = wd (rm L x) := by
  rw [wd_cut k L h.1 (List.getElem?_eq_some_iff.1 hk).1, erase_rm k L x h.2 hk]
theorem rgt_ln {n : Nat} : Rgt (digW n) (digW n).length ↔ Ln (digW n) := by
  constructor
  · intro h
    refine ⟨fun x hx => ?_, ?_⟩
    · obtain ⟨j, hj⟩ := List.getElem?_of_mem hx
      have := h j x (List.getElem?_eq_some_iff.1 hj).1 hj
      exact ⟨this.2.1, digW_le (List.mem_of_getElem? hj)⟩
    · rw [List.Nodup, List.pairwise_iff_getElem]
      intro i j hi hj hij e
      have := (h j _ hj (List.getElem?_eq_getElem hj)).2.2
      refine this ?_
      rw [← e]
      exact List.mem_of_getElem? (i := i) (by rw [List.getElem?_take, if_pos hij]; exact List.getElem?_eq_getElem hi)
  · intro h j x hj hx
    have hlen := h.length
    refine ⟨by omega, (h.1 x (List.mem_of_getElem? hx)).1, fun hm => ?_⟩
    obtain ⟨i, hi⟩ := List.getElem?_of_mem hm
    rw [List.getElem?_take] at hi
    split at hi
    · rename_i hij
      have h2 := List.pairwise_iff_getElem.1 h.2 i j (List.getElem?_eq_some_iff.1 hi).1 (List.getElem?_eq_some_iff.1 hx).1 hij
      exact h2 (by rw [(List.getElem?_eq_some_iff.1 hi).2, (List.getElem?_eq_some_iff.1 hx).2])
    · cases hi

end Go.Proofs.Ytdpefnebghljoaa
