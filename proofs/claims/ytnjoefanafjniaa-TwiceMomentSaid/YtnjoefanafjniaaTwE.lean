/- Two lists: whether they are one. -/
import Derived.Test.YtnjoefanafjniaaTwT
namespace Go.Proofs.Ytnjoefanafjniaa
open Go.RowKit

theorem take_snocI {L : List Int} {k : Nat} {x : Int} (h : L[k]? = some x) : L.take (k + 1) = L.take k ++ [x] := by
  rw [List.take_add_one, h]; rfl

set_option maxHeartbeats 800000 in
/-- Two lists of numbers: whether they are one. -/
theorem ints_any (w : World) (g h : Option Addr) (c d : Nat) (L M : List Int) (ha : IntsAt w g L) (hb : IntsAt w h M) :
    Calls Try.prog 19 #[.slice g L.length c, .slice h M.length d] w fun e w' => e = .returned (.bool (decide (L = M))) ∧ Fr [] w w' := by
  have hl := ha.1
  have hm := hb.1
  by_cases hlen : L.length = M.length
  · by_cases hn : L = []
    · subst hn
      have : M = [] := List.eq_nil_of_length_eq_zero hlen.symm
      subst this
      refine (ints_same w g h c d [] ha hb).mono ?_
      rintro e w' ⟨rfl, n, rfl⟩
      exact ⟨rfl, (Fr.refl _ _).drewN n⟩
    · have hn2 : M ≠ [] := fun e => hn (List.eq_nil_of_length_eq_zero (by rw [hlen, e]; rfl))
      obtain ⟨ba, oa, rfl, hca⟩ := ha.base hn
      obtain ⟨bb, ob, rfl, hcb⟩ := hb.base hn2
      have Ha := Lib.hid hca; have Hb := Lib.hid hcb; clear hca hcb hn hn2 ha hb hm
      rw [← hlen]
      obtain ⟨len, hl2⟩ : ∃ n, n = L.length := ⟨_, rfl⟩
      rw [← hl2] at hl hlen ⊢
      have HL := Lib.hid hl2; have HL2 := Lib.hid hlen; clear hl2 hlen
      go_enter Try.func19, Try.ntmps19
      go_wp2
      go_loopw [5] (fun i wr => ∃ k n : Nat, k ≤ len ∧ i = .int .i64 k ∧ wr = w.drewN n ∧ L.take k = M.take k) (fun i _ => len - (intOf i).toNat)
      case atStart => exact ⟨0, 0, Nat.zero_le _, rfl, rfl, rfl⟩
      case round =>
        obtain ⟨k, n, hk, rfl, rfl, hT⟩ := hrel
        have HT := Lib.hid hT; clear hT
        by_cases hlt : k < len
        · have hx := getElem?_nat (L := L) (k := k) (by rw [← HL.out]; exact hlt)
          have hy := getElem?_nat (L := M) (k := k) (by rw [← HL2.out]; exact hlt)
          have ga := Ha.out k _ hx
          have gb := Hb.out k _ hy
          generalize L.getD k 0 = x at ga hx
          generalize M.getD k 0 = y at gb hy
          have HX := Lib.hid hx; have HY := Lib.hid hy; clear hx hy
          have hlt' : (k : Int) < (len : Int) := by omega
          have hk0 : (0 : Int) ≤ (k : Int) := by omega
          by_cases he : x = y
          · subst he
            go_wp2
            go_quiet (fail)
            go_wp2
            go_roundw
            case rel => exact ⟨k + 1, _, by omega, by go_num, rfl, by rw [take_snocI HX.out, take_snocI HY.out, HT.out]⟩
            case measure => simp [intOf]; omega
          · have hne := Lib.hid (show L ≠ M from fun e => he (by have := HX.out; rw [e, HY.out] at this; exact (Option.some.inj this).symm))
            go_wp2
            go_quiet (fail)
            go_wp2
            go_ret
            exact ⟨by rw [decide_eq_false hne.out]; rfl, ((Fr.refl _ _).drewN n).drewN _⟩
        · have heq := Lib.hid (show L = M from by
            have := HT.out
            rw [List.take_of_length_le (by have := HL.out; omega), List.take_of_length_le (by have := HL2.out; omega)] at this
            exact this)
          go_wp2
          go_ret
          exact ⟨by rw [decide_eq_true heq.out]; rfl, (Fr.refl _ _).drewN n⟩
  · have hne := Lib.hid (show L ≠ M from fun e => hlen (by rw [e]))
    have hc : ¬ (L.length : Int) = (M.length : Int) := by omega
    clear hlen ha hb
    generalize L.length = a at hl hc ⊢
    generalize M.length = b at hm hc ⊢
    go_enter Try.func19, Try.ntmps19
    go_wp2
    go_ret
    exact ⟨by rw [decide_eq_false hne.out]; rfl, Fr.refl _ _⟩

set_option maxHeartbeats 800000 in
/-- Two lists of numbers: whether they are one. -/
theorem equal_any (w : World) (g h : Option Addr) (c d : Nat) (L M : List Int) (ha : IntsAt w g L) (hb : IntsAt w h M) :
    Calls Try.prog 33 #[.slice g L.length c, .slice h M.length d] w fun e w' => e = .returned (.bool (decide (L = M))) ∧ Fr [] w w' := by
  have hl := ha.1
  have hm := hb.1
  by_cases hlen : L.length = M.length
  · by_cases hn : L = []
    · subst hn
      have : M = [] := List.eq_nil_of_length_eq_zero hlen.symm
      subst this
      go_enter Try.func33, Try.ntmps33
      go_wp2
      go_loopw [13] (fun i wr => i = .int .i64 0 ∧ wr = w) (fun _ _ => 0)
      case atStart => exact ⟨rfl, rfl⟩
      case round =>
        obtain ⟨rfl, rfl⟩ := hrel
        go_wp2
        go_ret
        exact ⟨rfl, Fr.refl _ _⟩
    · have hn2 : M ≠ [] := fun e => hn (List.eq_nil_of_length_eq_zero (by rw [hlen, e]; rfl))
      obtain ⟨ba, oa, rfl, hca⟩ := ha.base hn
      obtain ⟨bb, ob, rfl, hcb⟩ := hb.base hn2
      have Ha := Lib.hid hca; have Hb := Lib.hid hcb; clear hca hcb hn hn2 ha hb hm
      rw [← hlen]
      obtain ⟨len, hl2⟩ : ∃ n, n = L.length := ⟨_, rfl⟩
      rw [← hl2] at hl hlen ⊢
      have HL := Lib.hid hl2; have HL2 := Lib.hid hlen; clear hl2 hlen
      go_enter Try.func33, Try.ntmps33
      go_wp2
      go_loopw [13] (fun i wr => ∃ k n : Nat, k ≤ len ∧ i = .int .i64 k ∧ wr = w.drewN n ∧ L.take k = M.take k) (fun i _ => len - (intOf i).toNat)
      case atStart => exact ⟨0, 0, Nat.zero_le _, rfl, rfl, rfl⟩
      case round =>
        obtain ⟨k, n, hk, rfl, rfl, hT⟩ := hrel
        have HT := Lib.hid hT; clear hT
        by_cases hlt : k < len
        · have hx := getElem?_nat (L := L) (k := k) (by rw [← HL.out]; exact hlt)
          have hy := getElem?_nat (L := M) (k := k) (by rw [← HL2.out]; exact hlt)
          have ga := Ha.out k _ hx
          have gb := Hb.out k _ hy
          generalize L.getD k 0 = x at ga hx
          generalize M.getD k 0 = y at gb hy
          have HX := Lib.hid hx; have HY := Lib.hid hy; clear hx hy
          have hlt' : (k : Int) < (len : Int) := by omega
          have hk0 : (0 : Int) ≤ (k : Int) := by omega
          by_cases he : x = y
          · subst he
            go_wp2
            go_quiet (fail)
            go_wp2
            go_roundw
            case rel => exact ⟨k + 1, _, by omega, by go_num, rfl, by rw [take_snocI HX.out, take_snocI HY.out, HT.out]⟩
            case measure => simp [intOf]; omega
          · have hne := Lib.hid (show L ≠ M from fun e => he (by have := HX.out; rw [e, HY.out] at this; exact (Option.some.inj this).symm))
            go_wp2
            go_quiet (fail)
            go_wp2
            go_ret
            exact ⟨by rw [decide_eq_false hne.out]; rfl, ((Fr.refl _ _).drewN n).drewN _⟩
        · have heq := Lib.hid (show L = M from by
            have := HT.out
            rw [List.take_of_length_le (by have := HL.out; omega), List.take_of_length_le (by have := HL2.out; omega)] at this
            exact this)
          go_wp2
          go_ret
          exact ⟨by rw [decide_eq_true heq.out]; rfl, (Fr.refl _ _).drewN n⟩
  · have hne := Lib.hid (show L ≠ M from fun e => hlen (by rw [e]))
    have hc : ¬ (L.length : Int) = (M.length : Int) := by omega
    clear hlen ha hb
    generalize L.length = a at hl hc ⊢
    generalize M.length = b at hm hc ⊢
    go_enter Try.func33, Try.ntmps33
    go_wp2
    go_ret
    exact ⟨by rw [decide_eq_false hne.out]; rfl, Fr.refl _ _⟩

end Go.Proofs.Ytnjoefanafjniaa
