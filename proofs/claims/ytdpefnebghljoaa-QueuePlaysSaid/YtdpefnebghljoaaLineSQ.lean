/- The document's answers for lines: whether a line can be, whether a word is one, and the word of some; and the program's word of some. -/
import Derived.Test.YtdpefnebghljoaaLineRQ
namespace Go.Proofs.Ytdpefnebghljoaa
open Go.RowKit Go.Shelf

theorem ln_step {L : List Int} {k : Nat} {x : Int} (h : Ln (L.take k)) (hx : L[k]? = some x) (h1 : 0 ≤ x) (h2 : x ≤ 14) (h3 : ∀ (j : Nat) (y : Int), j < k → L[j]? = some y → y ≠ x) : Ln (L.take (k + 1)) := by
  rw [take_snocI hx]
  refine (ln_snoc h).2 ⟨h1, h2, fun hm => ?_⟩
  obtain ⟨j, hj⟩ := List.getElem?_of_mem hm
  rw [List.getElem?_take] at hj
  split at hj
  · exact h3 j x (by assumption) hj rfl
  · cases hj
theorem not_ln_at {L : List Int} {k : Nat} {x : Int} (hx : L[k]? = some x) (h : x < 0 ∨ 14 < x) : ¬ Ln L := fun hh => by have := hh.1 x (List.mem_of_getElem? hx); omega
theorem not_ln_two {L : List Int} {j k : Nat} {x : Int} (hj : j < k) (hx : L[k]? = some x) (hy : L[j]? = some x) : ¬ Ln L := fun hh => by
  have h2 := List.pairwise_iff_getElem.1 hh.2 j k (List.getElem?_eq_some_iff.1 hy).1 (List.getElem?_eq_some_iff.1 hx).1 hj
  exact h2 (by rw [(List.getElem?_eq_some_iff.1 hy).2, (List.getElem?_eq_some_iff.1 hx).2])

set_option maxHeartbeats 1600000 in
set_option maxRecDepth 100000 in
theorem ref_can_any (w : World) (g : Option Addr) (c : Nat) (L : List Int) (ha : IntsAt w g L) :
    Calls Try.prog 37 #[.slice g L.length c] w fun e w' => e = .returned (.bool (decide (Ln L))) ∧ Fr [] w w' := by
  have hl := ha.1
  by_cases hn : L = []
  · subst hn
    go_enter Try.func37, Try.ntmps37
    go_wp2
    go_loopw [3] (fun i wr => i = .int .i64 0 ∧ wr = w) (fun _ _ => 0)
    case atStart => exact ⟨rfl, rfl⟩
    case round =>
      obtain ⟨rfl, rfl⟩ := hrel
      go_wp2
      go_ret
      exact ⟨by rw [decide_eq_true Ln.nil]; rfl, Fr.refl _ _⟩
  · obtain ⟨ba, oa, rfl, hca⟩ := ha.base hn
    have Ha := Lib.hid hca; clear hca hn
    obtain ⟨len, hlen⟩ : ∃ n, n = L.length := ⟨_, rfl⟩
    rw [← hlen] at hl ⊢
    have HL := Lib.hid hlen; clear hlen ha
    go_enter Try.func37, Try.ntmps37
    go_wp2
    go_loopw [3] (fun i wr => ∃ k : Nat, k ≤ len ∧ i = .int .i64 (k : Int) ∧ Ln (L.take k) ∧ Fr [] w wr) (fun i _ => len - (intOf i).toNat)
    case atStart => exact ⟨0, Nat.zero_le _, rfl, Ln.nil, Fr.refl _ _⟩
    case round =>
      obtain ⟨k, hk, rfl, hln, f⟩ := hrel
      have HN := Lib.hid hln; clear hln
      by_cases hlt : k < len
      · have hx := getElem?_nat (L := L) (k := k) (by rw [← HL.out]; exact hlt)
        have ga := f.cell (Ha.out k _ hx) (by simp)
        generalize L.getD k 0 = x at ga hx
        have HX := Lib.hid hx
        clear hx
        have hlt' : (k : Int) < (len : Int) := by omega
        have hk0 : (0 : Int) ≤ (k : Int) := by omega
        by_cases hx0 : x < 0
        · have hm := Lib.hid (not_ln_at HX.out (.inl hx0))
          go_wp2
          go_ret
          exact ⟨by rw [decide_eq_false hm.out]; rfl, f⟩
        · by_cases hx1 : 14 < x
          · have hm := Lib.hid (not_ln_at HX.out (.inr hx1))
            go_wp2
            go_ret
            exact ⟨by rw [decide_eq_false hm.out]; rfl, f⟩
          · have hx2 : 0 ≤ x := by omega
            have hx3 : x ≤ 14 := by omega
            go_wp2
            go_loopw [4] (fun i wr => ∃ j : Nat, j ≤ k ∧ i = .int .i64 (j : Int) ∧ (∀ (i : Nat) (y : Int), i < j → L[i]? = some y → y ≠ x) ∧ Fr [] w wr) (fun i _ => k - (intOf i).toNat)
            case atStart => exact ⟨0, Nat.zero_le _, rfl, fun i y h => by omega, f⟩
            case round =>
              clear ga f
              obtain ⟨j, hj, rfl, hno, f⟩ := hrel
              have HNO := Lib.hid hno; clear hno
              by_cases hjk : j < k
              · have hy := getElem?_nat (L := L) (k := j) (by rw [← HL.out]; omega)
                have gb := f.cell (Ha.out j _ hy) (by simp)
                have ga := f.cell (Ha.out k _ HX.out) (by simp)
                generalize L.getD j 0 = y at gb hy
                have HY := Lib.hid hy
                clear hy
                have hjk' : (j : Int) < (k : Int) := by omega
                have hj0 : (0 : Int) ≤ (j : Int) := by omega
                have hjl : (j : Int) < (len : Int) := by omega
                by_cases he : y = x
                · subst he
                  have hm := Lib.hid (not_ln_two hjk HX.out HY.out)
                  go_wp2
                  go_quiet (fail)
                  go_wp2
                  go_ret
                  exact ⟨by rw [decide_eq_false hm.out]; rfl, f.drewN _⟩
                · have HE := Lib.hid he
                  go_wp2
                  go_quiet (fail)
                  go_wp2
                  go_roundw
                  case rel => exact ⟨j + 1, by omega, by go_num, fun i z hi hz => by
                    rcases Nat.lt_or_ge i j with h | h
                    · exact HNO.out i z h hz
                    · obtain rfl : i = j := by omega
                      rw [HY.out] at hz
                      simp only [Option.some.injEq] at hz
                      exact hz ▸ HE.out, f.drewN _⟩
                  case measure => simp [intOf]; omega
              · have hjk2 : j = k := by omega
                have HS := Lib.hid (ln_step HN.out HX.out hx2 hx3 (by rw [← hjk2]; exact HNO.out))
                have hge : ¬ (j : Int) < (k : Int) := by omega
                clear hjk2 hjk hj
                go_wp2
                go_roundw
                case rel => exact ⟨k + 1, by omega, by go_num, HS.out, f⟩
                case measure => simp [intOf]; omega
      · have hkN : L.take k = L := List.take_of_length_le (by rw [← HL.out]; omega)
        have hm := HN.out
        rw [hkN] at hm
        have h15 := hm.length
        rw [← HL.out] at h15
        have HM := Lib.hid hm
        clear hkN hm
        go_wp2
        go_ret
        exact ⟨by rw [decide_eq_true HM.out, ← decide_eq_true (show (len : Int) ≤ 15 by omega)]; rfl, f⟩

/-- The word of some, and whether they are a line. -/
def ofV (L : List Int) : Value := .tuple #[.int .i64 (if Ln L then (wd L : Int) else 0), .bool (decide (Ln L))]
theorem ofV_yes {L : List Int} (h : Ln L) : ofV L = .tuple #[.int .i64 (wd L : Int), .bool true] := by unfold ofV; rw [if_pos h, decide_eq_true h]
theorem ofV_no {L : List Int} (h : ¬ Ln L) : ofV L = .tuple #[.int .i64 0, .bool false] := by unfold ofV; rw [if_neg h, decide_eq_false h]
def IsLPost (w : World) (q : Int) (e : Ending) (w' : World) : Prop := ∃ r : Bool, e = .returned (.bool r) ∧ (r = true ↔ IsL q) ∧ Fr [] w w'

set_option maxHeartbeats 800000 in
set_option maxRecDepth 100000 in
theorem ref_right_any (w : World) (q : Int) (h1 : -9223372036854775808 ≤ q) (h2 : q ≤ 9223372036854775807) : Calls Try.prog 17 #[.int .i64 q] w (IsLPost w q) := by
  go_enter Try.func17, Try.ntmps17
  go_wp2_with fail
  refine (ref_list_any _ q h2).mono ?_
  rintro e w1 ⟨g, c, rfl, ha, f1, hc⟩
  obtain ⟨L, hL⟩ : ∃ L, L = refLi q := ⟨_, rfl⟩
  rw [← hL] at ha hc ⊢
  have HL := Lib.hid hL; clear hL
  have HA := Lib.hid ha
  have hl := ha.1
  clear ha
  go_wp2_with fail
  refine (ref_can_any _ _ _ L HA.out).mono ?_
  rintro e w2 ⟨rfl, f2⟩
  have F2 := f1.trans f2
  by_cases hq : 0 ≤ q
  · by_cases h : Ln L
    · rw [decide_eq_true h]
      have H := Lib.hid h
      have hlt := wd_lt h
      clear h
      go_wp2_with fail
      refine (ref_word_any _ _ _ L H.out (HA.out.fr f2 (by simp))).mono ?_
      rintro e w3 ⟨rfl, f3⟩
      have F3 := F2.trans f3
      have hr : decide ((wd L : Int) = q) = true ↔ IsL q := by
        rw [decide_eq_true_iff]
        constructor
        · intro e; exact ⟨L, H.out, e.symm⟩
        · rintro ⟨M, hM, e⟩
          have := HL.out
          rw [e, refLi_wd hM] at this
          rw [this, e]
      have HR := Lib.hid hr; clear hr
      go_wp2
      go_ret
      exact ⟨_, rfl, HR.out, F3⟩
    · have hr := Lib.hid (show ¬ IsL q from fun ⟨M, hM, e⟩ => by
        have := HL.out
        rw [e, refLi_wd hM] at this
        exact h (this ▸ hM))
      rw [decide_eq_false h]
      clear h
      go_wp2
      go_ret
      exact ⟨false, rfl, ⟨fun h => (by cases h), fun h => (hr.out h).elim⟩, F2⟩
  · have hr := Lib.hid (show ¬ IsL q from fun ⟨M, hM, e⟩ => by omega)
    go_wp2
    go_ret
    exact ⟨false, rfl, ⟨fun h => (by cases h), fun h => (hr.out h).elim⟩, F2⟩

set_option maxHeartbeats 800000 in
set_option maxRecDepth 100000 in
/-- Two lists of numbers: whether they are one. -/
theorem ints_any (w : World) (g h : Option Addr) (c d : Nat) (L M : List Int) (ha : IntsAt w g L) (hb : IntsAt w h M) :
    Calls Try.prog 18 #[.slice g L.length c, .slice h M.length d] w fun e w' => e = .returned (.bool (decide (L = M))) ∧ Fr [] w w' := by
  have hl := ha.1
  have hm := hb.1
  by_cases hlen : L.length = M.length
  · by_cases hn : L = []
    · subst hn
      have : M = [] := List.eq_nil_of_length_eq_zero hlen.symm
      subst this
      refine (ints_same w g h c d [] ha hb).mono ?_
      rintro e w' ⟨rfl, n, rfl⟩
      exact ⟨rfl, (Fr.refl _ _).drewN n⟩
    · have hn2 : M ≠ [] := fun e => hn (List.eq_nil_of_length_eq_zero (by rw [hlen, e]; rfl))
      obtain ⟨ba, oa, rfl, hca⟩ := ha.base hn
      obtain ⟨bb, ob, rfl, hcb⟩ := hb.base hn2
      have Ha := Lib.hid hca; have Hb := Lib.hid hcb; clear hca hcb hn hn2 ha hb hm
      rw [← hlen]
      obtain ⟨len, hl2⟩ : ∃ n, n = L.length := ⟨_, rfl⟩
      rw [← hl2] at hl hlen ⊢
      have HL := Lib.hid hl2; have HL2 := Lib.hid hlen; clear hl2 hlen
      go_enter Try.func18, Try.ntmps18
      go_wp2
      go_loopw [5] (fun i wr => ∃ k n : Nat, k ≤ len ∧ i = .int .i64 k ∧ wr = w.drewN n ∧ L.take k = M.take k) (fun i _ => len - (intOf i).toNat)
      case atStart => exact ⟨0, 0, Nat.zero_le _, rfl, rfl, rfl⟩
      case round =>
        obtain ⟨k, n, hk, rfl, rfl, hT⟩ := hrel
        have HT := Lib.hid hT; clear hT
        by_cases hlt : k < len
        · have hx := getElem?_nat (L := L) (k := k) (by rw [← HL.out]; exact hlt)
          have hy := getElem?_nat (L := M) (k := k) (by rw [← HL2.out]; exact hlt)
          have ga := Ha.out k _ hx
          have gb := Hb.out k _ hy
          generalize L.getD k 0 = x at ga hx
          generalize M.getD k 0 = y at gb hy
          have HX := Lib.hid hx; have HY := Lib.hid hy; clear hx hy
          have hlt' : (k : Int) < (len : Int) := by omega
          have hk0 : (0 : Int) ≤ (k : Int) := by omega
          by_cases he : x = y
          · subst he
            go_wp2
            go_quiet (fail)
            go_wp2
            go_roundw
            case rel => exact ⟨k + 1, _, by omega, by go_num, rfl, by rw [take_snocI HX.out, take_snocI HY.out, HT.out]⟩
            case measure => simp [intOf]; omega
          · have hne := Lib.hid (show L ≠ M from fun e => he (by have := HX.out; rw [e, HY.out] at this; exact (Option.some.inj this).symm))
            go_wp2
            go_quiet (fail)
            go_wp2
            go_ret
            exact ⟨by rw [decide_eq_false hne.out]; rfl, ((Fr.refl _ _).drewN n).drewN _⟩
        · have heq := Lib.hid (show L = M from by
            have := HT.out
            rw [List.take_of_length_le (by have := HL.out; omega), List.take_of_length_le (by have := HL2.out; omega)] at this
            exact this)
          go_wp2
          go_ret
          exact ⟨by rw [decide_eq_true heq.out]; rfl, (Fr.refl _ _).drewN n⟩
  · have hne := Lib.hid (show L ≠ M from fun e => hlen (by rw [e]))
    have hc : ¬ (L.length : Int) = (M.length : Int) := by omega
    clear hlen ha hb
    generalize L.length = a at hl hc ⊢
    generalize M.length = b at hm hc ⊢
    go_enter Try.func18, Try.ntmps18
    go_wp2
    go_ret
    exact ⟨by rw [decide_eq_false hne.out]; rfl, Fr.refl _ _⟩

end Go.Proofs.Ytdpefnebghljoaa
