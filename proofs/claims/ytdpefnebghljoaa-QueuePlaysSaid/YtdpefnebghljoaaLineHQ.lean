/- The layer 'line': its calls on words of lines. -/
import Derived.Test.YtdpefnebghljoaaLinePQ
namespace Go.Proofs.Ytdpefnebghljoaa
open Go.RowKit Go.Shelf
attribute [local go_sem] Oper.semAt_some

theorem len_L (w : World) (L : List Int) (h : Ln L) : Calls Try.prog 51 #[.int .i64 (wd L : Int)] w fun e w' => e = .returned (.int .i64 (L.length : Int)) ∧ Fr [] w w' := by
  have := len_any w (wd L) (by have := wd_lt h; omega)
  rwa [digW_wd h] at this
theorem has_L (w : World) (L : List Int) (who : Int) (h : Ln L) : Calls Try.prog 52 #[.int .i64 (wd L : Int), .int .i64 who] w fun e w' => e = .returned (.bool (decide (who ∈ L))) ∧ Fr [] w w' := by
  have := has_any w (wd L) who (by have := wd_lt h; omega)
  rwa [digW_wd h] at this
theorem head_L (w : World) (L : List Int) (h : Ln L) : Calls Try.prog 56 #[.int .i64 (wd L : Int)] w fun e w' => e = .returned (headV L) ∧ Fr [] w w' := by
  have := head_any w (wd L) (by have := wd_lt h; omega)
  rwa [digW_wd h] at this
/-- Of a line: without who, and whether who stood there. -/
theorem drop_L (w : World) (L : List Int) (who : Int) (h : Ln L) : Calls Try.prog 65 #[.int .i64 (wd L : Int), .int .i64 who] w fun e w' =>
    e = .returned (.tuple #[.int .i64 (wd (rm L who) : Int), .bool (decide (who ∈ L))]) ∧ Fr [] w w' := by
  refine (drop_any w (wd L) who (by have := wd_lt h; omega)).mono fun e w' => ?_
  rintro ⟨f, ⟨hm, rfl⟩ | ⟨k, hk, -, rfl⟩⟩
  · rw [digW_wd h] at hm
    exact ⟨by rw [rm_self hm, decide_eq_false hm], f⟩
  · rw [digW_wd h] at hk
    exact ⟨by rw [wd_drop h hk, decide_eq_true (List.mem_of_getElem? hk)], f⟩
/-- A number is a line's word. -/
def IsL (q : Int) : Prop := ∃ L, Ln L ∧ q = (wd L : Int)
theorem isL_nat (n : Nat) (hn : n < 9223372036854775808) : IsL (n : Int) ↔ Ln (digW n) := by
  constructor
  · rintro ⟨L, h, e⟩
    have : n = wd L := by omega
    rw [this, digW_wd h]; exact h
  · intro h
    exact ⟨_, h, by rw [wd_digW hn]⟩
set_option maxHeartbeats 400000 in
theorem pop_L (w : World) (L : List Int) (h : Ln L) : Calls Try.prog 66 #[.int .i64 (wd L : Int)] w fun e w' => e = .returned (.int .i64 (wd L.tail : Int)) ∧ Fr [] w w' := by
  have hlt := wd_lt h
  have ht := wd_tail h
  rw [← ht]
  clear ht
  generalize wd L = n at hlt ⊢
  go_enter Try.func66, Try.ntmps66
  go_wp2
  go_ret
  exact ⟨by first | rfl | simp, Fr.refl _ _⟩

/-- A line with one more, where it can stand there. -/
def pushL (L : List Int) (x : Int) : List Int := if Ln (L ++ [x]) then L ++ [x] else L
theorem Ln.push {L : List Int} (h : Ln L) (x : Int) : Ln (pushL L x) := by unfold pushL; split <;> assumption

set_option maxHeartbeats 1000000 in
theorem push_L (w : World) (L : List Int) (who : Int) (h : Ln L) : Calls Try.prog 62 #[.int .i64 (wd L : Int), .int .i64 who] w fun e w' =>
    e = .returned (.tuple #[.int .i64 (wd (pushL L who) : Int), .bool (decide (Ln (L ++ [who])))]) ∧ Fr [] w w' := by
  have hlt := wd_lt h
  have hl15 := h.length
  obtain ⟨c, hc⟩ : ∃ c, c = L.length := ⟨_, rfl⟩
  obtain ⟨n, hn⟩ : ∃ n, n = wd L := ⟨_, rfl⟩
  have HN := Lib.hid hn
  have HC := Lib.hid hc
  rw [← hn] at hlt ⊢
  rw [← hc] at hl15
  clear hn hc
  have hno : ¬ (0 ≤ who ∧ who ≤ 14 ∧ who ∉ L) → (wd (pushL L who) : Int) = (n : Int) ∧ decide (Ln (L ++ [who])) = false := fun hh => by
    have h1 : ¬ Ln (L ++ [who]) := fun h2 => hh ((ln_snoc h).1 h2)
    exact ⟨by unfold pushL; rw [if_neg h1, HN.out], decide_eq_false h1⟩
  have hyes : 0 ≤ who → who ≤ 14 → who ∉ L → (wd (pushL L who) : Int) = (n : Int) + (who + 1) * 2 ^ (4 * c) ∧ decide (Ln (L ++ [who])) = true ∧ c < 15 ∧ (who + 1) * 2 ^ (4 * c) ≤ 1152921504606846976 ∧ (n : Int) + (who + 1) * 2 ^ (4 * c) ≤ 1152921504606846976 := fun a1 a2 a3 => by
    have h1 : Ln (L ++ [who]) := (ln_snoc h).2 ⟨a1, a2, a3⟩
    have h2 := wd_lt h1
    have h3 := h1.length
    rw [List.length_append, List.length_singleton, ← HC.out] at h3
    rw [wd_snoc] at h2
    have e : (((who + 1).toNat * 16 ^ L.length : Nat) : Int) = (who + 1) * 2 ^ (4 * c) := by
      rw [HC.out, show (16 : Nat) ^ L.length = 2 ^ (4 * L.length) by rw [Nat.pow_mul], Int.natCast_mul, Int.toNat_of_nonneg (by omega)]
      simp
    refine ⟨?_, decide_eq_true h1, by omega, ?_, ?_⟩
    · unfold pushL; rw [if_pos h1, wd_snoc, HN.out, Int.natCast_add, e]
    · rw [← e]; omega
    · rw [← e, HN.out]; omega
  have HNO := Lib.hid hno; have HY := Lib.hid hyes; have HH := Lib.hid h
  have hlen := len_L
  clear hno hyes
  go_enter Try.func62, Try.ntmps62
  go_wp2_with fail
  rw [HN.out]
  refine (len_L _ L h).mono ?_
  rintro e w1 ⟨rfl, f1⟩
  rw [← HN.out, ← HC.out]
  clear h hlen
  by_cases ha : who < 0
  · have HB := Lib.hid (HNO.out (by omega))
    go_wp2
    go_ret2
    exact ⟨by rw [HB.out.1, HB.out.2]; rfl, f1⟩
  · by_cases hb : 14 < who
    · have HB := Lib.hid (HNO.out (by omega))
      go_wp2
      go_ret2
      exact ⟨by rw [HB.out.1, HB.out.2]; rfl, f1⟩
    · by_cases hd : 15 ≤ (c : Int)
      · have HB := Lib.hid (HNO.out (fun hh => by have := (HY.out hh.1 hh.2.1 hh.2.2).2.2.1; omega))
        go_wp2
        go_ret2
        exact ⟨by rw [HB.out.1, HB.out.2]; rfl, f1⟩
      · go_wp2_with fail
        rw [HN.out]
        refine (has_L _ L who HH.out).mono ?_
        rintro e w2 ⟨rfl, f2⟩
        rw [← HN.out]
        have F2 := f1.trans f2
        by_cases hm : who ∈ L
        · have HB := Lib.hid (HNO.out (fun hh => hh.2.2 hm))
          rw [decide_eq_true hm]
          clear hm
          go_wp2
          go_ret2
          exact ⟨by rw [HB.out.1, HB.out.2]; rfl, F2⟩
        · obtain ⟨y1, y2, y3, y4, y5⟩ := HY.out (by omega) (by omega) hm
          rw [decide_eq_false hm]
          clear hm
          have Y := Lib.hid (And.intro y1 y2)
          have hsh : ∀ x a : Int, 0 ≤ x → x ≤ 64 → Op.shift .shl .i64 a .i64 x = pure (.int .i64 (IntKind.i64.wrap (a * 2 ^ x.toNat))) := fun x a h0 h1 => shift_shl .i64 .i64 a x h0 h1
          have hsh2 := hsh (4 * (c : Int)) (who + 1) (by omega) (by omega)
          rw [show (4 * (c : Int)).toNat = 4 * c by omega] at hsh2
          have hp0 : 0 ≤ (who + 1) * 2 ^ (4 * c) := Int.mul_nonneg (by omega) (Int.pow_nonneg (by decide))
          rw [show IntKind.i64.wrap ((who + 1) * 2 ^ (4 * c)) = (who + 1) * 2 ^ (4 * c) by rw [IntKind.wrap_i64]; omega] at hsh2
          obtain ⟨X, hX⟩ : ∃ X, X = (who + 1) * 2 ^ (4 * c) := ⟨_, rfl⟩
          have HX := Lib.hid hX
          rw [← hX] at hp0 y4 y5 hsh2
          clear hX hsh y1 y2
          go_wp2
          go_ret2
          exact ⟨by rw [Y.out.1, Y.out.2, ← HX.out, ← (show wrap64 ((n : Int) + wrap64 X) = (n : Int) + X by unfold wrap64; omega)]; rfl, F2⟩

end Go.Proofs.Ytdpefnebghljoaa
