/- The walk of LineDrops. -/
import Derived.Test.YtngojpccemjikaaAwake06
namespace Go.Proofs.Ytngojpccemjikaa
open Go.RowKit Go.Shelf

set_option maxHeartbeats 1000000 in
theorem drops_walk (w : World) (q a b : Int) (h2 : q ≤ 9223372036854775807) :
    Calls Try.prog 4 #[.int .i64 q, .int .i64 a, .int .i64 b] w fun e w' => e = .returned (.bool true) ∧ Fr [] w w' := by
  go_enter Try.func4, Try.ntmps4
  go_wp2_with fail
  refine (awake_any _).mono ?_
  rintro e w1 ⟨rfl, F1⟩
  go_wp2_with fail
  refine (right_L _ q h2).mono ?_
  rintro e w2 ⟨r, rfl, hr, f2⟩
  have F2 := F1.trans f2; clear F1 f2
  cases r
  · clear hr
    go_wp2
    go_ret
    exact ⟨rfl, F2⟩
  · obtain ⟨L, hL, rfl⟩ := hr.1 rfl
    clear hr
    have HL := Lib.hid hL; clear hL
    have hl15 := HL.out.length
    have HC := Lib.hid (rm_comm L b a)
    go_wp2_with fail
    refine (drop_L _ L a HL.out).mono ?_
    rintro e w3 ⟨rfl, f3⟩
    have F3 := F2.trans f3; clear F2 f3
    generalize decide (a ∈ L) = x1
    go_wp2_with fail
    refine (drop_L _ (rm L a) b (HL.out.rm a)).mono ?_
    rintro e w4 ⟨rfl, f4⟩
    have F4 := F3.trans f4; clear F3 f4
    generalize decide (b ∈ rm L a) = x2
    go_wp2_with fail
    refine (drop_L _ L b HL.out).mono ?_
    rintro e w5 ⟨rfl, f5⟩
    have F5 := F4.trans f5; clear F4 f5
    generalize decide (b ∈ L) = x3
    go_wp2_with fail
    refine (drop_L _ (rm L b) a (HL.out.rm b)).mono ?_
    rintro e w6 ⟨rfl, f6⟩
    have F6 := F5.trans f6; clear F5 f6
    generalize decide (a ∈ rm L b) = x4
    rw [HC.out]
    have HY := Lib.hid ((HL.out.rm a).rm b)
    go_wp2_with fail
    refine (len_L _ L HL.out).mono ?_
    rintro e w7 ⟨rfl, f7⟩
    have F7 := F6.trans f7; clear F6 f7
    obtain ⟨len, hlen⟩ : ∃ len, len = L.length := ⟨_, rfl⟩
    rw [← hlen] at hl15 ⊢
    have HN := Lib.hid hlen; clear hlen
    go_wp2
    go_loopw [18, 17] (fun i q wr => ∃ k : Nat, k ≤ len ∧ i = .int .i64 (k : Int) ∧ q = .int .i64 (wd (L.drop k) : Int) ∧ Fr [] w wr) (fun i _ _ => len - (intOf i).toNat)
    case atStart => exact ⟨0, Nat.zero_le _, rfl, rfl, F7⟩
    case round =>
      clear F7
      obtain ⟨k, hk, rfl, rfl, F⟩ := hrel
      have hD : Ln (L.drop k) := ⟨fun x hx => HL.out.1 x (List.mem_of_mem_drop hx), HL.out.2.sublist (List.drop_sublist _ _)⟩
      by_cases hlt : k < len
      · have hp := wd_pos hD (by intro e; have := congrArg List.length e; have := HN.out; simp at *; omega)
        have hne : ¬ ((wd (L.drop k) : Nat) : Int) = 0 := by omega
        have hlt' : (k : Int) < (len : Int) := by omega
        have HD := Lib.hid hD; clear hD hp
        go_wp2_with fail
        refine (pop_L _ (L.drop k) HD.out).mono ?_
        rintro e w8 ⟨rfl, f8⟩
        rw [List.tail_drop]
        have F8 := F.trans f8; clear F f8
        go_wp2
        go_roundw
        case rel => exact ⟨k + 1, by omega, by go_num, rfl, F8⟩
        case measure => simp [intOf]; omega
      · rw [List.drop_eq_nil_of_le (by have := HN.out; omega), show ((wd [] : Nat) : Int) = 0 from rfl]
        clear hD
        go_wp2_with fail
        refine (right_yes _ (rm (rm L a) b) HY.out).mono ?_
        rintro e w8 ⟨rfl, f8⟩
        have F8 := F.trans f8; clear F f8
        go_wp2
        go_ret
        exact ⟨rfl, F8⟩

end Go.Proofs.Ytngojpccemjikaa
