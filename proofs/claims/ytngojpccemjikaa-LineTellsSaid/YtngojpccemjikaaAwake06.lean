/- The examples of the chapter on lines ('awake'). -/
import Derived.Test.YtngojpccemjikaaLineS
namespace Go.Proofs.Ytngojpccemjikaa
open Go.RowKit Go.Shelf

theorem ln20 : Ln [3, 0] := by decide
theorem wd20 : ((wd [3, 0] : Nat) : Int) = 20 := by decide
/-- The word of a line is right. -/
theorem right_yes (w : World) (L : List Int) (h : Ln L) : Calls Try.prog 12 #[.int .i64 (wd L : Int)] w fun e w' => e = .returned (.bool true) ∧ Fr [] w w' := by
  refine (right_L w (wd L : Int) (by have := wd_lt h; omega)).mono fun e w' => ?_
  rintro ⟨r, rfl, hr, f⟩
  obtain rfl : r = true := hr.2 ⟨L, h, rfl⟩
  exact ⟨rfl, f⟩
theorem push20 (w : World) : Calls Try.prog 21 #[.int .i64 20, .int .i64 5] w fun e w' => e = .returned (.tuple #[.int .i64 1556, .bool true]) ∧ Fr [] w w' := by
  have := push_L w [3, 0] 5 ln20
  rwa [wd20, show ((wd (pushL [3, 0] 5) : Nat) : Int) = 1556 by decide, show decide (Ln ([3, 0] ++ [5])) = true by decide] at this
theorem head20 (w : World) : Calls Try.prog 20 #[.int .i64 20] w fun e w' => e = .returned (.tuple #[.int .i64 3, .bool true]) ∧ Fr [] w w' := by
  have := head_L w [3, 0] ln20
  rwa [wd20, show headV [3, 0] = .tuple #[.int .i64 3, .bool true] from rfl] at this
theorem right20 (w : World) : Calls Try.prog 12 #[.int .i64 20] w fun e w' => e = .returned (.bool true) ∧ Fr [] w w' := by
  have := right_yes w [3, 0] ln20
  rwa [wd20] at this
theorem len20 (w : World) : Calls Try.prog 16 #[.int .i64 20] w fun e w' => e = .returned (.int .i64 2) ∧ Fr [] w w' := by
  have := len_L w [3, 0] ln20
  rwa [wd20] at this
theorem pop20 (w : World) : Calls Try.prog 17 #[.int .i64 20] w fun e w' => e = .returned (.int .i64 1) ∧ Fr [] w w' := by
  have := pop_L w [3, 0] ln20
  rwa [wd20] at this

set_option maxHeartbeats 1000000 in
theorem awake_any (w : World) : Calls Try.prog 9 #[] w fun e w' => e = .returned (.bool true) ∧ Fr [] w w' := by
  go_enter Try.func9, Try.ntmps9
  go_wp2_with fail
  refine (of_any _ _ _ [3, 0] (IntsAt.lit w 3 [3, 0] (by decide))).mono ?_
  rintro e w1 ⟨rfl, f1⟩
  rw [ofV_yes ln20, wd20]
  have F1 := ((Fr.refl [] w).alloc (.cells #[.int .i64 3, .int .i64 0] 3)).trans f1
  clear f1
  go_wp2_with fail
  refine (push20 _).mono ?_
  rintro e w2 ⟨rfl, f2⟩
  have F2 := F1.trans f2; clear F1 f2
  go_wp2_with fail
  refine (head20 _).mono ?_
  rintro e w3 ⟨rfl, f3⟩
  have F3 := F2.trans f3; clear F2 f3
  go_wp2_with fail
  refine (right20 _).mono ?_
  rintro e w4 ⟨rfl, f4⟩
  have F4 := F3.trans f4; clear F3 f4
  go_wp2_with fail
  refine (len20 _).mono ?_
  rintro e w5 ⟨rfl, f5⟩
  have F5 := F4.trans f5; clear F4 f5
  go_wp2_with fail
  refine (pop20 _).mono ?_
  rintro e w6 ⟨rfl, f6⟩
  have F6 := F5.trans f6; clear F5 f6
  go_wp2
  go_ret
  exact ⟨rfl, F6⟩

end Go.Proofs.Ytngojpccemjikaa
