/- The examples of the chapter on rounds ('awake'). -/
import Derived.Test.YtahkkodeppeknaaRoundF
namespace Go.Proofs.Ytahkkodeppeknaa
open Go.RowKit

set_option maxHeartbeats 1000000 in
theorem awake_any (w : World) : Calls Try.prog 8 #[] w fun e w' => e = .returned (.bool true) ∧ Fr [] w w' := by
  go_enter Try.func8, Try.ntmps8
  go_wp2_with fail
  refine (of_any w 5 3 (by decide) (by decide) (by decide) (by decide)).mono ?_
  rintro e w1 ⟨s, rfl, hs, f1⟩
  rw [show ofSeq 5 3 = [3, 4, 0, 1, 2] from by kernel_rfl] at hs
  have HS := Lib.hid hs; clear hs
  go_wp2_with fail
  refine (list_seq w1 s _ (by decide) HS.out).mono ?_
  rintro e w2 ⟨g, c, rfl, hx, f2⟩
  have hx1 := hx.fr ((Fr.refl [] w2).alloc (.cells #[.int .i64 3, .int .i64 4, .int .i64 0, .int .i64 1, .int .i64 2] 3)) (by simp)
  have F2 := f1.trans f2
  have HX := Lib.hid hx1; clear hx hx1
  go_wp2_with fail
  refine (ints_same _ _ _ _ _ [3, 4, 0, 1, 2] HX.out (IntsAt.lit w2 3 [3, 4, 0, 1, 2] (by decide))).mono ?_
  rintro e w3 ⟨rfl, n, rfl⟩
  have F3 := (F2.alloc (.cells #[.int .i64 3, .int .i64 4, .int .i64 0, .int .i64 1, .int .i64 2] 3)).drewN n
  have HS3 := Lib.hid (HS.out.later ((f2.alloc (.cells #[.int .i64 3, .int .i64 4, .int .i64 0, .int .i64 1, .int .i64 2] 3)).drewN n))
  clear HX
  generalize (w2.alloc (.cells #[.int .i64 3, .int .i64 4, .int .i64 0, .int .i64 1, .int .i64 2] 3)).drewN n = w3 at F3 HS3 ⊢
  go_wp2_with fail
  refine (second_any w3 s _ HS3.out).mono ?_
  rintro e w4 ⟨s2, rfl, hs2, f4⟩
  rw [show secondL [(3 : Int), 4, 0, 1, 2] = [3, 0, 2] from rfl] at hs2
  have HS2 := Lib.hid hs2; clear hs2
  have HS4 := Lib.hid (HS3.out.later f4)
  have F4 := F3.trans f4
  go_wp2_with fail
  refine (list_seq w4 s2 _ (by decide) HS2.out).mono ?_
  rintro e w5 ⟨g5, c5, rfl, hx, f5⟩
  have hx1 := hx.fr ((Fr.refl [] w5).alloc (.cells #[.int .i64 3, .int .i64 0, .int .i64 2] 3)) (by simp)
  have HX := Lib.hid hx1; clear hx hx1
  go_wp2_with fail
  refine (ints_same _ _ _ _ _ [3, 0, 2] HX.out (IntsAt.lit w5 3 [3, 0, 2] (by decide))).mono ?_
  rintro e w6 ⟨rfl, n6, rfl⟩
  have F6 := ((F4.trans f5).alloc (.cells #[.int .i64 3, .int .i64 0, .int .i64 2] 3)).drewN n6
  have HS6 := Lib.hid (HS4.out.later ((f5.alloc (.cells #[.int .i64 3, .int .i64 0, .int .i64 2] 3)).drewN n6))
  clear HX
  generalize (w5.alloc (.cells #[.int .i64 3, .int .i64 0, .int .i64 2] 3)).drewN n6 = w6 at F6 HS6 ⊢
  go_wp2_with fail
  refine (first_any w6 s _ 2 (by decide) HS6.out).mono ?_
  rintro e w7 ⟨s7, rfl, hs7, f7⟩
  rw [show List.take (Int.toNat 2) [(3 : Int), 4, 0, 1, 2] = [3, 4] from rfl] at hs7
  have HS7 := Lib.hid hs7; clear hs7
  have F7 := F6.trans f7
  go_wp2_with fail
  refine (list_seq w7 s7 _ (by decide) HS7.out).mono ?_
  rintro e w8 ⟨g8, c8, rfl, hx, f8⟩
  have hx1 := hx.fr ((Fr.refl [] w8).alloc (.cells #[.int .i64 3, .int .i64 4] 3)) (by simp)
  have HX := Lib.hid hx1; clear hx hx1
  go_wp2_with fail
  refine (ints_same _ _ _ _ _ [3, 4] HX.out (IntsAt.lit w8 3 [3, 4] (by decide))).mono ?_
  rintro e w9 ⟨rfl, n9, rfl⟩
  have F9 := ((F7.trans f8).alloc (.cells #[.int .i64 3, .int .i64 4] 3)).drewN n9
  clear HX
  go_wp2
  go_ret
  exact ⟨rfl, F9⟩

end Go.Proofs.Ytahkkodeppeknaa
