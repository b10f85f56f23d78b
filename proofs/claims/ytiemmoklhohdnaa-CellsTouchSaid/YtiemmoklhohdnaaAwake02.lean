/- The example of the chapter on cells ('awake'). -/
import Derived.Test.YtiemmoklhohdnaaDo02
import Derived.Test.YtiemmoklhohdnaaInts
namespace Go.Proofs.Ytiemmoklhohdnaa
open Go.RowKit

set_option maxHeartbeats 1000000 in
theorem awake_any (w : World) : Calls Try.prog 10 #[] w fun e w' => e = .returned (.bool true) ∧ Fr [] w w' := by
  go_enter Try.func10, Try.ntmps10
  go_wp2_with fail
  refine (new_any 2 w (by omega) (by omega)).mono ?_
  rintro e w1 ⟨p, q, rfl, hp, hq, hm, f1⟩
  go_wp2_with fail
  refine (add_any w1 p q _ 0 1 5 hm (by omega) (by omega)).mono ?_
  rintro e w2 ⟨he, hm2, f2⟩
  rw [show loadV (List.replicate (Int.toNat 2) 0) 1 = 0 from by decide] at he
  rw [show addL (List.replicate (Int.toNat 2) 0) 1 5 = [0, 5] from by kernel_rfl, show (0 : Int) + tch (List.replicate (Int.toNat 2) 0) 1 = 1 from by decide] at hm2
  subst he
  go_wp2_with fail
  refine (cas_any w2 p q _ 1 1 5 7 hm2 (by omega) (by omega)).mono ?_
  rintro e w3 ⟨he, hm3, f3⟩
  rw [show casB [0, 5] 1 5 = true from by decide] at he
  rw [show casL [0, 5] 1 5 7 = [0, 7] from by decide, show (1 : Int) + tch [0, 5] 1 = 2 from by decide] at hm3
  subst he
  go_wp2_with fail
  refine (cas_any w3 p q _ 2 2 0 1 hm3 (by omega) (by omega)).mono ?_
  rintro e w4 ⟨he, hm4, f4⟩
  rw [show casB [0, 7] 2 0 = false from by decide] at he
  rw [show casL [0, 7] 2 0 1 = [0, 7] from by decide, show (2 : Int) + tch [0, 7] 2 = 2 from by decide] at hm4
  subst he
  go_wp2_with fail
  refine (load_any w4 p q _ 2 1 hm4 (by omega) (by omega)).mono ?_
  rintro e w5 ⟨he, hm5, f5⟩
  rw [show loadV [0, 7] 1 = 7 from by decide] at he
  rw [show (2 : Int) + tch [0, 7] 1 = 3 from by decide] at hm5
  subst he
  go_wp2_with fail
  refine (touched_any w5 p q _ 3 hm5).mono ?_
  rintro e w' ⟨rfl, rfl⟩
  go_wp2_with fail
  refine (many_any w5 p q _ 3 hm5).mono ?_
  rintro e w' ⟨rfl, rfl⟩
  go_wp2_with fail
  refine (words_any w5 p q _ 3 hm5 (by decide)).mono ?_
  rintro e w6 ⟨g, c, rfl, hown, f6⟩
  have hx := IntsAt.of_owns hown
  have hx1 := hx.fr ((Fr.refl [] w6).alloc (.cells #[.int .i64 0, .int .i64 7] 3)) (by simp)
  go_wp2_with fail
  refine (ints_same _ _ _ _ _ [0, 7] hx1 (IntsAt.lit w6 3 [0, 7] (by decide))).mono ?_
  rintro e w7 ⟨rfl, n, rfl⟩
  go_wp2
  go_ret
  refine ⟨rfl, ?_⟩
  exact ((((((f1.then2 f2 hp hq).then2 f3 hp hq).then2 f4 hp hq).then2 f5 hp hq).trans f6).alloc _).drewN n

end Go.Proofs.Ytiemmoklhohdnaa
