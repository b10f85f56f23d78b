/- The walk of LineOf. -/
import Derived.Test.YtngojpccemjikaaAwake06
namespace Go.Proofs.Ytngojpccemjikaa
open Go.RowKit Go.Shelf

set_option maxHeartbeats 1000000 in
theorem of_walk (w : World) (g : Option Addr) (c : Nat) (L : List Int) (ha : IntsAt w g L) :
    Calls Try.prog 3 #[.slice g L.length c] w fun e w' => e = .returned (.bool true) ∧ Fr [] w w' := by
  have hl := ha.1
  have HA := Lib.hid ha; clear ha
  go_enter Try.func3, Try.ntmps3
  go_wp2_with fail
  refine (awake_any _).mono ?_
  rintro e w1 ⟨rfl, F1⟩
  by_cases hlen : (30 : Int) < (L.length : Int)
  · go_wp2
    go_ret
    exact ⟨rfl, F1⟩
  · by_cases h : Ln L
    · have H := Lib.hid h; clear h
      go_wp2_with fail
      refine (of_any _ _ _ L (HA.out.fr F1 (by simp))).mono ?_
      rintro e w2 ⟨rfl, f2⟩
      rw [ofV_yes H.out]
      have F2 := F1.trans f2; clear F1 f2
      go_wp2_with fail
      refine (ref_of_any _ _ _ L (HA.out.fr F2 (by simp))).mono ?_
      rintro e w3 ⟨rfl, f3⟩
      rw [ofV_yes H.out]
      have F3 := F2.trans f3; clear F2 f3
      go_wp2_with fail
      refine (right_yes _ L H.out).mono ?_
      rintro e w4 ⟨rfl, f4⟩
      have F4 := F3.trans f4; clear F3 f4
      go_wp2_with fail
      refine (list_L _ L H.out).mono ?_
      rintro e w5 ⟨g5, c5, rfl, hx, f5, -⟩
      have HX := Lib.hid hx; clear hx
      have F5 := F4.trans f5; clear F4 f5
      go_wp2_with fail
      refine (ints_same _ _ _ _ _ L HX.out (HA.out.fr F5 (by simp))).mono ?_
      rintro e w6 ⟨rfl, n, rfl⟩
      have F6 := F5.drewN n; clear F5
      go_wp2
      go_ret
      exact ⟨rfl, F6⟩
    · have H := Lib.hid h; clear h
      go_wp2_with fail
      refine (of_any _ _ _ L (HA.out.fr F1 (by simp))).mono ?_
      rintro e w2 ⟨rfl, f2⟩
      rw [ofV_no H.out]
      have F2 := F1.trans f2; clear F1 f2
      go_wp2_with fail
      refine (ref_of_any _ _ _ L (HA.out.fr F2 (by simp))).mono ?_
      rintro e w3 ⟨rfl, f3⟩
      rw [ofV_no H.out]
      have F3 := F2.trans f3; clear F2 f3
      go_wp2
      go_ret
      exact ⟨rfl, F3⟩

end Go.Proofs.Ytngojpccemjikaa
