/- The walk of LineBack. -/
import Derived.Test.YtngojpccemjikaaAwake06
namespace Go.Proofs.Ytngojpccemjikaa
open Go.RowKit Go.Shelf

theorem rm_snoc {L : List Int} {x : Int} (h : x ∉ L) : rm (L ++ [x]) x = L := by
  have := rm_self h
  simp only [rm] at this
  simp [rm, List.filter_append]
  simpa using this

set_option maxHeartbeats 1600000 in
theorem back_walk (w : World) (q r who : Int) (h2 : q ≤ 9223372036854775807) (h3 : r ≤ 9223372036854775807) :
    Calls Try.prog 7 #[.int .i64 q, .int .i64 r, .int .i64 who] w fun e w' => e = .returned (.bool true) ∧ Fr [] w w' := by
  go_enter Try.func7, Try.ntmps7
  go_wp2_with fail
  refine (awake_any _).mono ?_
  rintro e w1 ⟨rfl, F1⟩
  go_wp2_with fail
  refine (right_L _ q h2).mono ?_
  rintro e w2 ⟨x, rfl, hr, f2⟩
  have F2 := F1.trans f2; clear F1 f2
  cases x
  · clear hr
    go_wp2
    go_ret
    exact ⟨rfl, F2⟩
  · obtain ⟨L, hL, rfl⟩ := hr.1 rfl
    clear hr
    have HL := Lib.hid hL; clear hL
    go_wp2_with fail
    refine (right_L _ r h3).mono ?_
    rintro e w3 ⟨x, rfl, hr, f3⟩
    have F3 := F2.trans f3; clear F2 f3
    cases x
    · clear hr
      go_wp2
      go_ret
      exact ⟨rfl, F3⟩
    · obtain ⟨M, hM, rfl⟩ := hr.1 rfl
      clear hr
      have HM := Lib.hid hM; clear hM
      go_wp2_with fail
      refine (push_L _ L who HL.out).mono ?_
      rintro e w4 ⟨rfl, f4⟩
      have F4 := F3.trans f4; clear F3 f4
      have hl15 := HL.out.length
      by_cases hp : Ln (L ++ [who])
      · have hm := ((ln_snoc HL.out).1 hp).2.2
        rw [decide_eq_true hp, show pushL L who = L ++ [who] by unfold pushL; rw [if_pos hp]]
        have HP := Lib.hid hp; have HH := Lib.hid hm; clear hp hm
        go_wp2_with fail
        refine (drop_L _ (L ++ [who]) who HP.out).mono ?_
        rintro e w5 ⟨rfl, f5⟩
        rw [rm_snoc HH.out, decide_eq_true (show who ∈ L ++ [who] by simp)]
        have F5 := F4.trans f5; clear F4 f5
        go_wp2_with fail
        refine (len_L _ (L ++ [who]) HP.out).mono ?_
        rintro e w6 ⟨rfl, f6⟩
        rw [List.length_append, List.length_singleton]
        have F6 := F5.trans f6; clear F5 f6
        obtain ⟨len, hlen⟩ : ∃ len, len = L.length := ⟨_, rfl⟩
        rw [← hlen] at hl15 ⊢
        have HLEN := Lib.hid hlen; clear hlen
        rw [show ((len + 1 : Nat) : Int) = (len : Int) + 1 by omega]
        go_wp2_with fail
        refine (len_L _ L HL.out).mono ?_
        rintro e w7 ⟨rfl, f7⟩
        have F7 := F6.trans f7; clear F6 f7
        rw [← HLEN.out]
        go_wp2_with fail
        refine (has_L _ (L ++ [who]) who HP.out).mono ?_
        rintro e w8 ⟨rfl, f8⟩
        rw [decide_eq_true (show who ∈ L ++ [who] by simp)]
        have F8 := F7.trans f8; clear F7 f8
        go_wp2_with fail
        refine (has_L _ L who HL.out).mono ?_
        rintro e w9 ⟨rfl, f9⟩
        rw [decide_eq_false HH.out]
        have F9 := F8.trans f9; clear F8 f9
        go_wp2_with fail
        refine (list_L _ L HL.out).mono ?_
        rintro e w10 ⟨g1, c1, rfl, hx, f10, -⟩
        have HX := Lib.hid hx; clear hx
        have F10 := F9.trans f10; clear F9 f10
        go_wp2_with fail
        refine (list_L _ M HM.out).mono ?_
        rintro e w11 ⟨g2, c2, rfl, hy, f11, -⟩
        have HY := Lib.hid hy; clear hy
        have HX2 := Lib.hid (HX.out.fr f11 (by simp)); clear HX
        have F11 := F10.trans f11; clear F10 f11
        go_wp2_with fail
        refine (ints_any _ _ _ _ _ L M HX2.out HY.out).mono ?_
        rintro e w12 ⟨rfl, f12⟩
        have F12 := F11.trans f12; clear F11 f12
        by_cases hlm : L = M
        · subst hlm
          rw [decide_eq_true rfl]
          go_wp2
          go_ret
          exact ⟨rfl, F12⟩
        · have hne : ¬ ((wd L : Nat) : Int) = ((wd M : Nat) : Int) := fun e => hlm (wd_inj HL.out HM.out (by omega))
          rw [decide_eq_false hlm]
          clear hlm
          have hb := Lib.hid (show (((wd L : Nat) : Int) == ((wd M : Nat) : Int)) = false by simpa using hne)
          go_wp2
          go_ret
          exact ⟨by rw [hb.out]; rfl, F12⟩
      · rw [decide_eq_false hp, show pushL L who = L by unfold pushL; rw [if_neg hp]]
        clear hp
        have F9 := F4; clear F4
        generalize w4 = w9 at F9 ⊢
        go_wp2_with fail
        refine (list_L _ L HL.out).mono ?_
        rintro e w10 ⟨g1, c1, rfl, hx, f10, -⟩
        have HX := Lib.hid hx; clear hx
        have F10 := F9.trans f10; clear F9 f10
        go_wp2_with fail
        refine (list_L _ M HM.out).mono ?_
        rintro e w11 ⟨g2, c2, rfl, hy, f11, -⟩
        have HY := Lib.hid hy; clear hy
        have HX2 := Lib.hid (HX.out.fr f11 (by simp)); clear HX
        have F11 := F10.trans f11; clear F10 f11
        go_wp2_with fail
        refine (ints_any _ _ _ _ _ L M HX2.out HY.out).mono ?_
        rintro e w12 ⟨rfl, f12⟩
        have F12 := F11.trans f12; clear F11 f12
        by_cases hlm : L = M
        · subst hlm
          rw [decide_eq_true rfl]
          go_wp2
          go_ret
          exact ⟨rfl, F12⟩
        · have hne : ¬ ((wd L : Nat) : Int) = ((wd M : Nat) : Int) := fun e => hlm (wd_inj HL.out HM.out (by omega))
          rw [decide_eq_false hlm]
          clear hlm
          have hb := Lib.hid (show (((wd L : Nat) : Int) == ((wd M : Nat) : Int)) = false by simpa using hne)
          go_wp2
          go_ret
          exact ⟨by rw [hb.out]; rfl, F12⟩

end Go.Proofs.Ytngojpccemjikaa
