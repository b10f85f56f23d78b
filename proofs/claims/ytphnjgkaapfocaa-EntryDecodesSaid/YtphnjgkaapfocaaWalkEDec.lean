/- The walk of EntryDecodes. -/
import Derived.Test.YtphnjgkaapfocaaAwake13
namespace Go.Proofs.Ytphnjgkaapfocaa
open Go.RowKit

set_option maxHeartbeats 1000000 in
theorem decodes_walk (w : World) (g : Option Addr) (c : Nat) (B : List Int) (ha : BytsAt w g B) (hlc : B.length ≤ c) :
    Calls Try.prog 4 #[.slice g B.length c] w fun e w' => e = .returned (.bool true) ∧ Fr [] w w' := by
  have hl := ha.1
  have HA := Lib.hid ha; clear ha
  obtain ⟨n, hn⟩ : ∃ n, n = B.length := ⟨_, rfl⟩
  rw [← hn] at hl hlc ⊢
  have HN := Lib.hid hn; clear hn
  go_enter Try.func4, Try.ntmps4
  go_wp2_with fail
  refine (awake_any _).mono ?_
  rintro e w1 ⟨rfl, F1⟩
  by_cases hlen : (400 : Int) < (n : Int)
  · go_wp2
    go_ret
    exact ⟨rfl, F1⟩
  · go_wp2_with fail
    rw [HN.out]
    refine (decode_any _ _ _ B (HA.out.fr F1 (by simp)) (by rw [← HN.out]; exact hlc)).mono ?_
    intro e w2 h2
    obtain ⟨g2, c2, rfl, hE2, -, f2⟩ := dec_val h2
    have hL := decL_len B
    obtain ⟨D, hD⟩ : ∃ D, D = decL B := ⟨_, rfl⟩
    obtain ⟨er, her⟩ : ∃ er, er = decE B := ⟨_, rfl⟩
    obtain ⟨len, hlen2⟩ : ∃ len, len = D.length := ⟨_, rfl⟩
    rw [← hD] at hE2 hL ⊢
    rw [← hlen2] at hL
    rw [← her, ← hlen2, ← HN.out]
    have HD := Lib.hid hD; have HER := Lib.hid her; have HLEN := Lib.hid hlen2
    have HE2 := Lib.hid hE2
    have F2 := F1.trans f2
    clear hD her hlen2 hE2 h2 F1 f2
    go_wp2_with fail
    rw [HN.out]
    refine (ref_decode_any _ _ _ B (HA.out.fr F2 (by simp))).mono ?_
    intro e w3 h3
    obtain ⟨g3, c3, rfl, hE3, -, f3⟩ := dec_val h3
    rw [← HD.out] at hE3 ⊢
    rw [← HER.out, ← HLEN.out, ← HN.out]
    have HE3 := Lib.hid hE3
    have HE23 := Lib.hid (HE2.out.fr f3 (by simp))
    have F3 := F2.trans f3
    clear hE3 h3 F2 f3 HE2
    go_wp2_with fail
    have q := fun c' c'' : Nat => same_any _ _ _ c' c'' D D HE23.out HE3.out
    rw [← HLEN.out, decide_eq_true rfl] at q
    refine (q _ _).mono ?_
    clear q
    rintro e w4 ⟨rfl, f4⟩
    have F4 := F3.trans f4
    clear F3 f4
    go_wp2
    go_ret
    exact ⟨rfl, F4⟩

end Go.Proofs.Ytphnjgkaapfocaa
