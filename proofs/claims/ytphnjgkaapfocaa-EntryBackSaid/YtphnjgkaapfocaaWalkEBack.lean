/- The walk of EntryBack. -/
import Derived.Test.YtphnjgkaapfocaaAwake13
namespace Go.Proofs.Ytphnjgkaapfocaa
open Go.RowKit

set_option maxHeartbeats 4000000 in
set_option maxRecDepth 100000 in
theorem back_walk (w : World) (g gb : Option Addr) (c cb : Nat) (L : List EntV) (B : List Int) (ha : EntsAt w g L) (hb : BytsAt w gb B) (hbc : B.length ≤ cb) :
    Calls Try.prog 5 #[.slice g L.length c, .slice gb B.length cb] w fun e w' => e = .returned (.bool true) ∧ Fr [] w w' := by
  have hl := ha.1
  have hlb := hb.1
  have HA := Lib.hid ha; have HB := Lib.hid hb; clear ha hb
  obtain ⟨n, hn⟩ : ∃ n, n = L.length := ⟨_, rfl⟩
  obtain ⟨nb, hnb⟩ : ∃ nb, nb = B.length := ⟨_, rfl⟩
  rw [← hn] at hl ⊢
  rw [← hnb] at hlb hbc ⊢
  have HN := Lib.hid hn; have HNB := Lib.hid hnb; clear hn hnb
  go_enter Try.func5, Try.ntmps5
  go_wp2_with fail
  refine (awake_any _).mono ?_
  rintro e w1 ⟨rfl, F1⟩
  by_cases hlen : (30 : Int) < (n : Int)
  · go_wp2
    go_ret
    exact ⟨rfl, F1⟩
  · by_cases hlenb : (400 : Int) < (nb : Int)
    · go_wp2
      go_ret
      exact ⟨rfl, F1⟩
    · have h1000 : L.length ≤ 1000 := by have := HN.out; omega
      have H1000 := Lib.hid h1000; clear h1000
      go_wp2_with fail
      rw [HN.out]
      refine (encode_any _ _ _ L (HA.out.fr F1 (by simp))).mono ?_
      intro e w2 h2
      by_cases hok : ∀ x ∈ L, x.ok
      · obtain ⟨g2, c2, rfl, hE2, hc2, f2⟩ := enc_yes h2 H1000.out hok
        have hlf := length_forms L
        rw [← HN.out] at hlf
        obtain ⟨fl, hfl⟩ : ∃ fl, fl = (forms L).length := ⟨_, rfl⟩
        rw [← hfl] at hlf hc2 ⊢
        have HFL := Lib.hid hfl
        have HE2 := Lib.hid hE2; have HOK := Lib.hid hok
        have F2 := F1.trans f2
        rw [← HN.out]
        have HLF := Lib.hid hlf
        clear hE2 h2 F1 f2 hfl hok hlf
        go_wp2_with fail
        rw [HFL.out]
        refine (decode_any _ _ _ (forms L) HE2.out (by rw [← HFL.out]; exact hc2)).mono ?_
        intro e w3 h3
        obtain ⟨g3, c3, rfl, hE3, -, f3⟩ := dec_forms h3 H1000.out HOK.out
        rw [← HFL.out, ← HN.out]
        have HE3 := Lib.hid hE3
        have F3 := F2.trans f3
        clear hE3 h3 F2 f3 HE2
        go_wp2_with fail
        have q := fun c' c'' : Nat => same_any _ _ _ c' c'' L L (HA.out.fr F3 (by simp)) HE3.out
        rw [← HN.out, decide_eq_true rfl] at q
        refine (q _ _).mono ?_
        clear q
        rintro e w4 ⟨rfl, f4⟩
        have F4 := F3.trans f4
        clear F3 f4 HE3
        have hfl12 : (fl : Int) = 12 * (n : Int) := by have := HLF.out; omega
        go_wp2_with fail
        rw [HNB.out]
        refine (decode_any _ _ _ B (HB.out.fr F4 (by simp)) (by rw [← HNB.out]; exact hbc)).mono ?_
        intro e w5 h5
        obtain ⟨g5, c5, rfl, hE5, hc5, f5⟩ := dec_val h5
        have hML := decL_len B
        obtain ⟨M, hM⟩ : ∃ M, M = decL B := ⟨_, rfl⟩
        obtain ⟨er, her⟩ : ∃ er, er = decE B := ⟨_, rfl⟩
        obtain ⟨m, hm⟩ : ∃ m, m = M.length := ⟨_, rfl⟩
        rw [← hM] at hE5 hML ⊢
        rw [← hm] at hML
        rw [← her, ← hm, ← HNB.out]
        have HM := Lib.hid hM; have HER := Lib.hid her; have HMM := Lib.hid hm
        have HE5 := Lib.hid hE5
        have F5 := F4.trans f5
        clear hM her hm hE5 h5 F4 f5 hc5
        go_wp2_with fail
        rw [HMM.out]
        refine (encode_any _ _ _ M HE5.out).mono ?_
        intro e w6 h6
        by_cases her0 : decE B = 0
        · obtain ⟨z1, z2, z3⟩ := decE_0 HB.out.2.1 her0
          rw [← HM.out] at z1 z2 z3
          obtain ⟨g6, c6, rfl, hE6, -, f6⟩ := enc_yes h6 z3 z1
          rw [z2] at hE6 ⊢
          rw [← HNB.out, ← HMM.out]
          obtain rfl : er = 0 := HER.out.trans her0
          have F6 := F5.trans f6
          have q1 := conv_any hE6 c6
          have q2 := conv_any (HB.out.fr F6 (by simp)) cb
          rw [← HNB.out] at q1 q2
          generalize strOfNums B = str at q1 q2
          clear hE6 h6 F5 f6 z1 z2 z3 her0 HER
          go_wp2
          go_ret
          exact ⟨rfl, F6⟩
        · have hMn : M = [] := by rw [HM.out]; exact decL_bad her0
          obtain ⟨g6, c6, rfl, hE6, -, f6⟩ := enc_val h6
          have hm0 : m = 0 := by rw [HMM.out, hMn]; rfl
          rw [← HMM.out]
          subst hm0
          have hne : ¬ er = 0 := by rw [HER.out]; exact her0
          generalize (encB M).length = lm
          generalize encE M = em
          have F6 := F5.trans f6
          clear hE6 h6 F5 f6 her0 HER hMn
          go_wp2
          go_ret
          exact ⟨rfl, F6⟩
      · obtain ⟨rfl, f2⟩ := enc_no h2 H1000.out hok
        rw [← HN.out]
        have F4 := F1.trans f2
        clear h2 F1 f2 hok
        generalize w2 = w4 at F4 ⊢
        go_wp2_with fail
        rw [HNB.out]
        refine (decode_any _ _ _ B (HB.out.fr F4 (by simp)) (by rw [← HNB.out]; exact hbc)).mono ?_
        intro e w5 h5
        obtain ⟨g5, c5, rfl, hE5, hc5, f5⟩ := dec_val h5
        have hML := decL_len B
        obtain ⟨M, hM⟩ : ∃ M, M = decL B := ⟨_, rfl⟩
        obtain ⟨er, her⟩ : ∃ er, er = decE B := ⟨_, rfl⟩
        obtain ⟨m, hm⟩ : ∃ m, m = M.length := ⟨_, rfl⟩
        rw [← hM] at hE5 hML ⊢
        rw [← hm] at hML
        rw [← her, ← hm, ← HNB.out]
        have HM := Lib.hid hM; have HER := Lib.hid her; have HMM := Lib.hid hm
        have HE5 := Lib.hid hE5
        have F5 := F4.trans f5
        clear hM her hm hE5 h5 F4 f5 hc5
        go_wp2_with fail
        rw [HMM.out]
        refine (encode_any _ _ _ M HE5.out).mono ?_
        intro e w6 h6
        by_cases her0 : decE B = 0
        · obtain ⟨z1, z2, z3⟩ := decE_0 HB.out.2.1 her0
          rw [← HM.out] at z1 z2 z3
          obtain ⟨g6, c6, rfl, hE6, -, f6⟩ := enc_yes h6 z3 z1
          rw [z2] at hE6 ⊢
          rw [← HNB.out, ← HMM.out]
          obtain rfl : er = 0 := HER.out.trans her0
          have F6 := F5.trans f6
          have q1 := conv_any hE6 c6
          have q2 := conv_any (HB.out.fr F6 (by simp)) cb
          rw [← HNB.out] at q1 q2
          generalize strOfNums B = str at q1 q2
          clear hE6 h6 F5 f6 z1 z2 z3 her0 HER
          go_wp2
          go_ret
          exact ⟨rfl, F6⟩
        · have hMn : M = [] := by rw [HM.out]; exact decL_bad her0
          obtain ⟨g6, c6, rfl, hE6, -, f6⟩ := enc_val h6
          have hm0 : m = 0 := by rw [HMM.out, hMn]; rfl
          rw [← HMM.out]
          subst hm0
          have hne : ¬ er = 0 := by rw [HER.out]; exact her0
          generalize (encB M).length = lm
          generalize encE M = em
          have F6 := F5.trans f6
          clear hE6 h6 F5 f6 her0 HER hMn
          go_wp2
          go_ret
          exact ⟨rfl, F6⟩

end Go.Proofs.Ytphnjgkaapfocaa
