/- The walk of EntryCut. -/
import Derived.Test.YtphnjgkaapfocaaAwake13
namespace Go.Proofs.Ytphnjgkaapfocaa
open Go.RowKit

theorem BytsAt.take {w : World} {g : Option Addr} {L : List Int} (h : BytsAt w g L) (k : Nat) : BytsAt w g (L.take k) :=
  ⟨Nat.le_trans (by rw [List.length_take]; exact Nat.min_le_right _ _) h.1, fun x hx => h.2.1 x (List.mem_of_mem_take hx), fun j x hx => by rw [List.getElem?_take] at hx; split at hx; exact h.2.2 j x hx; cases hx⟩
theorem EntsAt.take {w : World} {g : Option Addr} {L : List EntV} (h : EntsAt w g L) (k : Nat) : EntsAt w g (L.take k) :=
  ⟨Nat.le_trans (by rw [List.length_take]; exact Nat.min_le_right _ _) h.1, fun j x hx => by rw [List.getElem?_take] at hx; split at hx; exact h.2 j x hx; cases hx⟩

set_option maxHeartbeats 4000000 in
set_option maxRecDepth 100000 in
theorem cut_walk (w : World) (g : Option Addr) (c : Nat) (L : List EntV) (at' : Int) (ha : EntsAt w g L) (hlc : L.length ≤ c) (h0 : 0 ≤ at') (h1 : at' ≤ 65535) :
    Calls Try.prog 8 #[.slice g L.length c, .int .u16 at'] w fun e w' => e = .returned (.bool true) ∧ Fr [] w w' := by
  have hl := ha.1
  have HA := Lib.hid ha; clear ha
  obtain ⟨n, hn⟩ : ∃ n, n = L.length := ⟨_, rfl⟩
  rw [← hn] at hl hlc ⊢
  have HN := Lib.hid hn; clear hn
  go_enter Try.func8, Try.ntmps8
  go_wp2_with fail
  refine (awake_any _).mono ?_
  rintro e w1 ⟨rfl, F1⟩
  by_cases hlen : (30 : Int) < (n : Int)
  · go_wp2
    go_ret
    exact ⟨rfl, F1⟩
  · have H1000 := Lib.hid (show L.length ≤ 1000 by have := HN.out; omega)
    go_wp2_with fail
    rw [HN.out]
    refine (encode_any _ _ _ L (HA.out.fr F1 (by simp))).mono ?_
    intro e w2 h2
    by_cases hok : ∀ x ∈ L, x.ok
    · obtain ⟨g2, c2, rfl, hE2, hc2, f2⟩ := enc_yes h2 H1000.out hok
      have hlf := length_forms L
      rw [← HN.out] at hlf
      obtain ⟨fl, hfl⟩ : ∃ fl, fl = (forms L).length := ⟨_, rfl⟩
      rw [← hfl] at hlf hc2 ⊢
      have HFL := Lib.hid hfl
      have HE2 := Lib.hid hE2; have HOK := Lib.hid hok
      have F2 := F1.trans f2
      rw [← HN.out]
      have hfl12 : (fl : Int) = 12 * (n : Int) := by omega
      have hfle : fl ≤ 360 := by omega
      have HLF := Lib.hid hlf
      clear hE2 h2 F1 f2 hfl hok hlf
      obtain ⟨k, hk⟩ : ∃ k : Nat, at' % (12 * (n : Int) + 1) = (k : Int) := ⟨(at' % (12 * (n : Int) + 1)).toNat, by have := Int.emod_nonneg at' (show 12 * (n : Int) + 1 ≠ 0 by omega); omega⟩
      have hkl : (k : Int) ≤ 12 * (n : Int) := by have := Int.emod_lt_of_pos at' (show 0 < 12 * (n : Int) + 1 by omega); omega
      have hkl2 : k ≤ fl := by omega
      have hkc : k ≤ c2 := by omega
      have hkc' : (k : Int) ≤ (c2 : Int) := by omega
      have hkn : k ≤ 360 := by omega
      have hlk : ((forms L).take k).length = k := by rw [List.length_take, ← HFL.out]; omega
      have HLK := Lib.hid hlk; clear hlk
      go_wp2_with fail
      have q := decode_any w2 g2 c2 ((forms L).take k) (HE2.out.take k) (by rw [HLK.out]; exact hkc)
      rw [HLK.out] at q
      refine q.mono ?_
      clear q
      intro e w3 h3
      obtain ⟨g3, c3, rfl, hE3, -, f3⟩ := dec_val h3
      have F3 := F2.trans f3
      by_cases h12 : (k : Int) % 12 = 0
      · obtain ⟨j, hj⟩ : ∃ j : Nat, k = 12 * j := ⟨k / 12, by omega⟩
        have hjn : j ≤ n := by omega
        have hlj : (L.take j).length = j := by rw [List.length_take, ← HN.out]; omega
        have hft : (forms L).take k = forms (L.take j) := by rw [hj, forms_take]
        have hv := dec_of_forms (L := L.take j) (by omega) (fun x hx => HOK.out x (List.mem_of_mem_take hx))
        rw [hft, hv.1] at hE3 ⊢
        rw [hv.2, hlj]
        have HLJ := Lib.hid hlj; have HE3 := Lib.hid hE3
        have hkj : (k : Int) / 12 = (j : Int) := by omega
        have hjc : (j : Int) ≤ (c : Int) := by omega
        clear hE3 h3 F2 f3 hft hv hlj hj HLK HLF
        go_wp2_with fail
        have q := fun c' c'' : Nat => same_any w3 g3 g c' c'' (L.take j) (L.take j) HE3.out ((HA.out.fr F3 (by simp)).take j)
        rw [HLJ.out, decide_eq_true rfl] at q
        refine (q _ _).mono ?_
        clear q
        rintro e w4 ⟨rfl, f4⟩
        have F4 := F3.trans f4
        clear F3 f4 HE3
        go_wp2
        go_ret
        exact ⟨rfl, F4⟩
      · have hne : ((forms L).take k).length % 12 ≠ 0 := by rw [HLK.out]; omega
        rw [show decL ((forms L).take k) = [] from if_neg (fun h => hne h.1), show decE ((forms L).take k) = 12 from if_pos hne, List.length_nil]
        clear hE3 h3 F2 f3 hne HLK HLF
        go_wp2
        go_ret
        exact ⟨rfl, F3⟩
    · obtain ⟨rfl, f2⟩ := enc_no h2 H1000.out hok
      rw [← HN.out]
      have F2 := F1.trans f2
      clear h2 F1 f2 hok
      go_wp2
      go_ret
      exact ⟨rfl, F2⟩

end Go.Proofs.Ytphnjgkaapfocaa
