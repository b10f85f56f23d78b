/- The walk of 'RoundChains'. -/
import Derived.Test.YtahkkodeppeknaaAwake04
import Derived.Deep.RegionHeld3
namespace Go.Proofs.Ytahkkodeppeknaa
open Go.RowKit

theorem two_fits (w : World) : FitsAt Try.prog w (fun _ => False) 21 #[] (fun x => x.tmod 2 == 0) := by
  refine ⟨fun b h => h.elim, fun _ _ => rfl, fun W x _ => ?_⟩
  show Calls _ _ #[.int .i64 x] W _
  go_enter Try.func21, Try.ntmps21
  go_wp2
  go_ret
  refine ⟨?_, rfl⟩
  simp
theorem three_fits (w : World) : FitsAt Try.prog w (fun _ => False) 22 #[] (fun x => x.tmod 3 == 0) := by
  refine ⟨fun b h => h.elim, fun _ _ => rfl, fun W x _ => ?_⟩
  show Calls _ _ #[.int .i64 x] W _
  go_enter Try.func22, Try.ntmps22
  go_wp2
  go_ret
  refine ⟨?_, rfl⟩
  simp
theorem six_fits (w : World) : FitsAt Try.prog w (fun _ => False) 23 #[] (fun x => x.tmod 6 == 0) := by
  refine ⟨fun b h => h.elim, fun _ _ => rfl, fun W x _ => ?_⟩
  show Calls _ _ #[.int .i64 x] W _
  go_enter Try.func23, Try.ntmps23
  go_wp2
  go_ret
  refine ⟨?_, rfl⟩
  simp
theorem six_all (L : List Int) : (L.filter (fun x => x.tmod 2 == 0)).filter (fun x => x.tmod 3 == 0) = L.filter (fun x => x.tmod 6 == 0) := by
  rw [List.filter_filter]
  congr 1
  funext x
  have e : ∀ k : Int, (x.tmod k == 0) = decide (k ∣ x) := fun k => by
    rw [Bool.eq_iff_iff]; simp [Int.dvd_iff_tmod_eq_zero]
  rw [e, e, e, ← Bool.decide_and, decide_eq_decide]
  omega

set_option maxHeartbeats 4000000 in
theorem chains_walk (w : World) (many from' a b : Int) (h1 : 0 ≤ many) (h2 : many ≤ 255) (h3 : -9223372036854775808 ≤ from') (h4 : from' ≤ 9223372036854775807) (h5 : 0 ≤ a) (h6 : a ≤ 255) (h7 : 0 ≤ b) (h8 : b ≤ 255) :
    Calls Try.prog 6 #[.int .u8 many, .int .i64 from', .int .u8 a, .int .u8 b] w fun e w' => e = .returned (.bool true) ∧ Fr [] w w' := by
  go_enter Try.func6, Try.ntmps6
  go_wp2_with fail
  refine (awake_any w).mono ?_
  rintro e w1 ⟨rfl, f1⟩
  obtain ⟨L, hL⟩ : ∃ L, L = ofSeq (many % 101) from' := ⟨_, rfl⟩
  have hLn : (L.length : Int) = many % 101 := by rw [hL, length_ofSeq]; omega
  have hLl2 : L.length ≤ 100000 := by omega
  have hLl3 : L.length ≤ 100 := by omega
  obtain ⟨X, hX⟩ : ∃ X, X = (L.take a.toNat).take b.toNat := ⟨_, rfl⟩
  have hXl : X.length ≤ 100000 := by rw [hX]; simp; omega
  have hXa : a ≤ b → L.take a.toNat = X := fun h => by rw [hX, List.take_take]; congr 1; omega
  have hXb : b < a → L.take b.toNat = X := fun h => by rw [hX, List.take_take]; congr 1; omega
  obtain ⟨U, hU⟩ : ∃ U, U = L.filter (fun x => x.tmod 6 == 0) := ⟨_, rfl⟩
  have hUl : U.length ≤ 100000 := by rw [hU]; exact Nat.le_trans (List.length_filter_le _ _) (by omega)
  obtain ⟨Q, hQ⟩ : ∃ Q, Q = secondL (secondL L) := ⟨_, rfl⟩
  have hQn : Q.length = (L.length + 3) / 4 := by rw [hQ, length_secondL, length_secondL]; omega
  have hQl : Q.length ≤ 100000 := by omega
  have hQl3 : Q.length ≤ 100 := by omega
  have hQg : ∀ j, Q[j]? = L[4 * j]? := fun j => by rw [hQ, get_secondL, get_secondL]; congr 1; omega
  have HQg := Lib.hid hQg; have HQn := Lib.hid hQn; have HLn := Lib.hid hLn
  have HL := Lib.hid hL.symm; have HX := Lib.hid hX.symm; have HYa := Lib.hid hXa; have HYb := Lib.hid hXb; have HQ := Lib.hid hQ.symm
  have HU := Lib.hid ((six_all L).trans hU.symm); have HV := Lib.hid hU.symm
  clear hL hLn hX hXa hXb hU hQ hQn hQg
  go_wp2_with fail
  refine (of_any w1 (many % 101) from' (by omega) (by omega) (by omega) (by omega)).mono ?_
  rintro e w2 ⟨s, rfl, hs, f2⟩
  rw [HL.out] at hs
  have HS := Lib.hid hs; clear hs
  have F := f1.trans f2
  clear f1 f2
  go_wp2_with fail
  refine (first_any _ s L a (by omega) HS.out).mono ?_
  rintro e w3 ⟨s3, rfl, hs3, f3⟩
  replace HS := Lib.hid (HS.out.later f3)
  have H3 := Lib.hid hs3
  clear hs3
  replace F := F.trans f3
  clear f3
  go_wp2_with fail
  refine (first_any _ s3 _ b (by omega) H3.out).mono ?_
  rintro e w4 ⟨s4, rfl, hs4, f4⟩
  rw [HX.out] at hs4
  replace HS := Lib.hid (HS.out.later f4)
  replace H3 := Lib.hid (H3.out.later f4)
  have H4 := Lib.hid hs4
  clear hs4
  replace F := F.trans f4
  clear f4
  clear H3
  go_wp2_with fail
  refine (list_seq _ s4 X hXl H4.out).mono ?_
  rintro e w5 ⟨g5, c5, rfl, hi5, f5⟩
  replace HS := Lib.hid (HS.out.later f5)
  replace H4 := Lib.hid (H4.out.later f5)
  have HXX := Lib.hid hi5
  clear hi5
  replace F := F.trans f5
  clear f5
  clear H4
  go_wp2_with fail
  all_goals
    skip
    refine (first_any _ s L _ (by omega) HS.out).mono ?_
    rintro e w6 ⟨s6, rfl, hs6, f6⟩
    first | rw [HYa.out (by assumption)] at hs6 | rw [HYb.out (by assumption)] at hs6
    replace HS := Lib.hid (HS.out.later f6)
    replace HXX := Lib.hid (HXX.out.fr f6 (by simp))
    have H6 := Lib.hid hs6
    clear hs6
    replace F := F.trans f6
    clear f6
    go_wp2_with fail
    refine (list_seq _ s6 X hXl H6.out).mono ?_
    rintro e w7 ⟨g7, c7, rfl, hi7, f7⟩
    replace HS := Lib.hid (HS.out.later f7)
    replace HXX := Lib.hid (HXX.out.fr f7 (by simp))
    replace H6 := Lib.hid (H6.out.later f7)
    have HYY := Lib.hid hi7
    clear hi7
    replace F := F.trans f7
    clear f7
    clear H6
    go_wp2_with fail
    refine (where_any _ s L _ _ _ _ HS.out (two_fits _)).mono ?_
    rintro e w8 ⟨s8, rfl, hs8, f8⟩
    replace HS := Lib.hid (HS.out.later f8)
    replace HXX := Lib.hid (HXX.out.fr f8 (by simp))
    replace HYY := Lib.hid (HYY.out.fr f8 (by simp))
    have H8 := Lib.hid hs8
    clear hs8
    replace F := F.trans f8
    clear f8
    go_wp2_with fail
    refine (where_any _ s8 _ _ _ _ _ H8.out (three_fits _)).mono ?_
    rintro e w9 ⟨s9, rfl, hs9, f9⟩
    rw [HU.out] at hs9
    replace HS := Lib.hid (HS.out.later f9)
    replace HXX := Lib.hid (HXX.out.fr f9 (by simp))
    replace HYY := Lib.hid (HYY.out.fr f9 (by simp))
    replace H8 := Lib.hid (H8.out.later f9)
    have H9 := Lib.hid hs9
    clear hs9
    replace F := F.trans f9
    clear f9
    clear H8
    go_wp2_with fail
    refine (list_seq _ s9 U hUl H9.out).mono ?_
    rintro e w10 ⟨g10, c10, rfl, hi10, f10⟩
    replace HS := Lib.hid (HS.out.later f10)
    replace HXX := Lib.hid (HXX.out.fr f10 (by simp))
    replace HYY := Lib.hid (HYY.out.fr f10 (by simp))
    replace H9 := Lib.hid (H9.out.later f10)
    have HUU := Lib.hid hi10
    clear hi10
    replace F := F.trans f10
    clear f10
    clear H9
    go_wp2_with fail
    refine (where_any _ s L _ _ _ _ HS.out (six_fits _)).mono ?_
    rintro e w11 ⟨s11, rfl, hs11, f11⟩
    rw [HV.out] at hs11
    replace HS := Lib.hid (HS.out.later f11)
    replace HXX := Lib.hid (HXX.out.fr f11 (by simp))
    replace HYY := Lib.hid (HYY.out.fr f11 (by simp))
    replace HUU := Lib.hid (HUU.out.fr f11 (by simp))
    have H11 := Lib.hid hs11
    clear hs11
    replace F := F.trans f11
    clear f11
    go_wp2_with fail
    refine (list_seq _ s11 U hUl H11.out).mono ?_
    rintro e w12 ⟨g12, c12, rfl, hi12, f12⟩
    replace HS := Lib.hid (HS.out.later f12)
    replace HXX := Lib.hid (HXX.out.fr f12 (by simp))
    replace HYY := Lib.hid (HYY.out.fr f12 (by simp))
    replace HUU := Lib.hid (HUU.out.fr f12 (by simp))
    replace H11 := Lib.hid (H11.out.later f12)
    have HVV := Lib.hid hi12
    clear hi12
    replace F := F.trans f12
    clear f12
    clear H11
    go_wp2_with fail
    refine (second_any _ s L HS.out).mono ?_
    rintro e w13 ⟨s13, rfl, hs13, f13⟩
    replace HS := Lib.hid (HS.out.later f13)
    replace HXX := Lib.hid (HXX.out.fr f13 (by simp))
    replace HYY := Lib.hid (HYY.out.fr f13 (by simp))
    replace HUU := Lib.hid (HUU.out.fr f13 (by simp))
    replace HVV := Lib.hid (HVV.out.fr f13 (by simp))
    have H13 := Lib.hid hs13
    clear hs13
    replace F := F.trans f13
    clear f13
    go_wp2_with fail
    refine (second_any _ s13 _ H13.out).mono ?_
    rintro e w14 ⟨s14, rfl, hs14, f14⟩
    rw [HQ.out] at hs14
    replace HS := Lib.hid (HS.out.later f14)
    replace HXX := Lib.hid (HXX.out.fr f14 (by simp))
    replace HYY := Lib.hid (HYY.out.fr f14 (by simp))
    replace HUU := Lib.hid (HUU.out.fr f14 (by simp))
    replace HVV := Lib.hid (HVV.out.fr f14 (by simp))
    replace H13 := Lib.hid (H13.out.later f14)
    have H14 := Lib.hid hs14
    clear hs14
    replace F := F.trans f14
    clear f14
    clear H13
    go_wp2_with fail
    refine (list_seq _ s14 Q hQl H14.out).mono ?_
    rintro e w15 ⟨g15, c15, rfl, hi15, f15⟩
    replace HS := Lib.hid (HS.out.later f15)
    replace HXX := Lib.hid (HXX.out.fr f15 (by simp))
    replace HYY := Lib.hid (HYY.out.fr f15 (by simp))
    replace HUU := Lib.hid (HUU.out.fr f15 (by simp))
    replace HVV := Lib.hid (HVV.out.fr f15 (by simp))
    replace H14 := Lib.hid (H14.out.later f15)
    have HQQ := Lib.hid hi15
    clear hi15
    replace F := F.trans f15
    clear f15
    clear H14
    go_wp2_with fail
    refine (list_seq _ s L hLl2 HS.out).mono ?_
    rintro e w16 ⟨g16, c16, rfl, hi16, f16⟩
    replace HS := Lib.hid (HS.out.later f16)
    replace HXX := Lib.hid (HXX.out.fr f16 (by simp))
    replace HYY := Lib.hid (HYY.out.fr f16 (by simp))
    replace HUU := Lib.hid (HUU.out.fr f16 (by simp))
    replace HVV := Lib.hid (HVV.out.fr f16 (by simp))
    replace HQQ := Lib.hid (HQQ.out.fr f16 (by simp))
    have HLL := Lib.hid hi16
    clear hi16
    replace F := F.trans f16
    clear f16
    clear HS
    have hdiv : ((L.length : Int) + 3) / 4 = (Q.length : Int) := by have := HQn.out; omega
    obtain ⟨K, hK⟩ : ∃ K, K = Q.length := ⟨_, rfl⟩
    have HK := Lib.hid hK
    go_wp2
    clear hdiv
    rw [← HK.out]
    have hK3 : K ≤ 100 := by omega
    clear hK
    go_loopw [20] (fun i wr => ∃ k d : Nat, k ≤ K ∧ i = .int .i64 k ∧ wr = w16.drewN d) (fun i _ => K - (intOf i).toNat)
    case atStart => exact ⟨0, 0, Nat.zero_le _, rfl, rfl⟩
    case round =>
      obtain ⟨k, d, hk, rfl, rfl⟩ := hrel
      by_cases hlt : k < K
      · have hx := getElem?_nat (L := Q) (k := k) (by rw [← HK.out]; exact hlt)
        have hy := (HQg.out k).symm.trans hx
        have h4 : 4 * k < L.length := (List.getElem?_eq_some_iff.1 hy).1
        obtain ⟨bq, oq, hgq, cq⟩ := HQQ.out.2 k _ hx
        obtain ⟨bl, ol, hgl, cl⟩ := HLL.out.2 (4 * k) _ hy
        clear hx hy
        subst hgq
        subst hgl
        generalize Q.getD k 0 = x at cq cl
        have hlt' : (k : Int) < (K : Int) := by omega
        have hk0 : (0 : Int) ≤ (k : Int) := by omega
        have hk4 : 4 * (k : Int) < (L.length : Int) := by omega
        have h40 : (4 * (k : Int)).toNat = 4 * k := by omega
        go_wp2
        go_quiet (fail)
        go_wp2
        go_roundw
        case rel => exact ⟨k + 1, _, by omega, by go_num, rfl⟩
        case measure => simp [intOf]; omega
      · have hge : ¬ (k : Int) < (K : Int) := by omega
        go_wp2_with fail
        refine (ints_same _ _ _ _ _ X (HXX.out.drewN d) (HYY.out.drewN d)).mono ?_
        rintro e w' ⟨rfl, d1, rfl⟩
        go_wp2_with fail
        refine (ints_same _ _ _ _ _ U (HUU.out.drewN _) (HVV.out.drewN _)).mono ?_
        rintro e w' ⟨rfl, d2, rfl⟩
        have hLn := HLn.out
        rw [hLn]
        go_wp2
        go_ret
        exact ⟨rfl, F.drewN _⟩

end Go.Proofs.Ytahkkodeppeknaa
