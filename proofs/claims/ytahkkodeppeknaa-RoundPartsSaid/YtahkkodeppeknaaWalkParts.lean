/- The walk of 'RoundParts'. -/
import Derived.Test.YtahkkodeppeknaaAwake04
import Derived.Deep.RegionHeld3
namespace Go.Proofs.Ytahkkodeppeknaa
open Go.RowKit

theorem below_fits (w : World) (bb : Nat) (m : Int) (hc : w.cell? ⟨bb, 0, none⟩ = some (.int .i64 m)) : FitsAt Try.prog w (fun b => b = bb) 24 #[.pointer (some ⟨bb, 0, none⟩)] (fun x => decide (x < m)) := by
  refine ⟨fun b h => by subst h; exact World.block_lt_of_cell? w _ hc, fun _ _ => rfl, fun W x hW => ?_⟩
  have c1 : W.cell? ⟨bb, 0, none⟩ = some (.int .i64 m) := (World.cell?_of_block (w := w) (a := ⟨bb, 0, none⟩) (hW bb rfl)).trans hc
  show Calls _ _ #[.int .i64 x, .pointer (some ⟨bb, 0, none⟩)] W _
  clear hW hc
  go_enter Try.func24, Try.ntmps24
  go_wp2
  go_ret
  exact ⟨rfl, rfl⟩
theorem above_fits (w : World) (bb : Nat) (m : Int) (hc : w.cell? ⟨bb, 0, none⟩ = some (.int .i64 m)) : FitsAt Try.prog w (fun b => b = bb) 25 #[.pointer (some ⟨bb, 0, none⟩)] (fun x => decide (m ≤ x)) := by
  refine ⟨fun b h => by subst h; exact World.block_lt_of_cell? w _ hc, fun _ _ => rfl, fun W x hW => ?_⟩
  have c1 : W.cell? ⟨bb, 0, none⟩ = some (.int .i64 m) := (World.cell?_of_block (w := w) (a := ⟨bb, 0, none⟩) (hW bb rfl)).trans hc
  show Calls _ _ #[.int .i64 x, .pointer (some ⟨bb, 0, none⟩)] W _
  clear hW hc
  go_enter Try.func25, Try.ntmps25
  go_wp2
  go_ret
  exact ⟨rfl, rfl⟩
theorem parts_all (m : Int) : ∀ L : List Int, (L.filter (fun x => decide (x < m))).length + (L.filter (fun x => decide (m ≤ x))).length = L.length
  | [] => rfl
  | x :: t => by
    have := parts_all m t
    by_cases h : x < m
    · have h' : ¬ m ≤ x := by omega
      simp [h, h']; omega
    · have h' : m ≤ x := by omega
      simp [h, h']; omega

set_option maxHeartbeats 4000000 in
theorem parts_walk (w : World) (many from' below : Int) (h1 : 0 ≤ many) (h2 : many ≤ 255) (h3 : -9223372036854775808 ≤ from') (h4 : from' ≤ 9223372036854775807) :
    Calls Try.prog 7 #[.int .u8 many, .int .i64 from', .int .i64 below] w fun e w' => e = .returned (.bool true) ∧ Fr [] w w' := by
  go_enter Try.func7, Try.ntmps7
  have hc0 : (w.alloc (.cells #[.int .i64 below] 3)).cell? ⟨w.heap.size, 0, none⟩ = some (.int .i64 below) := cell_of (i := 0) (heap_alloc_new w _) rfl
  have HC := Lib.hid hc0; clear hc0
  go_wp2_with fail
  refine (awake_any _).mono ?_
  rintro e w1 ⟨rfl, f1⟩
  have F := ((Fr.refl [] w).alloc (.cells #[.int .i64 below] 3)).trans f1
  replace HC := Lib.hid (f1.cell HC.out (by simp))
  clear f1
  obtain ⟨L, hL⟩ : ∃ L, L = ofSeq (many % 101) from' := ⟨_, rfl⟩
  have hLn : (L.length : Int) = many % 101 := by rw [hL, length_ofSeq]; omega
  have hLl2 : L.length ≤ 100000 := by omega
  have hLl3 : L.length ≤ 100 := by omega
  obtain ⟨Y, hY⟩ : ∃ Y, Y = L.filter (fun x => decide (x < below)) := ⟨_, rfl⟩
  have hYl : Y.length ≤ 100000 := by rw [hY]; exact Nat.le_trans (List.length_filter_le _ _) (by omega)
  obtain ⟨Z, hZ⟩ : ∃ Z, Z = L.filter (fun x => decide (below ≤ x)) := ⟨_, rfl⟩
  have hZl : Z.length ≤ 100000 := by rw [hZ]; exact Nat.le_trans (List.length_filter_le _ _) (by omega)
  have hYZ : Y.length + Z.length = L.length := by rw [hY, hZ]; exact parts_all below L
  obtain ⟨S, hS⟩ : ∃ S, S = secondL L := ⟨_, rfl⟩
  have hSn : S.length = (L.length + 1) / 2 := by rw [hS, length_secondL]
  have hSl : S.length ≤ 100000 := by omega
  have HYZ := Lib.hid hYZ; have HSn := Lib.hid hSn; have HLn := Lib.hid hLn
  have HL := Lib.hid hL.symm; have HY := Lib.hid hY.symm; have HZ := Lib.hid hZ.symm; have HS2 := Lib.hid hS.symm
  clear hL hLn hY hZ hYZ hS hSn
  go_wp2_with fail
  refine (of_any w1 (many % 101) from' (by omega) (by omega) (by omega) (by omega)).mono ?_
  rintro e w2 ⟨s, rfl, hs, f2⟩
  rw [HL.out] at hs
  have HS := Lib.hid hs; clear hs
  replace F := F.trans f2
  replace HC := Lib.hid (f2.cell HC.out (by simp))
  clear f2
  go_wp2_with fail
  refine (where_any _ s L _ _ _ _ HS.out (below_fits _ w.heap.size below HC.out)).mono ?_
  rintro e w3 ⟨s3, rfl, hs3, f3⟩
  rw [HY.out] at hs3
  replace HS := Lib.hid (HS.out.later f3)
  have H3 := Lib.hid hs3
  clear hs3
  replace F := F.trans f3
  replace HC := Lib.hid (f3.cell HC.out (by simp))
  clear f3
  go_wp2_with fail
  refine (list_seq _ s3 Y hYl H3.out).mono ?_
  rintro e w4 ⟨g4, c4, rfl, hi4, f4⟩
  replace HS := Lib.hid (HS.out.later f4)
  replace H3 := Lib.hid (H3.out.later f4)
  have HYY := Lib.hid hi4
  clear hi4
  replace F := F.trans f4
  replace HC := Lib.hid (f4.cell HC.out (by simp))
  clear f4
  clear H3
  go_wp2_with fail
  refine (where_any _ s L _ _ _ _ HS.out (above_fits _ w.heap.size below HC.out)).mono ?_
  rintro e w5 ⟨s5, rfl, hs5, f5⟩
  rw [HZ.out] at hs5
  replace HS := Lib.hid (HS.out.later f5)
  replace HYY := Lib.hid (HYY.out.fr f5 (by simp))
  have H5 := Lib.hid hs5
  clear hs5
  replace F := F.trans f5
  replace HC := Lib.hid (f5.cell HC.out (by simp))
  clear f5
  go_wp2_with fail
  refine (list_seq _ s5 Z hZl H5.out).mono ?_
  rintro e w6 ⟨g6, c6, rfl, hi6, f6⟩
  replace HS := Lib.hid (HS.out.later f6)
  replace HYY := Lib.hid (HYY.out.fr f6 (by simp))
  replace H5 := Lib.hid (H5.out.later f6)
  have HZZ := Lib.hid hi6
  clear hi6
  replace F := F.trans f6
  replace HC := Lib.hid (f6.cell HC.out (by simp))
  clear f6
  clear H5
  go_wp2_with fail
  refine (list_seq _ s L hLl2 HS.out).mono ?_
  rintro e w7 ⟨g7, c7, rfl, hi7, f7⟩
  replace HS := Lib.hid (HS.out.later f7)
  replace HYY := Lib.hid (HYY.out.fr f7 (by simp))
  replace HZZ := Lib.hid (HZZ.out.fr f7 (by simp))
  have HLL := Lib.hid hi7
  clear hi7
  replace F := F.trans f7
  replace HC := Lib.hid (f7.cell HC.out (by simp))
  clear f7
  go_wp2
  go_loopw [13, 14, 15] (fun i k j wr => ∃ q a b d : Nat, q ≤ L.length ∧ a = ((L.take q).filter (fun x => decide (x < below))).length ∧ b = ((L.take q).filter (fun x => decide (below ≤ x))).length ∧ a ≤ q ∧ b ≤ q ∧ i = .int .i64 a ∧ k = .int .i64 b ∧ j = .int .i64 q ∧ wr = w7.drewN d) (fun _ _ j _ => L.length - (intOf j).toNat)
  case atStart => exact ⟨0, 0, 0, 0, Nat.zero_le _, rfl, rfl, Nat.le_refl _, Nat.le_refl _, rfl, rfl, rfl, rfl⟩
  case round =>
    obtain ⟨q, a, b, d, hq, ha, hb, haq, hbq, rfl, rfl, rfl, rfl⟩ := hrel
    have HA := Lib.hid ha; have HB := Lib.hid hb; clear ha hb
    have hq0 : (0 : Int) ≤ (q : Int) := by omega
    have ha0 : (0 : Int) ≤ (a : Int) := by omega
    have hb0 : (0 : Int) ≤ (b : Int) := by omega
    by_cases hlt : q < L.length
    · have hx := getElem?_nat (L := L) (k := q) hlt
      have hlt' : (q : Int) < (L.length : Int) := by omega
      obtain ⟨bl, ol, hgl, cl⟩ := HLL.out.2 q _ hx
      subst hgl
      generalize L.getD q 0 = x at cl hx
      by_cases hxb : x < below
      · have hya : Y[a]? = some x := by
          rw [← HY.out, HA.out]; exact filter_get _ _ _ _ hx (by simpa using hxb)
        have hal : a < Y.length := (List.getElem?_eq_some_iff.1 hya).1
        have hal' : (a : Int) < (Y.length : Int) := by omega
        obtain ⟨by', oy, hgy, cy⟩ := HYY.out.2 a _ hya
        subst hgy
        have HX := Lib.hid hx; clear hx hya
        have e1 : ((L.take (q + 1)).filter (fun x => decide (x < below))).length = a + 1 := by
          rw [filter_take_yes _ _ _ _ HX.out (by simpa using hxb), HA.out]
        have e2 : ((L.take (q + 1)).filter (fun x => decide (below ≤ x))).length = b := by
          rw [filter_take_no _ _ _ _ HX.out (by simpa using hxb), HB.out]
        have E1 := Lib.hid e1; have E2 := Lib.hid e2; clear e1 e2
        go_wp2
        go_quiet (fail)
        go_wp2
        go_roundw
        case rel => exact ⟨q + 1, a + 1, b, _, by omega, E1.out.symm, E2.out.symm, by omega, by omega, by go_num, rfl, by go_num, rfl⟩
        case measure => simp [intOf]; omega
      · have hzb : Z[b]? = some x := by
          rw [← HZ.out, HB.out]; exact filter_get _ _ _ _ hx (by simp; omega)
        have hbl : b < Z.length := (List.getElem?_eq_some_iff.1 hzb).1
        have hbl' : (b : Int) < (Z.length : Int) := by omega
        obtain ⟨bz, oz, hgz, cz⟩ := HZZ.out.2 b _ hzb
        subst hgz
        have HX := Lib.hid hx; clear hx hzb
        have e1 : ((L.take (q + 1)).filter (fun x => decide (x < below))).length = a := by
          rw [filter_take_no _ _ _ _ HX.out (by simpa using hxb), HA.out]
        have e2 : ((L.take (q + 1)).filter (fun x => decide (below ≤ x))).length = b + 1 := by
          rw [filter_take_yes _ _ _ _ HX.out (by simp; omega), HB.out]
        have E1 := Lib.hid e1; have E2 := Lib.hid e2; clear e1 e2
        by_cases hal : a < Y.length
        · have hal' : (a : Int) < (Y.length : Int) := by omega
          have hy := getElem?_nat (L := Y) (k := a) hal
          obtain ⟨by', oy, hgy, cy⟩ := HYY.out.2 a _ hy
          subst hgy
          have hyb : Y.getD a 0 < below := by
            have hm := List.mem_of_getElem? hy
            rw [← HY.out] at hm
            have := (List.mem_filter.1 hm).2
            rw [HY.out] at this
            simpa using this
          generalize Y.getD a 0 = y at cy hyb
          clear hy
          have hyx : ¬ y = x := by omega
          go_wp2
          go_quiet (fail)
          go_wp2
          go_quiet (fail)
          go_wp2
          go_roundw
          case rel => exact ⟨q + 1, a, b + 1, _, by omega, E1.out.symm, E2.out.symm, by omega, by omega, rfl, by go_num, by go_num, rfl⟩
          case measure => simp [intOf]; omega
        · have hal' : ¬ (a : Int) < (Y.length : Int) := by omega
          go_wp2
          go_quiet (fail)
          go_wp2
          go_quiet (fail)
          go_wp2
          go_roundw
          case rel => exact ⟨q + 1, a, b + 1, _, by omega, E1.out.symm, E2.out.symm, by omega, by omega, rfl, by go_num, by go_num, rfl⟩
          case measure => simp [intOf]; omega
    · have hge : ¬ (q : Int) < (L.length : Int) := by omega
      have hyz : (Y.length : Int) + (Z.length : Int) = many % 101 := by have := HYZ.out; have := HLn.out; omega
      go_wp2_with fail
      refine (second_any _ s L (HS.out.later ((Fr.refl [] w7).drewN d))).mono ?_
      rintro e w8 ⟨s8, rfl, hs8, f8⟩
      rw [HS2.out] at hs8
      go_wp2_with fail
      refine (list_seq _ s8 S hSl hs8).mono ?_
      rintro e w9 ⟨g9, c9, rfl, hi9, f9⟩
      have hsn : (many % 101 + 1) / 2 = (S.length : Int) := by have := HSn.out; have := HLn.out; omega
      go_wp2
      go_ret
      exact ⟨rfl, ((F.drewN d).trans f8).trans f9⟩

end Go.Proofs.Ytahkkodeppeknaa
