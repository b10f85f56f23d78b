/- The walk of 'RoundTells'. -/
import Derived.Test.YtahkkodeppeknaaAwake04
import Derived.Deep.RegionHeld3
namespace Go.Proofs.Ytahkkodeppeknaa
open Go.RowKit

theorem IntsAt.firsts {w : World} {g : Option Addr} {L : List Int} (h : IntsAt w g L) (n : Nat) : IntsAt w g (L.take n) :=
  ⟨by simp; have := h.1; omega, fun j x hx => h.2 j x (by rw [List.getElem?_take] at hx; split at hx; exact hx; cases hx)⟩

theorem even_fits (w : World) : FitsAt Try.prog w (fun _ => False) 12 #[] (fun x => x.tmod 2 == 0) := by
  refine ⟨fun b h => h.elim, fun _ _ => rfl, fun W x _ => ?_⟩
  show Calls _ _ #[.int .i64 x] W _
  go_enter Try.func12, Try.ntmps12
  go_wp2
  go_ret
  refine ⟨?_, rfl⟩
  simp

set_option maxHeartbeats 4000000 in
theorem tells_good (w : World) (many from' first : Int) (h1 : -9223372036854775808 ≤ many) (h2 : many ≤ 100) (h3 : -9223372036854775808 ≤ from') (h4 : from' ≤ 9223372036854775807) (h5 : -9223372036854775808 ≤ first) (h6 : first ≤ 9223372036854775807) :
    Calls Try.prog 4 #[.int .i64 many, .int .i64 from', .int .i64 first] w fun e w' => e = .returned (.bool true) ∧ Fr [] w w' := by
  go_enter Try.func4, Try.ntmps4
  go_wp2_with fail
  refine (awake_any w).mono ?_
  rintro e w1 ⟨rfl, f1⟩
  obtain ⟨L, hL⟩ : ∃ L, L = ofSeq many from' := ⟨_, rfl⟩
  have hLl : L.length ≤ 100 := by rw [hL, length_ofSeq]; omega
  have hLl2 : L.length ≤ 100000 := by omega
  obtain ⟨S, hS⟩ : ∃ S, S = secondL L := ⟨_, rfl⟩
  have hSl : S.length ≤ 100000 := by rw [hS, length_secondL]; omega
  obtain ⟨E, hE⟩ : ∃ E, E = L.filter (fun x => x.tmod 2 == 0) := ⟨_, rfl⟩
  have hEl : E.length ≤ 100000 := by rw [hE]; exact Nat.le_trans (List.length_filter_le _ _) (by omega)
  obtain ⟨T, hT⟩ : ∃ T, T = L.take first.toNat := ⟨_, rfl⟩
  have hTl : T.length ≤ 100000 := by rw [hT]; simp; omega
  obtain ⟨M, hM⟩ : ∃ M : Int, M = min first L.length := ⟨_, rfl⟩
  obtain ⟨H, hH⟩ : ∃ H : Int, H = max 0 M := ⟨_, rfl⟩
  have hMM := Lib.hid (show (if (L.length : Int) < first then (L.length : Int) else first) = M by split <;> omega)
  have hHH := Lib.hid (show (if 0 < M then M else 0) = H by split <;> omega)
  have hTT := Lib.hid (show H.toNat = T.length by rw [hT, List.length_take]; omega)
  have hH0 : 0 ≤ H := by omega
  have hHl : H ≤ (L.length : Int) := by omega
  clear hM hH
  have HL := Lib.hid hL; have HS := Lib.hid hS; have HE := Lib.hid hE; have HT := Lib.hid hT; clear hL hS hE hT
  go_wp2_with fail
  refine (ref_of_any w1 many from' (by omega) (by omega) (by omega) (by omega)).mono ?_
  rintro e w2 ⟨g, c, rfl, hx, f2, hLc⟩
  rw [← HL.out] at hx hLc ⊢
  have HX2 := Lib.hid hx; clear hx
  have hHc : H ≤ (c : Int) := by omega
  go_wp2_with fail
  refine (of_any w2 many from' (by omega) (by omega) (by omega) (by omega)).mono ?_
  rintro e w3 ⟨s, rfl, hs, f3⟩
  rw [← HL.out] at hs
  have HS3 := Lib.hid hs; clear hs
  have HX3 := Lib.hid (HX2.out.fr f3 (by simp))
  go_wp2_with fail
  refine (where_any w3 s L _ _ _ _ HS3.out (even_fits w3)).mono ?_
  rintro e w4 ⟨sv, rfl, hs, f4⟩
  rw [← HE.out] at hs
  have HV4 := Lib.hid hs; clear hs
  have HS4 := Lib.hid (HS3.out.later f4)
  have HX4 := Lib.hid (HX3.out.fr f4 (by simp))
  have F4 := ((f1.trans f2).trans f3).trans f4
  clear HS3 HX3 HX2
  have F4' := F4.drew
  have HV4' : Hid (SeqV w4.drew sv E) := Lib.hid (HV4.out.later (Fr.refl [] w4).drew)
  have HS4' : Hid (SeqV w4.drew s L) := Lib.hid (HS4.out.later (Fr.refl [] w4).drew)
  have HX4' : Hid (IntsAt w4.drew g L) := Lib.hid (HX4.out.fr (Fr.refl [] w4).drew (by simp))
  clear HV4 HS4 HX4 F4
  go_wp2_with fail
  refine wp_region_held_drew (S := fun _ => True) (by kernel_rfl) trivial (fun hHeld => ?_)
  refine wpAnyH_take (i := 0) (oi := _) (v := ?_) rfl (by kernel_rfl) (by kernel_rfl) (by kernel_rfl) (fun _ _ _ h => h) (Or.inl ⟨by rfl, ?_⟩) (by assumption) ?_
  rotate_left
  · intro w hSw
    try dsimp only at hSw
    try simp only [List.getElem_toArray, List.getElem_cons_zero]
    go_split_ands
    go_simp
    try with_reducible rfl
  try simp only [Act.put, List.getElem_toArray, List.getElem_cons_zero, List.setIfInBounds_toArray, List.set_cons_zero, List.set_cons_succ]
  refine wpAnyH_take (i := 1) (oi := _) (v := ?_) rfl (by kernel_rfl) (by kernel_rfl) (by kernel_rfl) (fun _ _ _ h => h) (Or.inl ⟨by rfl, ?_⟩) (by assumption) ?_
  rotate_left
  · intro w hSw
    try dsimp only at hSw
    try simp only [List.getElem_toArray, List.getElem_cons_succ, List.getElem_cons_zero]
    go_split_ands
    go_simp
    try with_reducible rfl
  try simp only [Act.put, List.getElem_toArray, List.getElem_cons_succ, List.getElem_cons_zero, List.setIfInBounds_toArray, List.set_cons_zero, List.set_cons_succ]
  refine wpAnyH_take (i := 2) (oi := _) (v := ?_) rfl (by kernel_rfl) (by kernel_rfl) (by kernel_rfl) (fun _ _ _ h => h) (Or.inl ⟨by rfl, ?_⟩) (by assumption) ?_
  rotate_left
  · intro w hSw
    try dsimp only at hSw
    try simp only [List.getElem_toArray, List.getElem_cons_succ, List.getElem_cons_zero]
    go_split_ands
    go_simp
    try with_reducible rfl
  try simp only [Act.put, List.getElem_toArray, List.getElem_cons_succ, List.getElem_cons_zero, List.setIfInBounds_toArray, List.set_cons_zero, List.set_cons_succ]
  refine wpAnyH_take (i := 4) (oi := _) (v := ?_) rfl (by kernel_rfl) (by kernel_rfl) (by kernel_rfl) (fun _ _ _ h => h) (Or.inl ⟨by rfl, ?_⟩) (by assumption) ?_
  rotate_left
  · intro w hSw
    try dsimp only at hSw
    try simp only [List.getElem_toArray, List.getElem_cons_succ, List.getElem_cons_zero]
    go_split_ands
    go_simp
    try with_reducible rfl
  try simp only [Act.put, List.getElem_toArray, List.getElem_cons_succ, List.getElem_cons_zero, List.setIfInBounds_toArray, List.set_cons_zero, List.set_cons_succ]
  refine wpAnyH_ready (rs := [3]) (by kernel_rfl) (by simp) ?_
  refine AllReadyH.cons (o := _) rfl (fun K hK => ?_) AllReadyH.nil
  simp only [List.getElem_toArray, List.getElem_cons_succ, List.getElem_cons_zero]
  go_simp
  refine (list_seq _ s L hLl2 HS4'.out).mono ?_
  rintro e w5 ⟨g5, c5, rfl, hi5, f5⟩
  have HV5 := Lib.hid (HV4'.out.later f5)
  have HS5 := Lib.hid (HS4'.out.later f5)
  have HX5 := Lib.hid (HX4'.out.fr f5 (by simp))
  have F5 := F4'.trans f5
  clear HV4' HS4' HX4' F4'
  go_wp2_with fail
  refine hK.out _ _ trivial (fun hHeld => ?_)
  clear hK K
  try simp only [Act.put, List.getElem_toArray, List.getElem_cons_succ, List.getElem_cons_zero, List.setIfInBounds_toArray, List.set_cons_zero, List.set_cons_succ]
  refine wpAnyH_ready (rs := [5]) (by kernel_rfl) (by simp) ?_
  refine AllReadyH.cons (o := _) rfl (fun K hK => ?_) AllReadyH.nil
  simp only [List.getElem_toArray, List.getElem_cons_succ, List.getElem_cons_zero]
  go_simp
  refine (ints_same _ _ _ _ _ L hi5 HX5.out).mono ?_
  rintro e w' ⟨rfl, d6, rfl⟩
  clear hi5
  have HV6 := Lib.hid (HV5.out.later ((Fr.refl [] w5).drewN d6))
  have HS6 := Lib.hid (HS5.out.later ((Fr.refl [] w5).drewN d6))
  have HX6 := Lib.hid (HX5.out.fr ((Fr.refl [] w5).drewN d6) (by simp))
  have F6 := F5.drewN d6
  clear HV5 HS5 HX5 F5
  generalize World.drewN w5 d6 = w6 at *
  go_wp2_with fail
  refine hK.out _ _ trivial (fun hHeld => ?_)
  clear hK K
  try simp only [Act.put, List.getElem_toArray, List.getElem_cons_succ, List.getElem_cons_zero, List.setIfInBounds_toArray, List.set_cons_zero, List.set_cons_succ]
  refine wpAnyH_take (i := 6) (oi := _) (v := ?_) rfl (by kernel_rfl) (by kernel_rfl) (by kernel_rfl) (fun _ _ _ h => h) (Or.inl ⟨by rfl, ?_⟩) (by assumption) ?_
  rotate_left
  · intro w hSw
    try dsimp only at hSw
    try simp only [List.getElem_toArray, List.getElem_cons_succ, List.getElem_cons_zero]
    go_split_ands
    go_simp
    try with_reducible rfl
  try simp only [Act.put, List.getElem_toArray, List.getElem_cons_succ, List.getElem_cons_zero, List.setIfInBounds_toArray, List.set_cons_zero, List.set_cons_succ]
  refine wpAnyH_take (i := 7) (oi := _) (v := ?_) rfl (by kernel_rfl) (by kernel_rfl) (by kernel_rfl) (fun _ _ _ h => h) (Or.inl ⟨by rfl, ?_⟩) (by assumption) ?_
  rotate_left
  · intro w hSw
    try dsimp only at hSw
    try simp only [List.getElem_toArray, List.getElem_cons_succ, List.getElem_cons_zero]
    go_split_ands
    go_simp
    try with_reducible rfl
  try simp only [Act.put, List.getElem_toArray, List.getElem_cons_succ, List.getElem_cons_zero, List.setIfInBounds_toArray, List.set_cons_zero, List.set_cons_succ]
  refine wpAnyH_take (i := 8) (oi := _) (v := ?_) rfl (by kernel_rfl) (by kernel_rfl) (by kernel_rfl) (fun _ _ _ h => h) (Or.inl ⟨by rfl, ?_⟩) (by assumption) ?_
  rotate_left
  · intro w hSw
    try dsimp only at hSw
    try simp only [List.getElem_toArray, List.getElem_cons_succ, List.getElem_cons_zero]
    go_split_ands
    go_simp
    try with_reducible rfl
  try simp only [Act.put, List.getElem_toArray, List.getElem_cons_succ, List.getElem_cons_zero, List.setIfInBounds_toArray, List.set_cons_zero, List.set_cons_succ]
  refine wpAnyH_take (i := 11) (oi := _) (v := ?_) rfl (by kernel_rfl) (by kernel_rfl) (by kernel_rfl) (fun _ _ _ h => h) (Or.inl ⟨by rfl, ?_⟩) (by assumption) ?_
  rotate_left
  · intro w hSw
    try dsimp only at hSw
    try simp only [List.getElem_toArray, List.getElem_cons_succ, List.getElem_cons_zero]
    go_split_ands
    go_simp
    try with_reducible rfl
  try simp only [Act.put, List.getElem_toArray, List.getElem_cons_succ, List.getElem_cons_zero, List.setIfInBounds_toArray, List.set_cons_zero, List.set_cons_succ]
  refine wpAnyH_ready (rs := [9]) (by kernel_rfl) (by simp) ?_
  refine AllReadyH.cons (o := _) rfl (fun K hK => ?_) AllReadyH.nil
  simp only [List.getElem_toArray, List.getElem_cons_succ, List.getElem_cons_zero]
  go_simp
  refine (second_any _ s L HS6.out).mono ?_
  rintro e w7 ⟨s7, rfl, hs7, f7⟩
  rw [← HS.out] at hs7
  have HV7 := Lib.hid (HV6.out.later f7)
  have HS7 := Lib.hid (HS6.out.later f7)
  have HX7 := Lib.hid (HX6.out.fr f7 (by simp))
  have F7 := F6.trans f7
  clear HV6 HS6 HX6 F6
  go_wp2_with fail
  refine hK.out _ _ trivial (fun hHeld => ?_)
  clear hK K
  try simp only [Act.put, List.getElem_toArray, List.getElem_cons_succ, List.getElem_cons_zero, List.setIfInBounds_toArray, List.set_cons_zero, List.set_cons_succ]
  refine wpAnyH_ready (rs := [10]) (by kernel_rfl) (by simp) ?_
  refine AllReadyH.cons (o := _) rfl (fun K hK => ?_) AllReadyH.nil
  simp only [List.getElem_toArray, List.getElem_cons_succ, List.getElem_cons_zero]
  go_simp
  refine (list_seq _ s7 S hSl hs7).mono ?_
  rintro e w8 ⟨g8, c8, rfl, hi8, f8⟩
  clear hs7
  have HV8 := Lib.hid (HV7.out.later f8)
  have HS8 := Lib.hid (HS7.out.later f8)
  have HX8 := Lib.hid (HX7.out.fr f8 (by simp))
  have F8 := F7.trans f8
  clear HV7 HS7 HX7 F7
  go_wp2_with fail
  refine hK.out _ _ trivial (fun hHeld => ?_)
  clear hK K
  try simp only [Act.put, List.getElem_toArray, List.getElem_cons_succ, List.getElem_cons_zero, List.setIfInBounds_toArray, List.set_cons_zero, List.set_cons_succ]
  refine wpAnyH_ready (rs := [12]) (by kernel_rfl) (by simp) ?_
  refine AllReadyH.cons (o := _) rfl (fun K hK => ?_) AllReadyH.nil
  simp only [List.getElem_toArray, List.getElem_cons_succ, List.getElem_cons_zero]
  go_simp
  refine (ref_second_any _ _ _ L hLl2 HX8.out).mono ?_
  rintro e w9 ⟨g9, c9, rfl, hi9, f9⟩
  rw [← HS.out] at hi9 ⊢
  have hj8 := hi8.fr f9 (by simp)
  have HV9 := Lib.hid (HV8.out.later f9)
  have HS9 := Lib.hid (HS8.out.later f9)
  have HX9 := Lib.hid (HX8.out.fr f9 (by simp))
  have F9 := F8.trans f9
  clear HV8 HS8 HX8 F8
  go_wp2_with fail
  refine hK.out _ _ trivial (fun hHeld => ?_)
  clear hK K
  try simp only [Act.put, List.getElem_toArray, List.getElem_cons_succ, List.getElem_cons_zero, List.setIfInBounds_toArray, List.set_cons_zero, List.set_cons_succ]
  refine wpAnyH_ready (rs := [13]) (by kernel_rfl) (by simp) ?_
  refine AllReadyH.cons (o := _) rfl (fun K hK => ?_) AllReadyH.nil
  simp only [List.getElem_toArray, List.getElem_cons_succ, List.getElem_cons_zero]
  go_simp
  refine (ints_same _ _ _ _ _ S hj8 hi9).mono ?_
  rintro e w' ⟨rfl, d10, rfl⟩
  clear hi9 hj8 hi8
  have HV10 := Lib.hid (HV9.out.later ((Fr.refl [] w9).drewN d10))
  have HS10 := Lib.hid (HS9.out.later ((Fr.refl [] w9).drewN d10))
  have HX10 := Lib.hid (HX9.out.fr ((Fr.refl [] w9).drewN d10) (by simp))
  have F10 := F9.drewN d10
  clear HV9 HS9 HX9 F9
  generalize World.drewN w9 d10 = w10 at *
  go_wp2_with fail
  refine hK.out _ _ trivial (fun hHeld => ?_)
  clear hK K
  try simp only [Act.put, List.getElem_toArray, List.getElem_cons_succ, List.getElem_cons_zero, List.setIfInBounds_toArray, List.set_cons_zero, List.set_cons_succ]
  refine wpAnyH_take (i := 14) (oi := _) (v := ?_) rfl (by kernel_rfl) (by kernel_rfl) (by kernel_rfl) (fun _ _ _ h => h) (Or.inl ⟨by rfl, ?_⟩) (by assumption) ?_
  rotate_left
  · intro w hSw
    try dsimp only at hSw
    try simp only [List.getElem_toArray, List.getElem_cons_succ, List.getElem_cons_zero]
    go_split_ands
    go_simp
    try with_reducible rfl
  try simp only [Act.put, List.getElem_toArray, List.getElem_cons_succ, List.getElem_cons_zero, List.setIfInBounds_toArray, List.set_cons_zero, List.set_cons_succ]
  refine wpAnyH_take (i := 15) (oi := _) (v := ?_) rfl (by kernel_rfl) (by kernel_rfl) (by kernel_rfl) (fun _ _ _ h => h) (Or.inl ⟨by rfl, ?_⟩) (by assumption) ?_
  rotate_left
  · intro w hSw
    try dsimp only at hSw
    try simp only [List.getElem_toArray, List.getElem_cons_succ, List.getElem_cons_zero]
    go_split_ands
    go_simp
    try with_reducible rfl
  try simp only [Act.put, List.getElem_toArray, List.getElem_cons_succ, List.getElem_cons_zero, List.setIfInBounds_toArray, List.set_cons_zero, List.set_cons_succ]
  refine wpAnyH_take (i := 16) (oi := _) (v := ?_) rfl (by kernel_rfl) (by kernel_rfl) (by kernel_rfl) (fun _ _ _ h => h) (Or.inl ⟨by rfl, ?_⟩) (by assumption) ?_
  rotate_left
  · intro w hSw
    try dsimp only at hSw
    try simp only [List.getElem_toArray, List.getElem_cons_succ, List.getElem_cons_zero]
    go_split_ands
    go_simp
    try with_reducible rfl
  try simp only [Act.put, List.getElem_toArray, List.getElem_cons_succ, List.getElem_cons_zero, List.setIfInBounds_toArray, List.set_cons_zero, List.set_cons_succ]
  refine wpAnyH_take (i := 18) (oi := _) (v := ?_) rfl (by kernel_rfl) (by kernel_rfl) (by kernel_rfl) (fun _ _ _ h => h) (Or.inl ⟨by rfl, ?_⟩) (by assumption) ?_
  rotate_left
  · intro w hSw
    try dsimp only at hSw
    try simp only [List.getElem_toArray, List.getElem_cons_succ, List.getElem_cons_zero]
    go_split_ands
    go_simp
    try with_reducible rfl
  try simp only [Act.put, List.getElem_toArray, List.getElem_cons_succ, List.getElem_cons_zero, List.setIfInBounds_toArray, List.set_cons_zero, List.set_cons_succ]
  refine wpAnyH_ready (rs := [17]) (by kernel_rfl) (by simp) ?_
  refine AllReadyH.cons (o := _) rfl (fun K hK => ?_) AllReadyH.nil
  simp only [List.getElem_toArray, List.getElem_cons_succ, List.getElem_cons_zero]
  go_simp
  refine (list_seq _ sv E hEl HV10.out).mono ?_
  rintro e w11 ⟨g11, c11, rfl, hi11, f11⟩
  have HV11 := Lib.hid (HV10.out.later f11)
  have HS11 := Lib.hid (HS10.out.later f11)
  have HX11 := Lib.hid (HX10.out.fr f11 (by simp))
  have F11 := F10.trans f11
  clear HV10 HS10 HX10 F10
  go_wp2_with fail
  refine hK.out _ _ trivial (fun hHeld => ?_)
  clear hK K
  try simp only [Act.put, List.getElem_toArray, List.getElem_cons_succ, List.getElem_cons_zero, List.setIfInBounds_toArray, List.set_cons_zero, List.set_cons_succ]
  refine wpAnyH_ready (rs := [19]) (by kernel_rfl) (by simp) ?_
  refine AllReadyH.cons (o := _) rfl (fun K hK => ?_) AllReadyH.nil
  simp only [List.getElem_toArray, List.getElem_cons_succ, List.getElem_cons_zero]
  go_simp
  refine (ref_even_any _ _ _ L hLl2 HX11.out).mono ?_
  rintro e w12 ⟨g12, c12, rfl, hi12, f12⟩
  rw [← HE.out] at hi12 ⊢
  have hj11 := hi11.fr f12 (by simp)
  have HV12 := Lib.hid (HV11.out.later f12)
  have HS12 := Lib.hid (HS11.out.later f12)
  have HX12 := Lib.hid (HX11.out.fr f12 (by simp))
  have F12 := F11.trans f12
  clear HV11 HS11 HX11 F11
  go_wp2_with fail
  refine hK.out _ _ trivial (fun hHeld => ?_)
  clear hK K
  try simp only [Act.put, List.getElem_toArray, List.getElem_cons_succ, List.getElem_cons_zero, List.setIfInBounds_toArray, List.set_cons_zero, List.set_cons_succ]
  refine wpAnyH_ready (rs := [20]) (by kernel_rfl) (by simp) ?_
  refine AllReadyH.cons (o := _) rfl (fun K hK => ?_) AllReadyH.nil
  simp only [List.getElem_toArray, List.getElem_cons_succ, List.getElem_cons_zero]
  go_simp
  refine (ints_same _ _ _ _ _ E hj11 hi12).mono ?_
  rintro e w' ⟨rfl, d13, rfl⟩
  clear hi12 hj11 hi11
  have HV13 := Lib.hid (HV12.out.later ((Fr.refl [] w12).drewN d13))
  have HS13 := Lib.hid (HS12.out.later ((Fr.refl [] w12).drewN d13))
  have HX13 := Lib.hid (HX12.out.fr ((Fr.refl [] w12).drewN d13) (by simp))
  have F13 := F12.drewN d13
  clear HV12 HS12 HX12 F12
  generalize World.drewN w12 d13 = w13 at *
  go_wp2_with fail
  refine hK.out _ _ trivial (fun hHeld => ?_)
  clear hK K
  try simp only [Act.put, List.getElem_toArray, List.getElem_cons_succ, List.getElem_cons_zero, List.setIfInBounds_toArray, List.set_cons_zero, List.set_cons_succ]
  refine wpAnyH_take (i := 21) (oi := _) (v := ?_) rfl (by kernel_rfl) (by kernel_rfl) (by kernel_rfl) (fun _ _ _ h => h) (Or.inl ⟨by rfl, ?_⟩) (by assumption) ?_
  rotate_left
  · intro w hSw
    try dsimp only at hSw
    try simp only [List.getElem_toArray, List.getElem_cons_succ, List.getElem_cons_zero]
    go_split_ands
    go_simp
    try with_reducible rfl
  try simp only [Act.put, List.getElem_toArray, List.getElem_cons_succ, List.getElem_cons_zero, List.setIfInBounds_toArray, List.set_cons_zero, List.set_cons_succ]
  refine wpAnyH_take (i := 22) (oi := _) (v := ?_) rfl (by kernel_rfl) (by kernel_rfl) (by kernel_rfl) (fun _ _ _ h => h) (Or.inl ⟨by rfl, ?_⟩) (by assumption) ?_
  rotate_left
  · intro w hSw
    try dsimp only at hSw
    try simp only [List.getElem_toArray, List.getElem_cons_succ, List.getElem_cons_zero]
    go_split_ands
    go_simp
    try with_reducible rfl
  try simp only [Act.put, List.getElem_toArray, List.getElem_cons_succ, List.getElem_cons_zero, List.setIfInBounds_toArray, List.set_cons_zero, List.set_cons_succ]
  refine wpAnyH_take (i := 23) (oi := _) (v := ?_) rfl (by kernel_rfl) (by kernel_rfl) (by kernel_rfl) (fun _ _ _ h => h) (Or.inl ⟨by rfl, ?_⟩) (by assumption) ?_
  rotate_left
  · intro w hSw
    try dsimp only at hSw
    try simp only [List.getElem_toArray, List.getElem_cons_succ, List.getElem_cons_zero]
    go_split_ands
    go_simp
    try with_reducible rfl
  try simp only [Act.put, List.getElem_toArray, List.getElem_cons_succ, List.getElem_cons_zero, List.setIfInBounds_toArray, List.set_cons_zero, List.set_cons_succ]
  refine wpAnyH_take (i := 24) (oi := _) (v := ?_) rfl (by kernel_rfl) (by kernel_rfl) (by kernel_rfl) (fun _ _ _ h => h) (Or.inl ⟨by rfl, ?_⟩) (by assumption) ?_
  rotate_left
  · intro w hSw
    try dsimp only at hSw
    try simp only [List.getElem_toArray, List.getElem_cons_succ, List.getElem_cons_zero]
    go_split_ands
    go_simp
    try with_reducible rfl
  try simp only [Act.put, List.getElem_toArray, List.getElem_cons_succ, List.getElem_cons_zero, List.setIfInBounds_toArray, List.set_cons_zero, List.set_cons_succ]
  refine wpAnyH_take (i := 27) (oi := _) (v := ?_) rfl (by kernel_rfl) (by kernel_rfl) (by kernel_rfl) (fun _ _ _ h => h) (Or.inl ⟨by rfl, ?_⟩) (by assumption) ?_
  rotate_left
  · intro w hSw
    try dsimp only at hSw
    try simp only [List.getElem_toArray, List.getElem_cons_succ, List.getElem_cons_zero]
    go_split_ands
    go_simp
    try with_reducible rfl
  try simp only [Act.put, List.getElem_toArray, List.getElem_cons_succ, List.getElem_cons_zero, List.setIfInBounds_toArray, List.set_cons_zero, List.set_cons_succ]
  refine wpAnyH_take (i := 28) (oi := _) (v := ?_) rfl (by kernel_rfl) (by kernel_rfl) (by kernel_rfl) (fun _ _ _ h => h) (Or.inl ⟨by rfl, ?_⟩) (by assumption) ?_
  rotate_left
  · intro w hSw
    try dsimp only at hSw
    try simp only [List.getElem_toArray, List.getElem_cons_succ, List.getElem_cons_zero]
    go_split_ands
    go_simp
    try with_reducible rfl
  try simp only [Act.put, List.getElem_toArray, List.getElem_cons_succ, List.getElem_cons_zero, List.setIfInBounds_toArray, List.set_cons_zero, List.set_cons_succ]
  refine wpAnyH_take (i := 29) (oi := _) (v := ?_) rfl (by kernel_rfl) (by kernel_rfl) (by kernel_rfl) (fun _ _ _ h => h) (Or.inl ⟨by rfl, ?_⟩) (by assumption) ?_
  rotate_left
  · intro w hSw
    try dsimp only at hSw
    try simp only [List.getElem_toArray, List.getElem_cons_succ, List.getElem_cons_zero]
    go_split_ands
    go_simp
    try with_reducible rfl
  try simp only [Act.put, List.getElem_toArray, List.getElem_cons_succ, List.getElem_cons_zero, List.setIfInBounds_toArray, List.set_cons_zero, List.set_cons_succ]
  refine wpAnyH_take (i := 30) (oi := _) (v := ?_) rfl (by kernel_rfl) (by kernel_rfl) (by kernel_rfl) (fun _ _ _ h => h) (Or.inl ⟨by rfl, ?_⟩) (by assumption) ?_
  rotate_left
  · intro w hSw
    try dsimp only at hSw
    try simp only [List.getElem_toArray, List.getElem_cons_succ, List.getElem_cons_zero]
    go_split_ands
    go_simp
    try with_reducible rfl
  try simp only [Act.put, List.getElem_toArray, List.getElem_cons_succ, List.getElem_cons_zero, List.setIfInBounds_toArray, List.set_cons_zero, List.set_cons_succ]
  refine wpAnyH_take (i := 31) (oi := _) (v := .int .i64 M) rfl (by kernel_rfl) (by kernel_rfl) (by kernel_rfl) (fun _ _ _ h => h) (Or.inl ⟨by rfl, ?_⟩) (by assumption) ?_
  · intro w hSw
    simp only [List.getElem_toArray, List.getElem_cons_succ, List.getElem_cons_zero]
    go_simp
    rw [hMM.out]
  try simp only [Act.put, List.getElem_toArray, List.getElem_cons_succ, List.getElem_cons_zero, List.setIfInBounds_toArray, List.set_cons_zero, List.set_cons_succ]
  refine wpAnyH_take (i := 32) (oi := _) (v := .int .i64 H) rfl (by kernel_rfl) (by kernel_rfl) (by kernel_rfl) (fun _ _ _ h => h) (Or.inl ⟨by rfl, ?_⟩) (by assumption) ?_
  · intro w hSw
    simp only [List.getElem_toArray, List.getElem_cons_succ, List.getElem_cons_zero]
    go_simp
    rw [hHH.out]
  try simp only [Act.put, List.getElem_toArray, List.getElem_cons_succ, List.getElem_cons_zero, List.setIfInBounds_toArray, List.set_cons_zero, List.set_cons_succ]
  refine wpAnyH_take (i := 33) (oi := _) (v := .slice g T.length c) rfl (by kernel_rfl) (by kernel_rfl) (by kernel_rfl) (fun _ _ _ h => h) (Or.inl ⟨by rfl, ?_⟩) (by assumption) ?_
  · intro w hSw
    simp only [List.getElem_toArray, List.getElem_cons_succ, List.getElem_cons_zero]
    go_simp
    rw [hTT.out]
  try simp only [Act.put, List.getElem_toArray, List.getElem_cons_succ, List.getElem_cons_zero, List.setIfInBounds_toArray, List.set_cons_zero, List.set_cons_succ]
  refine wpAnyH_ready (rs := [25]) (by kernel_rfl) (by simp) ?_
  refine AllReadyH.cons (o := _) rfl (fun K hK => ?_) AllReadyH.nil
  simp only [List.getElem_toArray, List.getElem_cons_succ, List.getElem_cons_zero]
  go_simp
  refine (first_any _ s L first (by omega) HS13.out).mono ?_
  rintro e w14 ⟨s14, rfl, hs14, f14⟩
  rw [← HT.out] at hs14
  have HV14 := Lib.hid (HV13.out.later f14)
  have HS14 := Lib.hid (HS13.out.later f14)
  have HX14 := Lib.hid (HX13.out.fr f14 (by simp))
  have F14 := F13.trans f14
  clear HV13 HS13 HX13 F13
  go_wp2_with fail
  refine hK.out _ _ trivial (fun hHeld => ?_)
  clear hK K
  try simp only [Act.put, List.getElem_toArray, List.getElem_cons_succ, List.getElem_cons_zero, List.setIfInBounds_toArray, List.set_cons_zero, List.set_cons_succ]
  refine wpAnyH_ready (rs := [26]) (by kernel_rfl) (by simp) ?_
  refine AllReadyH.cons (o := _) rfl (fun K hK => ?_) AllReadyH.nil
  simp only [List.getElem_toArray, List.getElem_cons_succ, List.getElem_cons_zero]
  go_simp
  refine (list_seq _ s14 T hTl hs14).mono ?_
  rintro e w15 ⟨g15, c15, rfl, hi15, f15⟩
  clear hs14
  have HV15 := Lib.hid (HV14.out.later f15)
  have HS15 := Lib.hid (HS14.out.later f15)
  have HX15 := Lib.hid (HX14.out.fr f15 (by simp))
  have F15 := F14.trans f15
  clear HV14 HS14 HX14 F14
  have hj15 : IntsAt w15 g T := by rw [HT.out]; exact HX15.out.firsts _
  go_wp2_with fail
  refine hK.out _ _ trivial (fun hHeld => ?_)
  clear hK K
  try simp only [Act.put, List.getElem_toArray, List.getElem_cons_succ, List.getElem_cons_zero, List.setIfInBounds_toArray, List.set_cons_zero, List.set_cons_succ]
  refine wpAnyH_ready (rs := [34]) (by kernel_rfl) (by simp) ?_
  refine AllReadyH.cons (o := _) rfl (fun K hK => ?_) AllReadyH.nil
  simp only [List.getElem_toArray, List.getElem_cons_succ, List.getElem_cons_zero]
  go_simp
  refine (ints_same _ _ _ _ _ T hi15 hj15).mono ?_
  rintro e w' ⟨rfl, d16, rfl⟩
  go_wp2_with fail
  refine hK.out _ _ trivial (fun hHeld => ?_)
  clear hK K
  try simp only [Act.put, List.getElem_toArray, List.getElem_cons_succ, List.getElem_cons_zero, List.setIfInBounds_toArray, List.set_cons_zero, List.set_cons_succ]
  refine wpAnyH_take (i := 35) (oi := _) (v := ?_) rfl (by kernel_rfl) (by kernel_rfl) (by kernel_rfl) (fun _ _ _ h => h) (Or.inl ⟨by rfl, ?_⟩) (by assumption) ?_
  rotate_left
  · intro w hSw
    try dsimp only at hSw
    try simp only [List.getElem_toArray, List.getElem_cons_succ, List.getElem_cons_zero]
    go_split_ands
    go_simp
    try with_reducible rfl
  try simp only [Act.put, List.getElem_toArray, List.getElem_cons_succ, List.getElem_cons_zero, List.setIfInBounds_toArray, List.set_cons_zero, List.set_cons_succ]
  refine wpAnyH_take (i := 36) (oi := _) (v := ?_) rfl (by kernel_rfl) (by kernel_rfl) (by kernel_rfl) (fun _ _ _ h => h) (Or.inl ⟨by rfl, ?_⟩) (by assumption) ?_
  rotate_left
  · intro w hSw
    try dsimp only at hSw
    try simp only [List.getElem_toArray, List.getElem_cons_succ, List.getElem_cons_zero]
    go_split_ands
    go_simp
    try with_reducible rfl
  try simp only [Act.put, List.getElem_toArray, List.getElem_cons_succ, List.getElem_cons_zero, List.setIfInBounds_toArray, List.set_cons_zero, List.set_cons_succ]
  refine wpAnyH_done (by kernel_rfl) ?_ _
  go_wp2
  go_ret
  exact ⟨rfl, F15.drewN d16⟩

theorem tells_walk (w : World) (many from' first : Int) (h1 : -9223372036854775808 ≤ many) (h2 : many ≤ 9223372036854775807) (h3 : -9223372036854775808 ≤ from') (h4 : from' ≤ 9223372036854775807) (h5 : -9223372036854775808 ≤ first) (h6 : first ≤ 9223372036854775807) :
    Calls Try.prog 4 #[.int .i64 many, .int .i64 from', .int .i64 first] w fun e w' => e = .returned (.bool true) ∧ Fr [] w w' := by
  by_cases hm : many ≤ 100
  · exact tells_good w many from' first h1 hm h3 h4 h5 h6
  · have hm' : 100 < many := by omega
    go_enter Try.func4, Try.ntmps4
    go_wp2_with fail
    refine (awake_any w).mono ?_
    rintro e w1 ⟨rfl, f1⟩
    go_wp2
    go_ret
    exact ⟨rfl, f1⟩

end Go.Proofs.Ytahkkodeppeknaa
