/- The walk of EntryEncodes. -/
import Derived.Test.YtphnjgkaapfocaaAwake13
namespace Go.Proofs.Ytphnjgkaapfocaa
open Go.RowKit

set_option maxHeartbeats 2000000 in
set_option maxRecDepth 100000 in
theorem encodes_walk (w : World) (g : Option Addr) (c : Nat) (L : List EntV) (ha : EntsAt w g L) :
    Calls Try.prog 3 #[.slice g L.length c] w fun e w' => e = .returned (.bool true) ∧ Fr [] w w' := by
  have hl := ha.1
  have HA := Lib.hid ha; clear ha
  obtain ⟨n, hn⟩ : ∃ n, n = L.length := ⟨_, rfl⟩
  rw [← hn] at hl ⊢
  have HN := Lib.hid hn; clear hn
  go_enter Try.func3, Try.ntmps3
  go_wp2_with fail
  refine (awake_any _).mono ?_
  rintro e w1 ⟨rfl, F1⟩
  by_cases hlen : (30 : Int) < (n : Int)
  · go_wp2
    go_ret
    exact ⟨rfl, F1⟩
  · obtain ⟨D, hD⟩ : ∃ D, D = encB L := ⟨_, rfl⟩
    obtain ⟨er, her⟩ : ∃ er, er = encE L := ⟨_, rfl⟩
    obtain ⟨len, hlen2⟩ : ∃ len, len = D.length := ⟨_, rfl⟩
    have hD2 : len ≤ 12000 := by rw [hlen2, hD]; exact encB_len L (by have := HN.out; omega)
    have HD := Lib.hid hD; have HER := Lib.hid her; have HLEN := Lib.hid hlen2
    clear hD her hlen2
    go_wp2_with fail
    rw [HN.out]
    refine (encode_any _ _ _ L (HA.out.fr F1 (by simp))).mono ?_
    intro e w2 h2
    obtain ⟨g2, c2, rfl, hE2, -, f2⟩ := enc_val h2
    rw [← HD.out] at hE2 ⊢
    rw [← HER.out, ← HLEN.out, ← HN.out]
    have HE2 := Lib.hid hE2
    have F2 := F1.trans f2
    clear hE2 h2 F1 f2
    go_wp2_with fail
    rw [HN.out]
    refine (ref_encode_any _ _ _ L (HA.out.fr F2 (by simp))).mono ?_
    intro e w3 h3
    obtain ⟨g3, c3, rfl, hE3, -, f3⟩ := enc_val h3
    rw [← HD.out] at hE3 ⊢
    rw [← HER.out, ← HLEN.out, ← HN.out]
    have HE3 := Lib.hid hE3
    have HE23 := Lib.hid (HE2.out.fr f3 (by simp))
    have F3 := F2.trans f3
    clear hE3 h3 F2 f3 HE2
    go_wp2
    go_loopw [8] (fun i wr => ∃ k : Nat, k ≤ n ∧ i = .int .i64 (k : Int) ∧ BytsAt wr g2 D ∧ BytsAt wr g3 D ∧ Fr [] w wr) (fun i _ => n - (intOf i).toNat)
    case atStart => exact ⟨0, Nat.zero_le _, rfl, HE23.out, HE3.out, F3⟩
    case round =>
      clear F3 HE23 HE3
      obtain ⟨k, hk, rfl, hX, hY, f⟩ := hrel
      have HX := Lib.hid hX; have HY := Lib.hid hY; clear hX hY
      by_cases hlt : k < n
      · obtain ⟨x, hx⟩ := ent_get (L := L) (k := k) (by rw [← HN.out]; exact hlt)
        obtain ⟨ba, oa, rfl, hca⟩ := HA.out.base (by intro e; rw [e] at hx; simp at hx)
        obtain ⟨x0, x1, x2, x3, x4, x5, x6, x7, x8, x9, x10⟩ := (EntCells.of (hca k x hx)).fr f (by simp)
        clear hca hx
        have hlt' : (k : Int) < (n : Int) := by omega
        have hk0 : (0 : Int) ≤ (k : Int) := by omega
        obtain ⟨bb, hbb⟩ : ∃ bb, decide x.ok = bb := ⟨_, rfl⟩
        have HBB := Lib.hid hbb; clear hbb
        go_wp2_with fail
        refine wp_region_held_drew (S := fun w' => w'.cell? ⟨ba, oa + k * 11, none⟩ = some (.int .i64 x.kind) ∧ w'.cell? ⟨ba, oa + k * 11 + 1, none⟩ = some (.int .i64 x.who) ∧ w'.cell? ⟨ba, oa + k * 11 + 2, none⟩ = some (.int .i64 x.op) ∧ w'.cell? ⟨ba, oa + k * 11 + 3, none⟩ = some (.int .i64 x.dl) ∧ w'.cell? ⟨ba, oa + k * 11 + 4, none⟩ = some (.bool x.wait) ∧ w'.cell? ⟨ba, oa + k * 11 + 5, none⟩ = some (.bool x.force) ∧ w'.cell? ⟨ba, oa + k * 11 + 6, none⟩ = some (.int .i64 x.slot) ∧ w'.cell? ⟨ba, oa + k * 11 + 7, none⟩ = some (.int .i64 x.gen) ∧ w'.cell? ⟨ba, oa + k * 11 + 8, none⟩ = some (.int .i64 x.stream) ∧ w'.cell? ⟨ba, oa + k * 11 + 9, none⟩ = some (.int .i64 x.n) ∧ w'.cell? ⟨ba, oa + k * 11 + 10, none⟩ = some (.bool x.good)) (by kernel_rfl) ⟨x0, x1, x2, x3, x4, x5, x6, x7, x8, x9, x10⟩ (fun hHeld => ?_)
        refine wpAnyH_take (i := 0) (oi := _) (v := ?_) rfl (by kernel_rfl) (by kernel_rfl) (by kernel_rfl) (fun _ _ _ h => h) (Or.inl ⟨by rfl, ?_⟩) (by assumption) ?_
        rotate_left
        · intro w hSw
          try dsimp only at hSw
          try simp only [List.getElem_toArray, List.getElem_cons_zero]
          go_split_ands
          go_simp
          try with_reducible rfl
        try simp only [Act.put, List.getElem_toArray, List.getElem_cons_zero, List.setIfInBounds_toArray, List.set_cons_zero, List.set_cons_succ]
        refine wpAnyH_take (i := 1) (oi := _) (v := ?_) rfl (by kernel_rfl) (by kernel_rfl) (by kernel_rfl) (fun _ _ _ h => h) (Or.inl ⟨by rfl, ?_⟩) (by assumption) ?_
        rotate_left
        · intro w hSw
          try dsimp only at hSw
          try simp only [List.getElem_toArray, List.getElem_cons_succ, List.getElem_cons_zero]
          go_split_ands
          go_simp
          try with_reducible rfl
        try simp only [Act.put, List.getElem_toArray, List.getElem_cons_succ, List.getElem_cons_zero, List.setIfInBounds_toArray, List.set_cons_zero, List.set_cons_succ]
        refine wpAnyH_take (i := 2) (oi := _) (v := ?_) rfl (by kernel_rfl) (by kernel_rfl) (by kernel_rfl) (fun _ _ _ h => h) (Or.inl ⟨by rfl, ?_⟩) (by assumption) ?_
        rotate_left
        · intro w hSw
          try dsimp only at hSw
          try simp only [List.getElem_toArray, List.getElem_cons_succ, List.getElem_cons_zero]
          go_split_ands
          go_simp
          try with_reducible rfl
        try simp only [Act.put, List.getElem_toArray, List.getElem_cons_succ, List.getElem_cons_zero, List.setIfInBounds_toArray, List.set_cons_zero, List.set_cons_succ]
        refine wpAnyH_take (i := 3) (oi := _) (v := ?_) rfl (by kernel_rfl) (by kernel_rfl) (by kernel_rfl) (fun _ _ _ h => h) (Or.inl ⟨by rfl, ?_⟩) (by assumption) ?_
        rotate_left
        · intro w hSw
          try dsimp only at hSw
          try simp only [List.getElem_toArray, List.getElem_cons_succ, List.getElem_cons_zero]
          go_split_ands
          go_simp
          try with_reducible rfl
        try simp only [Act.put, List.getElem_toArray, List.getElem_cons_succ, List.getElem_cons_zero, List.setIfInBounds_toArray, List.set_cons_zero, List.set_cons_succ]
        refine wpAnyH_take (i := 5) (oi := _) (v := ?_) rfl (by kernel_rfl) (by kernel_rfl) (by kernel_rfl) (fun _ _ _ h => h) (Or.inl ⟨by rfl, ?_⟩) (by assumption) ?_
        rotate_left
        · intro w hSw
          try dsimp only at hSw
          try simp only [List.getElem_toArray, List.getElem_cons_succ, List.getElem_cons_zero]
          go_split_ands
          go_simp
          try with_reducible rfl
        try simp only [Act.put, List.getElem_toArray, List.getElem_cons_succ, List.getElem_cons_zero, List.setIfInBounds_toArray, List.set_cons_zero, List.set_cons_succ]
        refine wpAnyH_take (i := 6) (oi := _) (v := ?_) rfl (by kernel_rfl) (by kernel_rfl) (by kernel_rfl) (fun _ _ _ h => h) (Or.inl ⟨by rfl, ?_⟩) (by assumption) ?_
        rotate_left
        · intro w hSw
          try dsimp only at hSw
          try simp only [List.getElem_toArray, List.getElem_cons_succ, List.getElem_cons_zero]
          go_split_ands
          go_simp
          try with_reducible rfl
        try simp only [Act.put, List.getElem_toArray, List.getElem_cons_succ, List.getElem_cons_zero, List.setIfInBounds_toArray, List.set_cons_zero, List.set_cons_succ]
        refine wpAnyH_take (i := 7) (oi := _) (v := ?_) rfl (by kernel_rfl) (by kernel_rfl) (by kernel_rfl) (fun _ _ _ h => h) (Or.inl ⟨by rfl, ?_⟩) (by assumption) ?_
        rotate_left
        · intro w hSw
          try dsimp only at hSw
          try simp only [List.getElem_toArray, List.getElem_cons_succ, List.getElem_cons_zero]
          go_split_ands
          go_simp
          try with_reducible rfl
        try simp only [Act.put, List.getElem_toArray, List.getElem_cons_succ, List.getElem_cons_zero, List.setIfInBounds_toArray, List.set_cons_zero, List.set_cons_succ]
        refine wpAnyH_take (i := 8) (oi := _) (v := ?_) rfl (by kernel_rfl) (by kernel_rfl) (by kernel_rfl) (fun _ _ _ h => h) (Or.inl ⟨by rfl, ?_⟩) (by assumption) ?_
        rotate_left
        · intro w hSw
          try dsimp only at hSw
          try simp only [List.getElem_toArray, List.getElem_cons_succ, List.getElem_cons_zero]
          go_split_ands
          go_simp
          try with_reducible rfl
        try simp only [Act.put, List.getElem_toArray, List.getElem_cons_succ, List.getElem_cons_zero, List.setIfInBounds_toArray, List.set_cons_zero, List.set_cons_succ]
        refine wpAnyH_ready (rs := [4]) (by kernel_rfl) (by simp) ?_
        refine AllReadyH.cons (o := _) rfl (fun K hK => ?_) AllReadyH.nil
        simp only [List.getElem_toArray, List.getElem_cons_succ, List.getElem_cons_zero]
        go_simp
        refine (right_any _ x).mono ?_
        rintro e w5 ⟨rfl, f5⟩
        rw [HBB.out]
        go_wp2_with fail
        refine hK.out _ _ ⟨f5.cell hHeld.1 (by simp), f5.cell hHeld.2.1 (by simp), f5.cell hHeld.2.2.1 (by simp), f5.cell hHeld.2.2.2.1 (by simp), f5.cell hHeld.2.2.2.2.1 (by simp), f5.cell hHeld.2.2.2.2.2.1 (by simp), f5.cell hHeld.2.2.2.2.2.2.1 (by simp), f5.cell hHeld.2.2.2.2.2.2.2.1 (by simp), f5.cell hHeld.2.2.2.2.2.2.2.2.1 (by simp), f5.cell hHeld.2.2.2.2.2.2.2.2.2.1 (by simp), f5.cell hHeld.2.2.2.2.2.2.2.2.2.2 (by simp)⟩ (fun hHeld => ?_)
        clear hK K
        try simp only [Act.put, List.getElem_toArray, List.getElem_cons_succ, List.getElem_cons_zero, List.setIfInBounds_toArray, List.set_cons_zero, List.set_cons_succ]
        refine wpAnyH_ready (rs := [9]) (by kernel_rfl) (by simp) ?_
        refine AllReadyH.cons (o := _) rfl (fun K hK => ?_) AllReadyH.nil
        simp only [List.getElem_toArray, List.getElem_cons_succ, List.getElem_cons_zero]
        go_simp
        refine (ref_right_any _ x).mono ?_
        rintro e w6 ⟨rfl, f6⟩
        rw [HBB.out]
        go_wp2_with fail
        refine hK.out _ _ ⟨f6.cell hHeld.1 (by simp), f6.cell hHeld.2.1 (by simp), f6.cell hHeld.2.2.1 (by simp), f6.cell hHeld.2.2.2.1 (by simp), f6.cell hHeld.2.2.2.2.1 (by simp), f6.cell hHeld.2.2.2.2.2.1 (by simp), f6.cell hHeld.2.2.2.2.2.2.1 (by simp), f6.cell hHeld.2.2.2.2.2.2.2.1 (by simp), f6.cell hHeld.2.2.2.2.2.2.2.2.1 (by simp), f6.cell hHeld.2.2.2.2.2.2.2.2.2.1 (by simp), f6.cell hHeld.2.2.2.2.2.2.2.2.2.2 (by simp)⟩ (fun hHeld => ?_)
        clear hK K
        try simp only [Act.put, List.getElem_toArray, List.getElem_cons_succ, List.getElem_cons_zero, List.setIfInBounds_toArray, List.set_cons_zero, List.set_cons_succ]
        refine wpAnyH_take (i := 10) (oi := _) (v := ?_) rfl (by kernel_rfl) (by kernel_rfl) (by kernel_rfl) (fun _ _ _ h => h) (Or.inl ⟨by rfl, ?_⟩) (by assumption) ?_
        rotate_left
        · intro w hSw
          try dsimp only at hSw
          try simp only [List.getElem_toArray, List.getElem_cons_succ, List.getElem_cons_zero]
          go_split_ands
          go_simp
          try with_reducible rfl
        try simp only [Act.put, List.getElem_toArray, List.getElem_cons_succ, List.getElem_cons_zero, List.setIfInBounds_toArray, List.set_cons_zero, List.set_cons_succ]
        refine wpAnyH_done (by kernel_rfl) ?_ _
        have HX6 := Lib.hid ((HX.out.fr (((Fr.refl [] wr).drew.trans f5).trans f6) (by simp)))
        have HY6 := Lib.hid ((HY.out.fr (((Fr.refl [] wr).drew.trans f5).trans f6) (by simp)))
        have F6 := Lib.hid ((f.drew.trans f5).trans f6)
        clear hHeld f5 f6
        go_wp2
        go_roundw
        case rel => exact ⟨k + 1, by omega, by go_num, HX6.out, HY6.out, F6.out⟩
        case measure => simp [intOf]; omega
      · have q1 := conv_any HX.out c2
        have q2 := conv_any HY.out c3
        rw [← HLEN.out] at q1 q2
        generalize strOfNums D = str at q1 q2
        go_wp2
        go_ret
        exact ⟨rfl, f⟩

end Go.Proofs.Ytphnjgkaapfocaa
