/- The walk of QueuePlays. -/
import Derived.Test.YtdpefnebghljoaaQuY
import Derived.Deep.CutBlock
namespace Go.Proofs.Ytdpefnebghljoaa
open Go.RowKit

set_option maxHeartbeats 32000000 in
set_option maxRecDepth 100000 in
theorem plays_walk (w : World) (a b c d e : Int) (g : Option Addr) (cap : Nat) (l : List Int) (who kd : Int) (gt : Option Addr) (capt : Nat) (TL : List TurnV) (ha : 0 ≤ a ∧ a ≤ 255) (hb : 0 ≤ b ∧ b ≤ 255) (hc : 0 ≤ c ∧ c ≤ 255) (hd : 0 ≤ d ∧ d ≤ 255) (he : 0 ≤ e ∧ e ≤ 255) (hl : U8At w g l) (hw0 : 0 ≤ who) (hw1 : who ≤ 255) (hd0 : 0 ≤ kd) (hd1 : kd ≤ 255) (hT : TurnsAt w gt TL) :
    Calls Try.prog 7 #[.agg #[.int .u8 a, .int .u8 b, .int .u8 c, .int .u8 d, .int .u8 e], .slice g l.length cap, .int .u8 who, .int .u8 kd, .slice gt TL.length capt] w fun e w' => e = .returned (.bool true) ∧ Fr [] w w' := by
  obtain ⟨i0, hi, hz0, hz1, hz2⟩ := info_parts info_int
  have HCONF := Lib.hid (fun W : World => rconf_any W a b c d e ha hb hc hd he)
  have HL := Lib.hid hl
  have HTT := Lib.hid hT
  have hl63 := hl.1
  have ht63 := hT.1
  obtain ⟨len, hlen⟩ : ∃ n, n = l.length := ⟨_, rfl⟩
  obtain ⟨lt, hlt⟩ : ∃ n, n = TL.length := ⟨_, rfl⟩
  rw [← hlen] at hl63 ⊢
  rw [← hlt] at ht63 ⊢
  have HLEN := Lib.hid hlen; have HLT := Lib.hid hlt
  clear hl hlen ha hb hc hd he hT hlt
  go_enter Try.func7, Try.ntmps7
  go_wp2_with fail
  have F0 := (Fr.refl [] w).alloc (.cells #[.int .u8 a, .int .u8 b, .int .u8 c, .int .u8 d, .int .u8 e] 44)
  have hbk := heap_alloc_new w (.cells #[.int .u8 a, .int .u8 b, .int .u8 c, .int .u8 d, .int .u8 e] 44)
  refine (awake_any _).mono ?_
  rintro en w1 ⟨rfl, f1⟩
  have hb1 := f1.at hbk (by simp)
  have x0 := cell_of (i := 0) hb1 rfl
  have x1 := cell_of (i := 1) hb1 rfl
  have x2 := cell_of (i := 2) hb1 rfl
  have x3 := cell_of (i := 3) hb1 rfl
  have x4 := cell_of (i := 4) hb1 rfl
  have F1 := Lib.hid (F0.trans f1)
  clear hbk hb1 F0 f1
  by_cases hlong : (8 : Int) < (len : Int)
  · go_wp2
    go_ret
    exact ⟨rfl, F1.out⟩
  · by_cases hlong2 : (10 : Int) < (lt : Int)
    · go_wp2
      go_ret
      exact ⟨rfl, F1.out⟩
    · go_wp2_with fail
      refine (HCONF.out _).mono ?_
      rintro en w2 ⟨cv, rfl, hsm, f2⟩
      obtain ⟨wo, sl, st, wa, us⟩ := cv
      have hft := hsm.fits
      have hsm1 := hsm.1
      simp only at hsm1
      have HSM := Lib.hid hsm
      have HFT := Lib.hid hft
      have F2 := Lib.hid (F1.out.trans f2)
      clear x0 x1 x2 x3 x4 hsm hft f2 HCONF
      unfold ConfV.val
      simp only
      have hbx := heap_alloc_new w2 (.cells #[.int .i64 wo, .int .i64 sl, .int .i64 st, .int .i64 wa, .int .i64 us] 25)
      have F2b := Lib.hid (F2.out.alloc (.cells #[.int .i64 wo, .int .i64 sl, .int .i64 st, .int .i64 wa, .int .i64 us] 25))
      have HBXw := Lib.hid hbx
      clear hbx
      go_upto_block 0 with fail
      generalize w2.alloc (.cells #[.int .i64 wo, .int .i64 sl, .int .i64 st, .int .i64 wa, .int .i64 us] 25) = w3 at HBXw F2b ⊢
      generalize w2.heap.size = b6 at HBXw ⊢
      have HT3 := Lib.hid (HTT.out.low (Nat.le_refl _) (Low.fr F2b.out))
      go_cut [13] from 41 to 54 (fun _ wx => wx = w3 ∧ ∀ y ∈ TL, y.l.length ≤ 8)
      case first =>
        go_wp2_with fail
        go_loopw [13] (fun i wz => ∃ k : Nat, k ≤ lt ∧ i = .int .i64 (k : Int) ∧ wz = w3 ∧ ∀ (j : Nat) (y : TurnV), j < k → TL[j]? = some y → y.l.length ≤ 8) (fun i _ => lt - (intOf i).toNat)
        case atStart => exact ⟨0, by omega, rfl, rfl, fun j y hj => by omega⟩
        case round =>
          obtain ⟨k, hk, rfl, hwr, hd⟩ := hrel
          rw [hwr]
          clear hwr
          have HD := Lib.hid hd
          clear hd
          by_cases hlt : k < lt
          · have hlt' : (k : Int) < (lt : Int) := by omega
            obtain ⟨y, hy⟩ : ∃ y, TL[k]? = some y := ⟨_, List.getElem?_eq_getElem (by rw [← HLT.out]; exact hlt)⟩
            obtain ⟨-, -, -, bt, ot, hgt, -, ht1, -⟩ := HT3.out.2 k y hy
            subst hgt
            obtain ⟨nl, hnl⟩ : ∃ nl, nl = y.l.length := ⟨_, rfl⟩
            rw [← hnl] at ht1
            have HY := Lib.hid hy; have HNL := Lib.hid hnl
            clear hy hnl
            by_cases hbig : (8 : Int) < (nl : Int)
            · go_wp2
              go_ret
              exact ⟨rfl, F2b.out⟩
            · go_wp2
              go_roundw
              case rel => exact ⟨k + 1, by omega, by go_num, by first | rfl | trivial, fun j z hj hz => by
                by_cases hjk : j = k
                · subst hjk
                  rw [HY.out] at hz
                  injection hz with hz
                  subst hz
                  rw [← HNL.out]; omega
                · exact HD.out j z (by omega) hz⟩
              case measure => simp [intOf]; omega
          · have hkn : ¬ (k : Int) < (lt : Int) := by omega
            go_wp2_with fail
            go_meet
            case rel => exact ⟨rfl, fun y hy => by
              obtain ⟨j, hj⟩ := List.getElem?_of_mem hy
              exact HD.out j y (by have := (List.getElem?_eq_some_iff.1 hj).1; rw [← HLT.out] at this; omega) hj⟩
      case rest =>
        obtain ⟨hwc, hTL⟩ := hcut
        rw [hwc]
        clear hwc
        have HTL := Lib.hid hTL
        clear hTL
        have q0 := cell_of (i := 0) HBXw.out rfl; have q1 := cell_of (i := 1) HBXw.out rfl; have q2 := cell_of (i := 2) HBXw.out rfl; have q3 := cell_of (i := 3) HBXw.out rfl; have q4 := cell_of (i := 4) HBXw.out rfl
        obtain ⟨k, hk⟩ : ∃ k, k = who % wo := ⟨_, rfl⟩
        have hk0 : 0 ≤ k := by rw [hk]; exact Int.emod_nonneg _ (by omega)
        have hk1 : k < wo := by rw [hk]; exact Int.emod_lt_of_pos _ (by omega)
        have HKT := Lib.hid hk.symm
        have HLA := Lib.hid (HL.out.fr F2b.out)
        have HBX := HBXw
        have hwo0 : ¬ wo = 0 := by omega
        clear hk
        go_wp2_with fail
        rw [HKT.out]
        have hlined := lined_any w3 ⟨wo, sl, st, wa, us⟩ g cap l HFT.out HLA.out (by rw [← HLEN.out]; omega)
        rw [← HLEN.out] at hlined
        refine hlined.mono ?_
        rintro en w4 ⟨v4, rfl, hrow4, f4⟩
        obtain ⟨g2, c2, rfl, hI4⟩ := row_ints hrow4
        obtain ⟨hln, hln2⟩ := linedL_ln (wo := wo) (by omega) (by omega) l
        have hle := linedL_len wo l
        rw [← HLEN.out] at hle
        obtain ⟨Q, hQ⟩ : ∃ Q, Q = linedL wo l := ⟨_, rfl⟩
        rw [show (linedL (ConfV.mk wo sl st wa us).wo l).length = Q.length by rw [hQ]]
        have HI4 := Lib.hid (show IntsAt w4 g2 Q by rw [hQ]; exact hI4)
        have HLNQ := Lib.hid (show Ln Q by rw [hQ]; exact hln)
        have HQW := Lib.hid (show ∀ x ∈ Q, x < wo by rw [hQ]; exact fun x hx => (hln2 x hx).2)
        have HBX4 := Lib.hid (f4.at HBX.out (by simp)); have F4 := Lib.hid (F2b.out.trans f4)
        have hs4 := F4.out.size
        have HGB := Lib.hid (show ∀ a, g2 = some a → a.block < w4.heap.size from by intro a ha; subst ha; exact (hrow4.lt a.block rfl).2)
        clear hI4 hln hln2 hle hQ hrow4 hlined f4 HBX HBXw HLA q0 q1 q2 q3 q4 HKT
        have q0 := cell_of (i := 0) HBX4.out rfl; have q1 := cell_of (i := 1) HBX4.out rfl; have q2 := cell_of (i := 2) HBX4.out rfl; have q3 := cell_of (i := 3) HBX4.out rfl; have q4 := cell_of (i := 4) HBX4.out rfl
        go_wp2_with fail
        refine (qlaid_any w4 ⟨wo, sl, st, wa, us⟩ 0 g2 c2 Q HFT.out HLNQ.out HI4.out).mono ?_
        rintro en w5 ⟨pm, qm, t1, rfl, hpm, hqm, ht1, hm5, f5⟩
        have HBX5 := Lib.hid (f5.at HBX4.out (by simp)); have HI5 := Lib.hid (HI4.out.fr f5 (by simp)); have F5 := Lib.hid (F4.out.trans f5)
        have HM5 := Lib.hid hm5
        have HF45 := Lib.hid f5
        have hs5 := f5.size; have hpml := hm5.plt; have hqml := hm5.qlt; have hmne := hm5.ne
        have hb6 := heap_lt HBX4.out
        obtain ⟨N, hN⟩ : ∃ N : Nat, (N : Int) = ConfV.cells ⟨wo, sl, st, wa, us⟩ := ⟨(ConfV.cells ⟨wo, sl, st, wa, us⟩).toNat, by have := HFT.out.2.1; simp only at this; simp only [ConfV.cells]; omega⟩
        have hN2 : 3 + 2 * wo ≤ (N : Int) ∧ N ≤ 40 ∧ 5 ≤ N := by have := HFT.out.2.1; have := HSM.out.2.1; simp only at this; simp only [ConfV.cells] at hN; omega
        have hrc := fun W : World => rcells_any W ⟨wo, sl, st, wa, us⟩ HSM.out
        rw [← hN] at hrc
        unfold ConfV.val at hrc
        simp only at hrc
        have HRC := Lib.hid hrc; have HN := Lib.hid hN
        clear f5 hm5 q0 q1 q2 q3 q4 hrc hN
        have q0 := cell_of (i := 0) HBX5.out rfl; have q1 := cell_of (i := 1) HBX5.out rfl; have q2 := cell_of (i := 2) HBX5.out rfl; have q3 := cell_of (i := 3) HBX5.out rfl; have q4 := cell_of (i := 4) HBX5.out rfl
        have hmk := run_make_row' (P := Try.prog) 26 3 (.int .i64 0) 8 Try.underlying26 info_int rfl .i64 .i64 N (by omega) (by omega)
        go_wp2_with fail
        refine (HRC.out w5).mono ?_
        rintro en w6 ⟨rfl, f6⟩
        have HBX6 := Lib.hid (f6.at HBX5.out (by simp)); have HI6 := Lib.hid (HI5.out.fr f6 (by simp)); have F6 := Lib.hid (F5.out.trans f6)
        have HM6 := Lib.hid (HM5.out.fr f6 (by simp) (by simp))
        have hs6 := f6.size
        have HF46 := Lib.hid (HF45.out.trans f6)
        have hr := memAt_new 60 w6 N (by omega)
        have HR7 := Lib.hid hr
        have F67 := ((Fr.refl [] w6).alloc (.cells (madeCells #[Value.int .i64 0] N) 3)).alloc (.cells #[.slice (some ⟨w6.heap.size, 0, none⟩) N N, .int .i64 0] 60)
        have HF67 := Lib.hid F67
        have hs7 : w6.heap.size + 2 = ((w6.alloc (.cells (madeCells #[Value.int .i64 0] N) 3)).alloc (.cells #[.slice (some ⟨w6.heap.size, 0, none⟩) N N, .int .i64 0] 60)).heap.size := by simp
        clear f6 hr F67 q0 q1 q2 q3 q4
        go_wp2_with fail
        obtain ⟨cr, hcr, p0, p1, pq⟩ := HR7.out.slot (N := N) (by simp)
        generalize ((w6.alloc (.cells (madeCells #[Value.int .i64 0] N) 3)).alloc (.cells #[.slice (some ⟨w6.heap.size, 0, none⟩) N N, .int .i64 0] 60)) = w7 at HR7 HF67 hs7 p0 p1 ⊢
        obtain ⟨pr, hpr⟩ : ∃ pr, pr = w6.heap.size + 1 := ⟨_, rfl⟩
        obtain ⟨qr, hqr⟩ : ∃ qr, qr = w6.heap.size := ⟨_, rfl⟩
        rw [← hpr, ← hqr] at HR7 p0
        rw [← hpr]
        have HSZ := Lib.hid (show pr = w6.heap.size + 1 ∧ qr = w6.heap.size from ⟨hpr, hqr⟩)
        have HS7 := Lib.hid hs7
        have hN1 : (1 : Int) < (N : Int) := by omega
        have hN1' : 1 < N := by omega
        have hprq : pr ≠ qr := by omega
        have HWQ := Lib.hid (ref_word_any w7.drew g2 c2 Q HLNQ.out ((HI6.out.fr HF67.out (by simp)).fr (Fr.refl [] w7).drew (by simp)))
        clear hpr hqr hs7 pq hmk p1
        go_wp2_with fail
        refine wp_region_held_drew (S := fun w' => w'.cell? ⟨pr, 0, none⟩ = some (.slice (some ⟨qr, 0, none⟩) N cr)) (by kernel_rfl) p0 (fun hHeld => ?_)
        refine wpAnyH_take (i := 0) (oi := _) (v := ?_) rfl (by kernel_rfl) (by kernel_rfl) (by kernel_rfl) (fun _ _ _ h => h) (Or.inl ⟨by rfl, ?_⟩) (by assumption) ?_
        rotate_left
        · intro w hSw
          try dsimp only at hSw
          try simp only [List.getElem_toArray, List.getElem_cons_zero]
          go_split_ands
          go_simp
          try with_reducible rfl
        try simp only [Act.put, List.getElem_toArray, List.getElem_cons_zero, List.setIfInBounds_toArray, List.set_cons_zero, List.set_cons_succ]
        refine wpAnyH_take (i := 1) (oi := _) (v := ?_) rfl (by kernel_rfl) (by kernel_rfl) (by kernel_rfl) (fun _ _ _ h => h) (Or.inl ⟨by rfl, ?_⟩) (by assumption) ?_
        rotate_left
        · intro w hSw
          try dsimp only at hSw
          try simp only [List.getElem_toArray, List.getElem_cons_succ, List.getElem_cons_zero]
          go_split_ands
          go_simp
          try with_reducible rfl
        try simp only [Act.put, List.getElem_toArray, List.getElem_cons_succ, List.getElem_cons_zero, List.setIfInBounds_toArray, List.set_cons_zero, List.set_cons_succ]
        refine wpAnyH_take (i := 2) (oi := _) (v := ?_) rfl (by kernel_rfl) (by kernel_rfl) (by kernel_rfl) (fun _ _ _ h => h) (Or.inl ⟨by rfl, ?_⟩) (by assumption) ?_
        rotate_left
        · intro w hSw
          try dsimp only at hSw
          try simp only [List.getElem_toArray, List.getElem_cons_succ, List.getElem_cons_zero]
          go_split_ands
          go_simp
          try with_reducible rfl
        try simp only [Act.put, List.getElem_toArray, List.getElem_cons_succ, List.getElem_cons_zero, List.setIfInBounds_toArray, List.set_cons_zero, List.set_cons_succ]
        refine wpAnyH_take (i := 3) (oi := _) (v := ?_) rfl (by kernel_rfl) (by kernel_rfl) (by kernel_rfl) (fun _ _ _ h => h) (Or.inl ⟨by rfl, ?_⟩) (by assumption) ?_
        rotate_left
        · intro w hSw
          try dsimp only at hSw
          try simp only [List.getElem_toArray, List.getElem_cons_succ, List.getElem_cons_zero]
          go_split_ands
          go_simp
          try with_reducible rfl
        try simp only [Act.put, List.getElem_toArray, List.getElem_cons_succ, List.getElem_cons_zero, List.setIfInBounds_toArray, List.set_cons_zero, List.set_cons_succ]
        refine wpAnyH_take (i := 4) (oi := _) (v := ?_) rfl (by kernel_rfl) (by kernel_rfl) (by kernel_rfl) (fun _ _ _ h => h) (Or.inl ⟨by rfl, ?_⟩) (by assumption) ?_
        rotate_left
        · intro w hSw
          try dsimp only at hSw
          try simp only [List.getElem_toArray, List.getElem_cons_succ, List.getElem_cons_zero]
          go_split_ands
          go_simp
          try with_reducible rfl
        try simp only [Act.put, List.getElem_toArray, List.getElem_cons_succ, List.getElem_cons_zero, List.setIfInBounds_toArray, List.set_cons_zero, List.set_cons_succ]
        refine wpAnyH_ready (rs := [5]) (by kernel_rfl) (by simp) ?_
        refine AllReadyH.cons (o := _) rfl (fun K hK => ?_) AllReadyH.nil
        simp only [List.getElem_toArray, List.getElem_cons_succ, List.getElem_cons_zero]
        go_simp
        refine (HWQ.out).mono ?_
        rintro en w8 ⟨rfl, f8⟩
        have F8 := (Fr.refl [] w7).drew.trans f8
        go_wp2_with fail
        refine hK.out _ _ (F8.cell p0 (by simp)) (fun hHeld => ?_)
        clear hK K
        try simp only [Act.put, List.getElem_toArray, List.getElem_cons_succ, List.getElem_cons_zero, List.setIfInBounds_toArray, List.set_cons_zero, List.set_cons_succ]
        refine wpAnyH_take (i := 6) (oi := _) (v := ?_) rfl (by kernel_rfl) (by kernel_rfl) (by kernel_rfl) (fun _ _ _ h => h) (Or.inl ⟨by rfl, ?_⟩) (by assumption) ?_
        rotate_left
        · intro w hSw
          try dsimp only at hSw
          try simp only [List.getElem_toArray, List.getElem_cons_succ, List.getElem_cons_zero]
          go_split_ands
          go_simp
          try with_reducible rfl
        try simp only [Act.put, List.getElem_toArray, List.getElem_cons_succ, List.getElem_cons_zero, List.setIfInBounds_toArray, List.set_cons_zero, List.set_cons_succ]
        obtain ⟨pq1, pf1⟩ := ((HR7.out.fr F8 (by simp) (by simp)).slot (N := N) (by simp)).choose_spec.2.2.2 1 (by omega)
        refine wpAnyH_ready (rs := [7]) (by kernel_rfl) (by simp) ?_
        refine AllReadyH.cons (o := _) rfl (fun K hK => ?_) AllReadyH.nil
        simp only [List.getElem_toArray, List.getElem_cons_succ, List.getElem_cons_zero]
        go_simp
        refine hK.out _ _ (((Fr.refl [qr] w8).setCell (p := ⟨qr, 1, none⟩) (.inl (by simp)) (.int .i64 (wd Q : Int))).cell (F8.cell p0 (by simp)) (by simp; exact hprq)) (fun hHeld => ?_)
        clear hK K
        try simp only [Act.put, List.getElem_toArray, List.getElem_cons_succ, List.getElem_cons_zero, List.setIfInBounds_toArray, List.set_cons_zero, List.set_cons_succ]
        refine wpAnyH_done (by kernel_rfl) ?_ _
        obtain ⟨w9, hw9⟩ : ∃ w9, w9 = w8.setCell ⟨qr, 1, none⟩ (.int .i64 (wd Q : Int)) := ⟨_, rfl⟩
        have FS := (Fr.refl [qr] w8).setCell (p := ⟨qr, 1, none⟩) (.inl (by simp)) (.int .i64 (wd Q : Int))
        have hm9 := (HR7.out.fr F8 (by simp) (by simp)).put 1 (wd Q : Int)
        rw [← laid_set HN.out (by omega) Q] at hm9
        rw [← hw9] at FS hm9 ⊢
        have hsz := HSZ.out
        have f69 : Fr [] w6 w9 := (HF67.out.trans F8).then FS (fun x hx => by rw [List.mem_singleton.1 hx]; right; omega)
        have f79 : Fr [qr] w7 w9 := (F8.mono (by simp)).trans FS
        have HR9 := Lib.hid hm9; have F69 := Lib.hid f69; have F79 := Lib.hid f79
        have HBX9 := Lib.hid (f69.at HBX6.out (by simp))
        clear hw9 FS hm9 hsz f69 f79 F8 p0 pq1 pf1 hHeld
        have q0 := cell_of (i := 0) HBX9.out rfl; have q1 := cell_of (i := 1) HBX9.out rfl; have q2 := cell_of (i := 2) HBX9.out rfl; have q3 := cell_of (i := 3) HBX9.out rfl; have q4 := cell_of (i := 4) HBX9.out rfl
        go_wp2_with fail
        refine (enter_any w9 ⟨wo, sl, st, wa, us⟩ k).mono ?_
        rintro en w10 ⟨pe, rfl, hpe, hqe, f10⟩
        have HBX10 := Lib.hid (f10.at HBX9.out (by simp))
        have HQE := Lib.hid hqe; have F10 := Lib.hid f10
        clear hqe f10 q0 q1 q2 q3 q4
        have q0 := cell_of (i := 0) HBX10.out rfl; have q1 := cell_of (i := 1) HBX10.out rfl; have q2 := cell_of (i := 2) HBX10.out rfl; have q3 := cell_of (i := 3) HBX10.out rfl; have q4 := cell_of (i := 4) HBX10.out rfl
        go_wp2_with fail
        refine (renter_any w10 ⟨wo, sl, st, wa, us⟩ k).mono ?_
        rintro en w11 ⟨re, rfl, hre, hqre, f11⟩
        have HBX11 := Lib.hid (f11.at HBX10.out (by simp))
        have HQRE := Lib.hid hqre; have F11 := Lib.hid f11
        clear hqre f11 q0 q1 q2 q3 q4
        have q0 := cell_of (i := 0) HBX11.out rfl; have q1 := cell_of (i := 1) HBX11.out rfl; have q2 := cell_of (i := 2) HBX11.out rfl; have q3 := cell_of (i := 3) HBX11.out rfl; have q4 := cell_of (i := 4) HBX11.out rfl
        go_upto_block 2 with fail
        go_cut [18, 19] from 86 to 99 (fun xv yv wx => ∃ (px py : Nat) (s r : QuS), xv = .pointer (some ⟨px, 0, none⟩) ∧ yv = .pointer (some ⟨py, 0, none⟩) ∧ w9.heap.size ≤ px ∧ px < py ∧ QuAt wx px ⟨wo, sl, st, wa, us⟩ s ∧ RqAt wx py ⟨wo, sl, st, wa, us⟩ r ∧ Both ⟨wo, sl, st, wa, us⟩ s r ∧ Fr [] w9 wx)
        case first =>
          by_cases hka : kd % 3 = 1
          · have hkb : (kd % 3 == 1) = true := beq_iff_eq.2 hka
            clear hka
            go_wp2_with fail
            refine (leave_any w11 ⟨wo, sl, st, wa, us⟩ k).mono ?_
            rintro en w12 ⟨px, rfl, hpx, hqx, f12⟩
            have q0 := f12.cell q0 (by simp); have q1 := f12.cell q1 (by simp); have q2 := f12.cell q2 (by simp); have q3 := f12.cell q3 (by simp); have q4 := f12.cell q4 (by simp)
            have HQX := Lib.hid hqx; have F12 := Lib.hid f12
            have hpx' : px < w12.heap.size := heap_lt (show w12.heap[px]? = some _ from hqx)
            have h1011 := F10.out.size; have h1112 := F11.out.size
            clear hqx f12
            go_wp2_with fail
            refine (rleave_any w12 ⟨wo, sl, st, wa, us⟩ k).mono ?_
            rintro en w13 ⟨py, rfl, hpy, hqy, f13⟩
            have HE := Lib.hid (show ∃ (px' py' : Nat) (s r : QuS), Value.pointer (some ⟨px, 0, none⟩) = .pointer (some ⟨px', 0, none⟩) ∧ Value.pointer (some ⟨py, 0, none⟩) = .pointer (some ⟨py', 0, none⟩) ∧ w9.heap.size ≤ px' ∧ px' < py' ∧ QuAt w13 px' ⟨wo, sl, st, wa, us⟩ s ∧ RqAt w13 py' ⟨wo, sl, st, wa, us⟩ r ∧ Both ⟨wo, sl, st, wa, us⟩ s r ∧ Fr [] w9 w13 from
              ⟨px, py, _, _, rfl, rfl, by omega, by omega, HQX.out.fr f13 (by simp), hqy, ⟨rfl, rfl, rfl, rfl, by simp, by simp, by simp, Ln.nil, by simp, ⟨hk0, hk1⟩, by simp, by simp⟩, ((F10.out.trans F11.out).trans F12.out).trans f13⟩)
            clear hqy f13
            go_wp2
            go_meet
            case rel => exact HE.out
          · by_cases hkc : kd % 3 = 2
            · have hkd : (kd % 3 == 1) = false := beq_eq_false_iff_ne.2 hka
              have hkb : (kd % 3 == 2) = true := beq_iff_eq.2 hkc
              clear hka hkc
              go_wp2_with fail
              refine (drain_any w11 ⟨wo, sl, st, wa, us⟩).mono ?_
              rintro en w12 ⟨px, rfl, hpx, hqx, f12⟩
              have q0 := f12.cell q0 (by simp); have q1 := f12.cell q1 (by simp); have q2 := f12.cell q2 (by simp); have q3 := f12.cell q3 (by simp); have q4 := f12.cell q4 (by simp)
              have HQX := Lib.hid hqx; have F12 := Lib.hid f12
              have hpx' : px < w12.heap.size := heap_lt (show w12.heap[px]? = some _ from hqx)
              have h1011 := F10.out.size; have h1112 := F11.out.size
              clear hqx f12
              go_wp2_with fail
              refine (rdrain_any w12 ⟨wo, sl, st, wa, us⟩).mono ?_
              rintro en w13 ⟨py, rfl, hpy, hqy, f13⟩
              have HE := Lib.hid (show ∃ (px' py' : Nat) (s r : QuS), Value.pointer (some ⟨px, 0, none⟩) = .pointer (some ⟨px', 0, none⟩) ∧ Value.pointer (some ⟨py, 0, none⟩) = .pointer (some ⟨py', 0, none⟩) ∧ w9.heap.size ≤ px' ∧ px' < py' ∧ QuAt w13 px' ⟨wo, sl, st, wa, us⟩ s ∧ RqAt w13 py' ⟨wo, sl, st, wa, us⟩ r ∧ Both ⟨wo, sl, st, wa, us⟩ s r ∧ Fr [] w9 w13 from
                ⟨px, py, _, _, rfl, rfl, by omega, by omega, HQX.out.fr f13 (by simp), hqy, ⟨rfl, rfl, rfl, rfl, by simp, by simp, by simp, Ln.nil, by simp, ⟨by simp, by simp only; omega⟩, by simp, by simp⟩, ((F10.out.trans F11.out).trans F12.out).trans f13⟩)
              clear hqy f13
              go_wp2
              go_meet
              case rel => exact HE.out
            · have hkd : (kd % 3 == 1) = false := beq_eq_false_iff_ne.2 hka
              have hkb : (kd % 3 == 2) = false := beq_eq_false_iff_ne.2 hkc
              have h10 := heap_lt (show w10.heap[pe]? = some _ from HQE.out)
              have HE := Lib.hid (show ∃ (px' py' : Nat) (s r : QuS), Value.pointer (some ⟨pe, 0, none⟩) = .pointer (some ⟨px', 0, none⟩) ∧ Value.pointer (some ⟨re, 0, none⟩) = .pointer (some ⟨py', 0, none⟩) ∧ w9.heap.size ≤ px' ∧ px' < py' ∧ QuAt w11 px' ⟨wo, sl, st, wa, us⟩ s ∧ RqAt w11 py' ⟨wo, sl, st, wa, us⟩ r ∧ Both ⟨wo, sl, st, wa, us⟩ s r ∧ Fr [] w9 w11 from
                ⟨pe, re, _, _, rfl, rfl, by omega, by omega, HQE.out.fr F11.out (by simp), HQRE.out, ⟨rfl, rfl, rfl, rfl, by simp, by simp, by simp, Ln.nil, by simp, ⟨hk0, hk1⟩, by simp, by simp⟩, F10.out.trans F11.out⟩)
              clear hka hkc
              go_wp2
              go_meet
              case rel => exact HE.out
        case rest =>
          obtain ⟨px, py, s, r, rfl, rfl, hpx, hpy, hqx, hqy, hbo, f12⟩ := hcut
          have hs79 := F79.out.size; have hs7 := HS7.out; have hsz := HSZ.out
          have HSIX := Lib.hid (show Six w4.heap.size pm qm pr qr px py from ⟨by omega, by omega, by omega, by omega, by omega, by omega⟩)
          have HWB := Lib.hid (show w.heap.size ≤ w4.heap.size ∧ b6 < w4.heap.size from ⟨hs4, hb6⟩)
          have HLOW := Lib.hid (show Low w4.heap.size w4 wc from Low.fr ((HF46.out.trans F69.out).trans f12))
          have HT4 := Lib.hid (HTT.out.low (Nat.le_refl _) (Low.fr F4.out))
          obtain ⟨hok, hmq⟩ := laid_ok HFT.out 0 HLNQ.out
          have HPM := Lib.hid (show PlM wo N pm qm pr qr (laidM ⟨wo, sl, st, wa, us⟩ 0 Q) t1 0 wc from
            ⟨(HM6.out.fr F69.out (by simp) (by simp)).fr f12 (by simp) (by simp), HR9.out.fr f12 (by simp) (by simp), hok, by rw [hmq]; exact HQW.out, by rw [length_laidM, ← HN.out]; simp⟩)
          have HQX := Lib.hid hqx; have HQY := Lib.hid hqy; have HBO := Lib.hid hbo
          clear hs79 hs7 hsz hok hmq hqx hqy hbo f12 hpx hpy hs4 hs5 hs6 hb6 hpml hqml hmne hpm hqm hpe hre
          generalize hB : w4.heap.size = B at HSIX HWB HLOW
          have HBE := Lib.hid hB
          clear hB
          go_wp2_with fail
          go_loopw [20] (fun jv wz => ∃ (jn : Nat) (t tr : Int) (M : List Int) (s r : QuS), jn ≤ 60 ∧ jv = .int .i64 (jn : Int) ∧ (0 ≤ t ∧ t ≤ 2 + 21 * jn) ∧ (0 ≤ tr ∧ tr ≤ jn) ∧ PlM wo N pm qm pr qr M t tr wz ∧ QuAt wz px ⟨wo, sl, st, wa, us⟩ s ∧ RqAt wz py ⟨wo, sl, st, wa, us⟩ r ∧ Both ⟨wo, sl, st, wa, us⟩ s r ∧ Low B w4 wz) (fun jv _ => 60 - (intOf jv).toNat)
          case atStart => exact ⟨0, t1, 0, _, s, r, by omega, rfl, by omega, by omega, HPM.out, HQX.out, HQY.out, HBO.out, HLOW.out⟩
          case round =>
            obtain ⟨jn, t, tr, M, s, r, hj, rfl, ht, htr, hpm, hqx, hqy, hbo, hlow⟩ := hrel
            have HPMr := Lib.hid hpm; have HQXr := Lib.hid hqx; have HQYr := Lib.hid hqy; have HBOr := Lib.hid hbo; have HLOr := Lib.hid hlow
            clear hpm hqx hqy hbo hlow HPM HQX HQY HBO HLOW
            by_cases hlt : jn < 60
            · have hlt' : (jn : Int) < 60 := by omega
              go_upto_block 5 with fail
              go_cut [21, 22] from 110 to 161 (fun _ _ wx => ∃ (t' : Int) (M : List Int), (t ≤ t' ∧ t' ≤ t + 20) ∧ PlM wo N pm qm pr qr M t' tr wx ∧ QuAt wx px ⟨wo, sl, st, wa, us⟩ s ∧ RqAt wx py ⟨wo, sl, st, wa, us⟩ r ∧ Low B w4 wx)
              case first =>
                go_wp2_with fail
                go_loopw [21] (fun iv wz => ∃ (i : Nat) (t' : Int) (M : List Int), i ≤ lt ∧ iv = .int .i64 (i : Int) ∧ (t ≤ t' ∧ t' ≤ t + 2 * i) ∧ PlM wo N pm qm pr qr M t' tr wz ∧ QuAt wz px ⟨wo, sl, st, wa, us⟩ s ∧ RqAt wz py ⟨wo, sl, st, wa, us⟩ r ∧ Low B w4 wz) (fun iv _ => lt - (intOf iv).toNat)
                case atStart => exact ⟨0, t, M, by omega, rfl, by omega, HPMr.out, HQXr.out, HQYr.out, HLOr.out⟩
                case round =>
                  obtain ⟨i, t', M, hi', rfl, ht', hpm, hqx, hqy, hlow⟩ := hrel
                  have HPMi := Lib.hid hpm; have HQXi := Lib.hid hqx; have HQYi := Lib.hid hqy; have HLOi := Lib.hid hlow
                  clear hpm hqx hqy hlow
                  by_cases hil : i < lt
                  · have hil' : (i : Int) < (lt : Int) := by omega
                    obtain ⟨y, hy⟩ : ∃ y, TL[i]? = some y := ⟨_, List.getElem?_eq_getElem (by rw [← HLT.out]; exact hil)⟩
                    have hyl := HTL.out y (List.mem_of_getElem? hy)
                    have HT4r := HT4.out.low (Nat.le_of_eq HBE.out) HLOi.out
                    obtain ⟨hwh, hcl, hu8, bt, ot, hgt, ht0, ht1', ht2⟩ := HT4r.2 i y hy
                    have hbt := HWB.out.1
                    have hbtl : bt < w.heap.size := by
                      obtain ⟨-, -, -, bt', ot', hgt', hc', -⟩ := HTT.out.2 i y hy
                      rw [hgt] at hgt'
                      injection hgt' with e
                      injection e with e1 e2
                      rw [e1]
                      exact World.block_lt_of_cell? w _ hc'
                    subst hgt
                    have HU8 := Lib.hid hu8
                    clear hu8 HT4r hy
                    by_cases hw : y.wh = (jn : Int)
                    · have hwb : (y.wh == (jn : Int)) = true := beq_iff_eq.2 hw
                      have q0 := HLOi.out.cell (cell_of (i := 0) HBX4.out rfl) HWB.out.2; have q1 := HLOi.out.cell (cell_of (i := 1) HBX4.out rfl) HWB.out.2; have q2 := HLOi.out.cell (cell_of (i := 2) HBX4.out rfl) HWB.out.2; have q3 := HLOi.out.cell (cell_of (i := 3) HBX4.out rfl) HWB.out.2; have q4 := HLOi.out.cell (cell_of (i := 4) HBX4.out rfl) HWB.out.2
                      obtain ⟨Ly, hLy⟩ : ∃ Ly, Ly = linedL wo y.l := ⟨_, rfl⟩
                      obtain ⟨hln, hln2⟩ := linedL_ln (wo := wo) (by omega) (by omega) y.l
                      rw [← hLy] at hln hln2
                      have HLY := Lib.hid hLy; have HLYN := Lib.hid hln; have HLYW := Lib.hid (show ∀ x ∈ Ly, x < wo from fun x hx => (hln2 x hx).2)
                      have HLI := Lib.hid (lined_any wr.drew ⟨wo, sl, st, wa, us⟩ y.g y.c y.l HFT.out (HU8.out.fr (Fr.refl [] wr).drew) (by omega))
                      obtain ⟨v3, hv3⟩ : ∃ v3, v3 = y.cl % 3 := ⟨_, rfl⟩
                      have HV3 := Lib.hid hv3.symm
                      have hv30 : 0 ≤ v3 ∧ v3 ≤ 2 := by omega
                      have HVT := Lib.hid (show IntKind.i64.wrap (y.cl.tmod 3) = v3 from by
                        obtain ⟨n, hn⟩ : ∃ n : Nat, y.cl = (n : Int) := ⟨y.cl.toNat, by omega⟩
                        rw [hv3, hn]
                        show IntKind.i64.wrap ((n : Int) % 3) = (n : Int) % 3
                        rw [IntKind.wrap_i64]; omega)
                      clear hw hLy hln hln2 hv3
                      go_wp2_with fail
                      refine wp_region_held_drew (S := fun w' => w'.cell? ⟨b6, 0, none⟩ = some (.int .i64 wo) ∧ w'.cell? ⟨b6, 1, none⟩ = some (.int .i64 sl) ∧ w'.cell? ⟨b6, 2, none⟩ = some (.int .i64 st) ∧ w'.cell? ⟨b6, 3, none⟩ = some (.int .i64 wa) ∧ w'.cell? ⟨b6, 4, none⟩ = some (.int .i64 us) ∧ w'.cell? ⟨bt, ot + i * 3 + 1, none⟩ = some (.slice y.g y.l.length y.c)) (by kernel_rfl) ⟨q0, q1, q2, q3, q4, ht1'⟩ (fun hHeld => ?_)
                      refine wpAnyH_take (i := 0) (oi := _) (v := ?_) rfl (by kernel_rfl) (by kernel_rfl) (by kernel_rfl) (fun _ _ _ h => h) (Or.inl ⟨by rfl, ?_⟩) (by assumption) ?_
                      rotate_left
                      · intro w hSw
                        try dsimp only at hSw
                        try simp only [List.getElem_toArray, List.getElem_cons_zero]
                        go_split_ands
                        go_simp
                        try with_reducible rfl
                      try simp only [Act.put, List.getElem_toArray, List.getElem_cons_zero, List.setIfInBounds_toArray, List.set_cons_zero, List.set_cons_succ]
                      refine wpAnyH_take (i := 1) (oi := _) (v := ?_) rfl (by kernel_rfl) (by kernel_rfl) (by kernel_rfl) (fun _ _ _ h => h) (Or.inl ⟨by rfl, ?_⟩) (by assumption) ?_
                      rotate_left
                      · intro w hSw
                        try dsimp only at hSw
                        try simp only [List.getElem_toArray, List.getElem_cons_succ, List.getElem_cons_zero]
                        go_split_ands
                        go_simp
                        try with_reducible rfl
                      try simp only [Act.put, List.getElem_toArray, List.getElem_cons_succ, List.getElem_cons_zero, List.setIfInBounds_toArray, List.set_cons_zero, List.set_cons_succ]
                      refine wpAnyH_take (i := 2) (oi := _) (v := ?_) rfl (by kernel_rfl) (by kernel_rfl) (by kernel_rfl) (fun _ _ _ h => h) (Or.inl ⟨by rfl, ?_⟩) (by assumption) ?_
                      rotate_left
                      · intro w hSw
                        try dsimp only at hSw
                        try simp only [List.getElem_toArray, List.getElem_cons_succ, List.getElem_cons_zero]
                        go_split_ands
                        go_simp
                        try with_reducible rfl
                      try simp only [Act.put, List.getElem_toArray, List.getElem_cons_succ, List.getElem_cons_zero, List.setIfInBounds_toArray, List.set_cons_zero, List.set_cons_succ]
                      refine wpAnyH_take (i := 3) (oi := _) (v := ?_) rfl (by kernel_rfl) (by kernel_rfl) (by kernel_rfl) (fun _ _ _ h => h) (Or.inl ⟨by rfl, ?_⟩) (by assumption) ?_
                      rotate_left
                      · intro w hSw
                        try dsimp only at hSw
                        try simp only [List.getElem_toArray, List.getElem_cons_succ, List.getElem_cons_zero]
                        go_split_ands
                        go_simp
                        try with_reducible rfl
                      try simp only [Act.put, List.getElem_toArray, List.getElem_cons_succ, List.getElem_cons_zero, List.setIfInBounds_toArray, List.set_cons_zero, List.set_cons_succ]
                      refine wpAnyH_take (i := 4) (oi := _) (v := ?_) rfl (by kernel_rfl) (by kernel_rfl) (by kernel_rfl) (fun _ _ _ h => h) (Or.inl ⟨by rfl, ?_⟩) (by assumption) ?_
                      rotate_left
                      · intro w hSw
                        try dsimp only at hSw
                        try simp only [List.getElem_toArray, List.getElem_cons_succ, List.getElem_cons_zero]
                        go_split_ands
                        go_simp
                        try with_reducible rfl
                      try simp only [Act.put, List.getElem_toArray, List.getElem_cons_succ, List.getElem_cons_zero, List.setIfInBounds_toArray, List.set_cons_zero, List.set_cons_succ]
                      refine wpAnyH_take (i := 5) (oi := _) (v := ?_) rfl (by kernel_rfl) (by kernel_rfl) (by kernel_rfl) (fun _ _ _ h => h) (Or.inl ⟨by rfl, ?_⟩) (by assumption) ?_
                      rotate_left
                      · intro w hSw
                        try dsimp only at hSw
                        try simp only [List.getElem_toArray, List.getElem_cons_succ, List.getElem_cons_zero]
                        go_split_ands
                        go_simp
                        try with_reducible rfl
                      try simp only [Act.put, List.getElem_toArray, List.getElem_cons_succ, List.getElem_cons_zero, List.setIfInBounds_toArray, List.set_cons_zero, List.set_cons_succ]
                      refine wpAnyH_ready (rs := [6]) (by kernel_rfl) (by simp) ?_
                      refine AllReadyH.cons (o := _) rfl (fun K hK => ?_) AllReadyH.nil
                      simp only [List.getElem_toArray, List.getElem_cons_succ, List.getElem_cons_zero]
                      go_simp
                      refine (HLI.out).mono ?_
                      rintro en w33 ⟨v33, rfl, hown33, f33⟩
                      have F33' := (Fr.refl [] wr).drew.trans f33
                      have hown33' : w33.ownsRow wr.drew.heap.size 3 1 v33 Ly.length (Ly.map (Value.int .i64)) := by rw [HLY.out]; exact hown33
                      obtain ⟨g33, c33, rfl, hI33⟩ := row_ints hown33'
                      have HI33 := Lib.hid hI33
                      clear hown33 hown33' hI33
                      go_wp2_with fail
                      refine hK.out _ _ ⟨F33'.cell q0 (by simp), F33'.cell q1 (by simp), F33'.cell q2 (by simp), F33'.cell q3 (by simp), F33'.cell q4 (by simp), F33'.cell ht1' (by simp)⟩ (fun hHeld => ?_)
                      clear hK K
                      try simp only [Act.put, List.getElem_toArray, List.getElem_cons_succ, List.getElem_cons_zero, List.setIfInBounds_toArray, List.set_cons_zero, List.set_cons_succ]
                      refine wpAnyH_ready (rs := [7]) (by kernel_rfl) (by simp) ?_
                      refine AllReadyH.cons (o := _) rfl (fun K hK => ?_) AllReadyH.nil
                      simp only [List.getElem_toArray, List.getElem_cons_succ, List.getElem_cons_zero]
                      go_simp
                      refine (ref_word_any w33 g33 c33 Ly HLYN.out HI33.out).mono ?_
                      rintro en w34 ⟨rfl, f34⟩
                      have F34 := F33'.trans f34
                      go_wp2_with fail
                      refine hK.out _ _ ⟨F34.cell q0 (by simp), F34.cell q1 (by simp), F34.cell q2 (by simp), F34.cell q3 (by simp), F34.cell q4 (by simp), F34.cell ht1' (by simp)⟩ (fun hHeld => ?_)
                      clear hK K
                      try simp only [Act.put, List.getElem_toArray, List.getElem_cons_succ, List.getElem_cons_zero, List.setIfInBounds_toArray, List.set_cons_zero, List.set_cons_succ]
                      refine wpAnyH_take (i := 8) (oi := _) (v := ?_) rfl (by kernel_rfl) (by kernel_rfl) (by kernel_rfl) (fun _ _ _ h => h) (Or.inl ⟨by rfl, ?_⟩) (by assumption) ?_
                      rotate_left
                      · intro w hSw
                        try dsimp only at hSw
                        try simp only [List.getElem_toArray, List.getElem_cons_succ, List.getElem_cons_zero]
                        go_split_ands
                        go_simp
                        try with_reducible rfl
                      try simp only [Act.put, List.getElem_toArray, List.getElem_cons_succ, List.getElem_cons_zero, List.setIfInBounds_toArray, List.set_cons_zero, List.set_cons_succ]
                      refine wpAnyH_done (by kernel_rfl) ?_ _
                      have F33 := Lib.hid F34
                      have hmA := HPMi.out.1.fr F34 (by simp) (by simp)
                      have HMR := Lib.hid (HPMi.out.2.1.fr F34 (by simp) (by simp))
                      have HST := Lib.hid (store_any w34 pm qm M t' 0 v3 hmA (by omega) (by omega))
                      have ht0 := F34.cell ht0 (by simp); have ht2 := F34.cell ht2 (by simp)
                      clear F34 hmA f33 f34 F33' q0 q1 q2 q3 q4 hHeld HLI
                      go_wp2_with fail
                      rw [HV3.out]
                      refine HST.out.mono ?_
                      rintro en w35 ⟨rfl, hm35, f35⟩
                      have hsix := HSIX.out
                      have ht0 := f35.cell ht0 (by simp; have := hsix.b; omega); have ht2 := f35.cell ht2 (by simp; have := hsix.b; omega)
                      have HMR2 := Lib.hid (HMR.out.fr f35 (by have := hsix.m; have := hsix.n; simp; omega) (by have := hsix.m; have := hsix.n; simp; omega))
                      have HST2 := Lib.hid (store_any w35 pm qm _ _ 1 (wd Ly : Int) hm35 (by have := tch_0 M 0; omega) (by have := tch_0 M 0; omega))
                      have F35 := Lib.hid f35
                      clear f35 hm35 HST HMR
                      go_wp2_with fail
                      refine HST2.out.mono ?_
                      rintro en w36 ⟨rfl, hm36, f36⟩
                      have ht2 := f36.cell ht2 (by simp; have := hsix.b; omega)
                      have hmr := HMR2.out.fr f36 (by have := hsix.m; have := hsix.n; simp; omega) (by have := hsix.m; have := hsix.n; simp; omega)
                      obtain ⟨cr6, hcr6, p0, p1, pq⟩ := hmr.slot (N := N) HPMi.out.2.2.2.2
                      obtain ⟨pq0, pf0⟩ := pq 0 (by omega)
                      have hN0 : (0 : Int) < (N : Int) := by omega
                      have hN0' : 0 < N := by omega
                      have HMR3 := Lib.hid hmr; have HM36 := Lib.hid hm36; have F36 := Lib.hid f36
                      clear hmr hm36 f36 ht0 ht1' p1 pq hsix HST2 HMR2
                      go_wp2_with fail
                      have pq0 : w36.drew.cell? ⟨qr, 0, none⟩ = _ := pq0
                      have pf0 : w36.drew.frozen? ⟨qr, 0, none⟩ = false := pf0
                      refine wp_region_held_drew (S := fun w' => w'.cell? ⟨pr, 0, none⟩ = some (.slice (some ⟨qr, 0, none⟩) N cr6) ∧ w'.cell? ⟨bt, ot + i * 3 + 2, none⟩ = some (.int .u8 y.cl)) (by kernel_rfl) ⟨p0, ht2⟩ (fun hHeld => ?_)
                      refine wpAnyH_take (i := 0) (oi := _) (v := ?_) rfl (by kernel_rfl) (by kernel_rfl) (by kernel_rfl) (fun _ _ _ h => h) (Or.inl ⟨by rfl, ?_⟩) (by assumption) ?_
                      rotate_left
                      · intro w hSw
                        try dsimp only at hSw
                        try simp only [List.getElem_toArray, List.getElem_cons_zero]
                        go_split_ands
                        go_simp
                        try with_reducible rfl
                      try simp only [Act.put, List.getElem_toArray, List.getElem_cons_zero, List.setIfInBounds_toArray, List.set_cons_zero, List.set_cons_succ]
                      refine wpAnyH_take (i := 1) (oi := _) (v := ?_) rfl (by kernel_rfl) (by kernel_rfl) (by kernel_rfl) (fun _ _ _ h => h) (Or.inl ⟨by rfl, ?_⟩) (by assumption) ?_
                      rotate_left
                      · intro w hSw
                        try dsimp only at hSw
                        try simp only [List.getElem_toArray, List.getElem_cons_succ, List.getElem_cons_zero]
                        go_split_ands
                        go_simp
                        try with_reducible rfl
                      try simp only [Act.put, List.getElem_toArray, List.getElem_cons_succ, List.getElem_cons_zero, List.setIfInBounds_toArray, List.set_cons_zero, List.set_cons_succ]
                      refine wpAnyH_take (i := 2) (oi := _) (v := ?_) rfl (by kernel_rfl) (by kernel_rfl) (by kernel_rfl) (fun _ _ _ h => h) (Or.inl ⟨by rfl, ?_⟩) (by assumption) ?_
                      rotate_left
                      · intro w hSw
                        try dsimp only at hSw
                        try simp only [List.getElem_toArray, List.getElem_cons_succ, List.getElem_cons_zero]
                        go_split_ands
                        go_simp
                        try with_reducible rfl
                      try simp only [Act.put, List.getElem_toArray, List.getElem_cons_succ, List.getElem_cons_zero, List.setIfInBounds_toArray, List.set_cons_zero, List.set_cons_succ]
                      refine wpAnyH_take (i := 3) (oi := _) (v := ?_) rfl (by kernel_rfl) (by kernel_rfl) (by kernel_rfl) (fun _ _ _ h => h) (Or.inl ⟨by rfl, ?_⟩) (by assumption) ?_
                      rotate_left
                      · intro w hSw
                        try dsimp only at hSw
                        try simp only [List.getElem_toArray, List.getElem_cons_succ, List.getElem_cons_zero]
                        go_split_ands
                        go_simp
                        try with_reducible rfl
                      try simp only [Act.put, List.getElem_toArray, List.getElem_cons_succ, List.getElem_cons_zero, List.setIfInBounds_toArray, List.set_cons_zero, List.set_cons_succ]
                      refine wpAnyH_take (i := 4) (oi := _) (v := ?_) rfl (by kernel_rfl) (by kernel_rfl) (by kernel_rfl) (fun _ _ _ h => h) (Or.inl ⟨by rfl, ?_⟩) (by assumption) ?_
                      rotate_left
                      · intro w hSw
                        try dsimp only at hSw
                        try simp only [List.getElem_toArray, List.getElem_cons_succ, List.getElem_cons_zero]
                        go_split_ands
                        go_simp
                        try with_reducible rfl
                      try simp only [Act.put, List.getElem_toArray, List.getElem_cons_succ, List.getElem_cons_zero, List.setIfInBounds_toArray, List.set_cons_zero, List.set_cons_succ]
                      refine wpAnyH_take (i := 5) (oi := _) (v := ?_) rfl (by kernel_rfl) (by kernel_rfl) (by kernel_rfl) (fun _ _ _ h => h) (Or.inl ⟨by rfl, ?_⟩) (by assumption) ?_
                      rotate_left
                      · intro w hSw
                        try dsimp only at hSw
                        try simp only [List.getElem_toArray, List.getElem_cons_succ, List.getElem_cons_zero]
                        go_split_ands
                        go_simp
                        try with_reducible rfl
                      try simp only [Act.put, List.getElem_toArray, List.getElem_cons_succ, List.getElem_cons_zero, List.setIfInBounds_toArray, List.set_cons_zero, List.set_cons_succ]
                      refine wpAnyH_take (i := 6) (oi := _) (v := ?_) rfl (by kernel_rfl) (by kernel_rfl) (by kernel_rfl) (fun _ _ _ h => h) (Or.inl ⟨by rfl, ?_⟩) (by assumption) ?_
                      rotate_left
                      · intro w hSw
                        try dsimp only at hSw
                        try simp only [List.getElem_toArray, List.getElem_cons_succ, List.getElem_cons_zero]
                        go_split_ands
                        go_simp
                        try with_reducible rfl
                      try simp only [Act.put, List.getElem_toArray, List.getElem_cons_succ, List.getElem_cons_zero, List.setIfInBounds_toArray, List.set_cons_zero, List.set_cons_succ]
                      refine wpAnyH_take (i := 7) (oi := _) (v := ?_) rfl (by kernel_rfl) (by kernel_rfl) (by kernel_rfl) (fun _ _ _ h => h) (Or.inl ⟨by rfl, ?_⟩) (by assumption) ?_
                      rotate_left
                      · intro w hSw
                        try dsimp only at hSw
                        try simp only [List.getElem_toArray, List.getElem_cons_succ, List.getElem_cons_zero]
                        go_split_ands
                        go_simp
                        try with_reducible rfl
                      try simp only [Act.put, List.getElem_toArray, List.getElem_cons_succ, List.getElem_cons_zero, List.setIfInBounds_toArray, List.set_cons_zero, List.set_cons_succ]
                      refine wpAnyH_take (i := 8) (oi := _) (v := ?_) rfl (by kernel_rfl) (by kernel_rfl) (by kernel_rfl) (fun _ _ _ h => h) (Or.inl ⟨by rfl, ?_⟩) (by assumption) ?_
                      rotate_left
                      · intro w hSw
                        try dsimp only at hSw
                        try simp only [List.getElem_toArray, List.getElem_cons_succ, List.getElem_cons_zero]
                        go_split_ands
                        go_simp
                        try with_reducible rfl
                      try simp only [Act.put, List.getElem_toArray, List.getElem_cons_succ, List.getElem_cons_zero, List.setIfInBounds_toArray, List.set_cons_zero, List.set_cons_succ]
                      refine wpAnyH_take (i := 9) (oi := _) (v := ?_) rfl (by kernel_rfl) (by kernel_rfl) (by kernel_rfl) (fun _ _ _ h => h) (Or.inl ⟨by rfl, ?_⟩) (by assumption) ?_
                      rotate_left
                      · intro w hSw
                        try dsimp only at hSw
                        try simp only [List.getElem_toArray, List.getElem_cons_succ, List.getElem_cons_zero]
                        go_split_ands
                        go_simp
                        try with_reducible rfl
                      try simp only [Act.put, List.getElem_toArray, List.getElem_cons_succ, List.getElem_cons_zero, List.setIfInBounds_toArray, List.set_cons_zero, List.set_cons_succ]
                      refine wpAnyH_take (i := 10) (oi := _) (v := ?_) rfl (by kernel_rfl) (by kernel_rfl) (by kernel_rfl) (fun _ _ _ h => h) (Or.inl ⟨by rfl, ?_⟩) (by assumption) ?_
                      rotate_left
                      · intro w hSw
                        try dsimp only at hSw
                        try simp only [List.getElem_toArray, List.getElem_cons_succ, List.getElem_cons_zero]
                        go_split_ands
                        go_simp
                        try with_reducible rfl
                      try simp only [Act.put, List.getElem_toArray, List.getElem_cons_succ, List.getElem_cons_zero, List.setIfInBounds_toArray, List.set_cons_zero, List.set_cons_succ]
                      refine wpAnyH_take (i := 11) (oi := _) (v := ?_) rfl (by kernel_rfl) (by kernel_rfl) (by kernel_rfl) (fun _ _ _ h => h) (Or.inl ⟨by rfl, ?_⟩) (by assumption) ?_
                      rotate_left
                      · intro w hSw
                        try dsimp only at hSw
                        try simp only [List.getElem_toArray, List.getElem_cons_succ, List.getElem_cons_zero]
                        go_split_ands
                        go_simp
                        try with_reducible rfl
                      try simp only [Act.put, List.getElem_toArray, List.getElem_cons_succ, List.getElem_cons_zero, List.setIfInBounds_toArray, List.set_cons_zero, List.set_cons_succ]
                      refine wpAnyH_ready (rs := [12]) (by kernel_rfl) (by simp) ?_
                      refine AllReadyH.cons (o := _) rfl (fun K hK => ?_) AllReadyH.nil
                      simp only [List.getElem_toArray, List.getElem_cons_succ, List.getElem_cons_zero]
                      go_simp
                      rw [HVT.out]
                      have FS36 := (Fr.refl [qr] w36.drew).setCell (p := ⟨qr, 0, none⟩) (.inl (by simp)) (.int .i64 v3)
                      refine hK.out _ _ ⟨FS36.cell p0 (by have := HSIX.out.r; simp; omega), FS36.cell ht2 (by have := HSIX.out.b; have := HWB.out.1; simp; omega)⟩ (fun hHeld => ?_)
                      clear hK K
                      try simp only [Act.put, List.getElem_toArray, List.getElem_cons_succ, List.getElem_cons_zero, List.setIfInBounds_toArray, List.set_cons_zero, List.set_cons_succ]
                      refine wpAnyH_done (by kernel_rfl) ?_ _
                      have FS36 : Fr [qr] w36 (w36.setCell ⟨qr, 0, none⟩ (.int .i64 v3)).drew := ((Fr.refl [qr] w36).setCell (p := ⟨qr, 0, none⟩) (.inl (by simp)) (.int .i64 v3)).drew
                      have hmr : MemAt 60 (w36.setCell ⟨qr, 0, none⟩ (.int .i64 v3)).drew pr qr (M.set 0 v3) tr := (HMR3.out.put 0 v3).drew
                      generalize (w36.setCell ⟨qr, 0, none⟩ (.int .i64 v3)).drew = w37 at FS36 hmr ⊢
                      obtain ⟨cr7, hcr7, p0, p1, pq⟩ := hmr.slot (N := N) (by rw [List.length_set]; exact HPMi.out.2.2.2.2)
                      obtain ⟨pq1, pf1⟩ := pq 1 (by omega)
                      have hN1b : (1 : Int) < (N : Int) := by omega
                      have F37 := Lib.hid FS36
                      have HMR4 := Lib.hid (hmr.put 1 (wd Ly : Int))
                      generalize (M.set 0 v3).getD 1 0 = vold at pq1
                      clear FS36 hmr p1 pq pq0 pf0 hHeld ht2
                      go_wp2
                      have FS38 := (Fr.refl [qr] w37).setCell (p := ⟨qr, 1, none⟩) (.inl (by simp)) (.int .i64 (wd Ly : Int))
                      have hsix := HSIX.out
                      have hmo := turned_ok (M := M) (cl := v3) (wo := wo) HPMi.out.2.2.1.1 HLYN.out HLYW.out
                      have t0' := tch_0 M 0
                      have t1' := tch_0 (storeL M 0 v3) 1
                      have HE := Lib.hid (show PlM wo N pm qm pr qr (turned M v3 Ly) (t' + tch M 0 + tch (storeL M 0 v3) 1) tr (w37.setCell ⟨qr, 1, none⟩ (.int .i64 (wd Ly : Int))) ∧ QuAt (w37.setCell ⟨qr, 1, none⟩ (.int .i64 (wd Ly : Int))) px ⟨wo, sl, st, wa, us⟩ s ∧ RqAt (w37.setCell ⟨qr, 1, none⟩ (.int .i64 (wd Ly : Int))) py ⟨wo, sl, st, wa, us⟩ r ∧ Low B w4 (w37.setCell ⟨qr, 1, none⟩ (.int .i64 (wd Ly : Int))) from by
                        have hx := hsix.m; have hy := hsix.n; have hz := hsix.r; have hq := hsix.q; have hb := hsix.b; have hxx := hsix.x
                        refine ⟨⟨((HM36.out.fr F37.out (by simp; omega) (by simp; omega)).fr FS38 (by simp; omega) (by simp; omega)), by rw [turned_set HPMi.out.2.2.1.1]; exact HMR4.out, hmo.1, hmo.2.1, by rw [hmo.2.2]; exact HPMi.out.2.2.2.2⟩, ?_, ?_, ?_⟩
                        · exact ((((HQXi.out.fr F33.out (by simp)).fr F35.out (by simp; omega)).fr F36.out (by simp; omega)).fr F37.out (by simp; omega)).fr FS38 (by simp; omega)
                        · exact ((((HQYi.out.fr F33.out (by simp)).fr F35.out (by simp; omega)).fr F36.out (by simp; omega)).fr F37.out (by simp; omega)).fr FS38 (by simp; omega)
                        · refine ((((HLOi.out.then F33.out (by simp)).then F35.out ?_).then F36.out ?_).then F37.out ?_).then FS38 ?_
                          · intro b hb'; simp at hb'; omega
                          · intro b hb'; simp at hb'; omega
                          · intro b hb'; simp at hb'; omega
                          · intro b hb'; simp at hb'; omega)
                      clear FS38 hmo hsix
                      go_roundw
                      case rel => exact ⟨i + 1, _, _, by omega, by go_num, by omega, HE.out.1, HE.out.2.1, HE.out.2.2.1, HE.out.2.2.2⟩
                      case measure => simp [intOf]; omega
                    · have hwb : (y.wh == (jn : Int)) = false := beq_eq_false_iff_ne.2 hw
                      clear hw
                      go_wp2
                      go_roundw
                      case rel => exact ⟨i + 1, t', M, by omega, by go_num, by omega, HPMi.out, HQXi.out, HQYi.out, HLOi.out⟩
                      case measure => simp [intOf]; omega
                  · have hil' : ¬ (i : Int) < (lt : Int) := by omega
                    have htt : t ≤ t' ∧ t' ≤ t + 20 := by omega
                    go_wp2_with fail
                    go_meet
                    case rel => exact ⟨t', M, htt, HPMi.out, HQXi.out, HQYi.out, HLOi.out⟩
              case rest =>
                obtain ⟨t2, M2, ht2, hpm2, hqx2, hqy2, hlo2⟩ := hcut
                have hsix := HSIX.out
                have HTO := Lib.hid (touched_any wc pm qm M2 t2 hpm2.1)
                obtain ⟨cr8, hcr8, p0, p1, pq⟩ := hpm2.2.1.slot (N := N) hpm2.2.2.2.2
                obtain ⟨b1, b2, b3, b4, b5, b6'⟩ := both_step HBOr.out hpm2.2.2.1 hpm2.2.2.2.1 hsm1.1 (by show wo ≤ 8; omega) (by rw [hpm2.2.2.2.2]; exact hN2.1)
                have hoks := HBOr.out.ok (by show wo ≤ 8; omega)
                have HSTP := Lib.hid (qstep_fn wc px pm qm ⟨wo, sl, st, wa, us⟩ s M2 t2 hqx2 hpm2.1 (by omega) (by omega) (by have := hsix.m; have := hsix.n; omega) HFT.out hoks.1 hpm2.2.2.1 (by rw [hpm2.2.2.2.2]; exact hN2.1))
                have HPM2 := Lib.hid hpm2; have HQY2 := Lib.hid hqy2; have HLO2 := Lib.hid hlo2; have HOKR := Lib.hid hoks.2
                have HB1 := Lib.hid b1; have HB2 := Lib.hid b2; have HB345 := Lib.hid (And.intro b3 (And.intro b4 b5)); have HQT := Lib.hid b6'
                obtain ⟨s2, hs2⟩ : ∃ s2, s2 = (qNext ⟨wo, sl, st, wa, us⟩ s M2).1 := ⟨_, rfl⟩
                obtain ⟨M3, hM3⟩ : ∃ M3, M3 = (qNext ⟨wo, sl, st, wa, us⟩ s M2).2 := ⟨_, rfl⟩
                obtain ⟨r2, hr2⟩ : ∃ r2, r2 = (rNext ⟨wo, sl, st, wa, us⟩ r M2).1 := ⟨_, rfl⟩
                obtain ⟨dd, hdd⟩ : ∃ dd, dd = qT s := ⟨_, rfl⟩
                have hd01 : 0 ≤ dd ∧ dd ≤ 1 := by rw [hdd]; exact qT_1 s
                rw [← hs2, ← hM3, ← hdd] at HSTP
                rw [← hs2, ← hr2] at HB1
                rw [← hM3] at HB2 HB345
                have HR2 := Lib.hid hr2
                have HDD := Lib.hid hdd
                clear hpm2 hqx2 hqy2 hlo2 hoks b1 b2 b3 b4 b5 b6' hs2 hM3 hr2 hdd pq HPMr HQXr HQYr HLOr
                go_wp2_with fail
                refine HTO.out.mono ?_
                rintro en w20 ⟨rfl, hw20⟩
                subst hw20
                clear HTO
                go_wp2_with fail
                refine HSTP.out.mono ?_
                rintro en w21 ⟨rfl, hq21, hm21, f21⟩
                have hmr21 := HPM2.out.2.1.fr f21 (by have := hsix.m; have := hsix.n; have := hsix.r; simp; omega) (by have := hsix.m; have := hsix.n; have := hsix.q; simp; omega)
                have hry21 := HQY2.out.fr f21 (by have := hsix.m; have := hsix.n; have := hsix.x; simp; omega)
                have hrs := rstep_fn w21 py pr qr ⟨wo, sl, st, wa, us⟩ r M2 tr hry21 hmr21 (by omega) (by omega) (by have := hsix.r; have := hsix.q; omega) HFT.out HOKR.out HPM2.out.2.2.1 (by rw [HPM2.out.2.2.2.2]; exact hN2.1)
                rw [HB2.out, ← HR2.out, HQT.out, ← HDD.out] at hrs
                have HRS := Lib.hid hrs
                have HQ21 := Lib.hid hq21; have HM21 := Lib.hid hm21; have F21 := Lib.hid f21
                clear hq21 hm21 f21 hmr21 hry21 hrs HSTP p0 p1
                go_wp2_with fail
                refine HRS.out.mono ?_
                rintro en w22 ⟨rfl, hq22, hm22, f22⟩
                have hxq := HQ21.out.fr f22 (by have := hsix.m; have := hsix.n; have := hsix.r; have := hsix.q; have := hsix.x; simp; omega)
                have hxm := HM21.out.fr f22 (by have := hsix.m; have := hsix.n; simp; omega) (by have := hsix.m; have := hsix.n; simp; omega)
                have han := answer_any w22 px ⟨wo, sl, st, wa, us⟩ s2 hxq
                have hrn : r2.nx.isDone = s2.nx.fn.isNone := by rw [HB1.out.2.2.1]; exact isDone_eq _
                have hre2 : r2.e = s2.e := HB1.out.2.2.2.1
                obtain ⟨bb, hbb⟩ : ∃ bb, bb = s2.nx.fn.isNone := ⟨_, rfl⟩
                obtain ⟨ee, hee⟩ : ∃ ee, ee = s2.e := ⟨_, rfl⟩
                rw [hrn, ← hbb]
                rw [← hbb, ← hee] at han
                have HAN := Lib.hid han
                have HX22 := Lib.hid hxq; have HXM22 := Lib.hid hxm; have HY22 := Lib.hid hq22; have HYM22 := Lib.hid hm22
                have HLO22 := Lib.hid ((HLO2.out.then F21.out (by intro b hb'; have := hsix.b; simp at hb'; omega)).then f22 (by intro b hb'; have := hsix.b; simp at hb'; omega))
                have HBB := Lib.hid hbb; have HEE := Lib.hid hee; have HRN := Lib.hid hrn; have HRE := Lib.hid hre2
                clear hxq hxm hq22 hm22 f22 han hrn hre2 hbb hee HRS
                go_wp2_with fail
                refine HAN.out.mono ?_
                rintro en w23 ⟨rfl, f23⟩
                have hry := HY22.out.fr f23 (by simp)
                have hym := HYM22.out.fr f23 (by simp) (by simp)
                have hxm := HXM22.out.fr f23 (by simp) (by simp)
                obtain ⟨sd, hsd⟩ : ∃ x, x = r2.nx.str := ⟨_, rfl⟩
                have esd : (sd.toList == [68, 79, 78, 69]) = bb := by rw [hsd, str_done, HRN.out, ← HBB.out]
                have y8 : w23.cell? ⟨py, 8, none⟩ = some (.string sd) := by rw [cell_of (i := 8) hry rfl, hsd]; rfl
                have y9 : w23.cell? ⟨py, 9, none⟩ = some (.int .i64 ee) := by rw [cell_of (i := 9) hry rfl, HEE.out, ← HRE.out]; rfl
                obtain ⟨c23, hc23, p0, p1, pq⟩ := hym.slot (N := N) (by rw [HB345.out.2.2]; exact HPM2.out.2.2.2.2)
                have HM3N := Lib.hid (show N = M3.length by rw [HB345.out.2.2]; exact HPM2.out.2.2.2.2.symm)
                have HYI := Lib.hid (show IntsAt w23 (some ⟨qr, 0, none⟩) M3 from ⟨by rw [← HM3N.out]; omega, fun j x hx => ⟨qr, 0, rfl, by
                  have hj := (List.getElem?_eq_some_iff.1 hx).1
                  rw [Nat.zero_add, (pq j (by rw [HM3N.out]; exact hj)).1, List.getD_eq_getElem?_getD, hx]; rfl⟩⟩)
                have HTC := Lib.hid (fun (W : World) (f : Fr [] w23 W) => touched_any W pm qm M3 (t2 + dd) (hxm.fr f (by simp) (by simp)))
                have hwd2 := fun (W : World) (f : Fr [] w23 W) => words_any W pm qm M3 (t2 + dd) (hxm.fr f (by simp) (by simp)) (by rw [← HM3N.out]; omega)
                rw [← HM3N.out] at hwd2
                have HWD2 := Lib.hid hwd2
                have HW1 := Lib.hid (show IntKind.i64.wrap (t2 + dd - t2) = dd by rw [IntKind.wrap_i64]; omega)
                have HW2 := Lib.hid (show IntKind.i64.wrap dd = dd by rw [IntKind.wrap_i64]; omega)
                have HW3 := Lib.hid (show IntKind.i64.wrap (tr + dd - tr) = dd by rw [IntKind.wrap_i64]; omega)
                have HDG := Lib.hid (show decide ((1 : Int) < dd) = false from decide_eq_false (by omega))
                have HFIN := Lib.hid (show ∀ W : World, Fr [] w23 W → PlM wo N pm qm pr qr M3 (t2 + dd) (tr + dd) W ∧ QuAt W px ⟨wo, sl, st, wa, us⟩ s2 ∧ RqAt W py ⟨wo, sl, st, wa, us⟩ r2 ∧ Low B w4 W from fun W f =>
                  ⟨⟨hxm.fr f (by simp) (by simp), hym.fr f (by simp) (by simp), HB345.out.1, HB345.out.2.1, HM3N.out.symm⟩, HX22.out.fr (f23.trans f) (by simp), hry.fr f (by simp), HLO22.out.then (f23.trans f) (by simp)⟩)
                clear hry hym hxm hsd hwd2 pq f23 hsix HAN
                go_wp2_with fail
                refine wp_region_held_drew (S := fun w' => w'.cell? ⟨py, 8, none⟩ = some (.string sd) ∧ w'.cell? ⟨py, 9, none⟩ = some (.int .i64 ee) ∧ w'.cell? ⟨pr, 0, none⟩ = some (.slice (some ⟨qr, 0, none⟩) N c23) ∧ w'.cell? ⟨pr, 1, none⟩ = some (.int .i64 (tr + dd))) (by kernel_rfl) ⟨y8, y9, p0, p1⟩ (fun hHeld => ?_)
                have F40 := (Fr.refl [] w23).drew
                refine wpAnyH_take (i := 0) (oi := _) (v := ?_) rfl (by kernel_rfl) (by kernel_rfl) (by kernel_rfl) (fun _ _ _ h => h) (Or.inl ⟨by rfl, ?_⟩) (by assumption) ?_
                rotate_left
                · intro w hSw
                  try dsimp only at hSw
                  try simp only [List.getElem_toArray, List.getElem_cons_zero]
                  go_split_ands
                  go_simp
                  try with_reducible rfl
                try simp only [Act.put, List.getElem_toArray, List.getElem_cons_zero, List.setIfInBounds_toArray, List.set_cons_zero, List.set_cons_succ]
                refine wpAnyH_take (i := 1) (oi := _) (v := ?_) rfl (by kernel_rfl) (by kernel_rfl) (by kernel_rfl) (fun _ _ _ h => h) (Or.inl ⟨by rfl, ?_⟩) (by assumption) ?_
                rotate_left
                · intro w hSw
                  try dsimp only at hSw
                  try simp only [List.getElem_toArray, List.getElem_cons_succ, List.getElem_cons_zero]
                  go_split_ands
                  go_simp
                  try with_reducible rfl
                try simp only [Act.put, List.getElem_toArray, List.getElem_cons_succ, List.getElem_cons_zero, List.setIfInBounds_toArray, List.set_cons_zero, List.set_cons_succ]
                refine wpAnyH_take (i := 2) (oi := _) (v := ?_) rfl (by kernel_rfl) (by kernel_rfl) (by kernel_rfl) (fun _ _ _ h => h) (Or.inl ⟨by rfl, ?_⟩) (by assumption) ?_
                rotate_left
                · intro w hSw
                  try dsimp only at hSw
                  try simp only [List.getElem_toArray, List.getElem_cons_succ, List.getElem_cons_zero]
                  go_split_ands
                  go_simp
                  try with_reducible rfl
                try simp only [Act.put, List.getElem_toArray, List.getElem_cons_succ, List.getElem_cons_zero, List.setIfInBounds_toArray, List.set_cons_zero, List.set_cons_succ]
                refine wpAnyH_take (i := 3) (oi := _) (v := ?_) rfl (by kernel_rfl) (by kernel_rfl) (by kernel_rfl) (fun _ _ _ h => h) (Or.inl ⟨by rfl, ?_⟩) (by assumption) ?_
                rotate_left
                · intro w hSw
                  try dsimp only at hSw
                  try simp only [List.getElem_toArray, List.getElem_cons_succ, List.getElem_cons_zero]
                  go_split_ands
                  go_simp
                  try with_reducible rfl
                try simp only [Act.put, List.getElem_toArray, List.getElem_cons_succ, List.getElem_cons_zero, List.setIfInBounds_toArray, List.set_cons_zero, List.set_cons_succ]
                refine wpAnyH_take (i := 4) (oi := _) (v := ?_) rfl (by kernel_rfl) (by kernel_rfl) (by kernel_rfl) (fun _ _ _ h => h) (Or.inl ⟨by rfl, ?_⟩) (by assumption) ?_
                rotate_left
                · intro w hSw
                  try dsimp only at hSw
                  try simp only [List.getElem_toArray, List.getElem_cons_succ, List.getElem_cons_zero]
                  go_split_ands
                  go_simp
                  try with_reducible rfl
                try simp only [Act.put, List.getElem_toArray, List.getElem_cons_succ, List.getElem_cons_zero, List.setIfInBounds_toArray, List.set_cons_zero, List.set_cons_succ]
                refine wpAnyH_take (i := 5) (oi := _) (v := ?_) rfl (by kernel_rfl) (by kernel_rfl) (by kernel_rfl) (fun _ _ _ h => h) (Or.inl ⟨by rfl, ?_⟩) (by assumption) ?_
                rotate_left
                · intro w hSw
                  try dsimp only at hSw
                  try simp only [List.getElem_toArray, List.getElem_cons_succ, List.getElem_cons_zero]
                  go_split_ands
                  go_simp
                  try with_reducible rfl
                try simp only [Act.put, List.getElem_toArray, List.getElem_cons_succ, List.getElem_cons_zero, List.setIfInBounds_toArray, List.set_cons_zero, List.set_cons_succ]
                refine wpAnyH_take (i := 6) (oi := _) (v := ?_) rfl (by kernel_rfl) (by kernel_rfl) (by kernel_rfl) (fun _ _ _ h => h) (Or.inl ⟨by rfl, ?_⟩) (by assumption) ?_
                rotate_left
                · intro w hSw
                  try dsimp only at hSw
                  try simp only [List.getElem_toArray, List.getElem_cons_succ, List.getElem_cons_zero]
                  go_split_ands
                  go_simp
                  try with_reducible rfl
                try simp only [Act.put, List.getElem_toArray, List.getElem_cons_succ, List.getElem_cons_zero, List.setIfInBounds_toArray, List.set_cons_zero, List.set_cons_succ]
                refine wpAnyH_take (i := 7) (oi := _) (v := ?_) rfl (by kernel_rfl) (by kernel_rfl) (by kernel_rfl) (fun _ _ _ h => h) (Or.inl ⟨by rfl, ?_⟩) (by assumption) ?_
                rotate_left
                · intro w hSw
                  try dsimp only at hSw
                  try simp only [List.getElem_toArray, List.getElem_cons_succ, List.getElem_cons_zero]
                  go_split_ands
                  go_simp
                  try with_reducible rfl
                try simp only [Act.put, List.getElem_toArray, List.getElem_cons_succ, List.getElem_cons_zero, List.setIfInBounds_toArray, List.set_cons_zero, List.set_cons_succ]
                refine wpAnyH_take (i := 8) (oi := _) (v := ?_) rfl (by kernel_rfl) (by kernel_rfl) (by kernel_rfl) (fun _ _ _ h => h) (Or.inl ⟨by rfl, ?_⟩) (by assumption) ?_
                rotate_left
                · intro w hSw
                  try dsimp only at hSw
                  try simp only [List.getElem_toArray, List.getElem_cons_succ, List.getElem_cons_zero]
                  go_split_ands
                  go_simp
                  try with_reducible rfl
                try simp only [Act.put, List.getElem_toArray, List.getElem_cons_succ, List.getElem_cons_zero, List.setIfInBounds_toArray, List.set_cons_zero, List.set_cons_succ]
                refine wpAnyH_take (i := 9) (oi := _) (v := ?_) rfl (by kernel_rfl) (by kernel_rfl) (by kernel_rfl) (fun _ _ _ h => h) (Or.inl ⟨by rfl, ?_⟩) (by assumption) ?_
                rotate_left
                · intro w hSw
                  try dsimp only at hSw
                  try simp only [List.getElem_toArray, List.getElem_cons_succ, List.getElem_cons_zero]
                  go_split_ands
                  go_simp
                  try with_reducible rfl
                try simp only [Act.put, List.getElem_toArray, List.getElem_cons_succ, List.getElem_cons_zero, List.setIfInBounds_toArray, List.set_cons_zero, List.set_cons_succ]
                refine wpAnyH_take (i := 10) (oi := _) (v := ?_) rfl (by kernel_rfl) (by kernel_rfl) (by kernel_rfl) (fun _ _ _ h => h) (Or.inl ⟨by rfl, ?_⟩) (by assumption) ?_
                rotate_left
                · intro w hSw
                  try dsimp only at hSw
                  try simp only [List.getElem_toArray, List.getElem_cons_succ, List.getElem_cons_zero]
                  go_split_ands
                  go_simp
                  try with_reducible rfl
                try simp only [Act.put, List.getElem_toArray, List.getElem_cons_succ, List.getElem_cons_zero, List.setIfInBounds_toArray, List.set_cons_zero, List.set_cons_succ]
                refine wpAnyH_take (i := 11) (oi := _) (v := ?_) rfl (by kernel_rfl) (by kernel_rfl) (by kernel_rfl) (fun _ _ _ h => h) (Or.inl ⟨by rfl, ?_⟩) (by assumption) ?_
                rotate_left
                · intro w hSw
                  try dsimp only at hSw
                  try simp only [List.getElem_toArray, List.getElem_cons_succ, List.getElem_cons_zero]
                  go_split_ands
                  go_simp
                  try with_reducible rfl
                try simp only [Act.put, List.getElem_toArray, List.getElem_cons_succ, List.getElem_cons_zero, List.setIfInBounds_toArray, List.set_cons_zero, List.set_cons_succ]
                refine wpAnyH_take (i := 12) (oi := _) (v := ?_) rfl (by kernel_rfl) (by kernel_rfl) (by kernel_rfl) (fun _ _ _ h => h) (Or.inl ⟨by rfl, ?_⟩) (by assumption) ?_
                rotate_left
                · intro w hSw
                  try dsimp only at hSw
                  try simp only [List.getElem_toArray, List.getElem_cons_succ, List.getElem_cons_zero]
                  go_split_ands
                  go_simp
                  try with_reducible rfl
                try simp only [Act.put, List.getElem_toArray, List.getElem_cons_succ, List.getElem_cons_zero, List.setIfInBounds_toArray, List.set_cons_zero, List.set_cons_succ]
                refine wpAnyH_take (i := 13) (oi := _) (v := ?_) rfl (by kernel_rfl) (by kernel_rfl) (by kernel_rfl) (fun _ _ _ h => h) (Or.inl ⟨by rfl, ?_⟩) (by assumption) ?_
                rotate_left
                · intro w hSw
                  try dsimp only at hSw
                  try simp only [List.getElem_toArray, List.getElem_cons_succ, List.getElem_cons_zero]
                  go_split_ands
                  go_simp
                  try with_reducible rfl
                try simp only [Act.put, List.getElem_toArray, List.getElem_cons_succ, List.getElem_cons_zero, List.setIfInBounds_toArray, List.set_cons_zero, List.set_cons_succ]
                refine wpAnyH_take (i := 14) (oi := _) (v := ?_) rfl (by kernel_rfl) (by kernel_rfl) (by kernel_rfl) (fun _ _ _ h => h) (Or.inl ⟨by rfl, ?_⟩) (by assumption) ?_
                rotate_left
                · intro w hSw
                  try dsimp only at hSw
                  try simp only [List.getElem_toArray, List.getElem_cons_succ, List.getElem_cons_zero]
                  go_split_ands
                  go_simp
                  try with_reducible rfl
                try simp only [Act.put, List.getElem_toArray, List.getElem_cons_succ, List.getElem_cons_zero, List.setIfInBounds_toArray, List.set_cons_zero, List.set_cons_succ]
                refine wpAnyH_take (i := 15) (oi := _) (v := ?_) rfl (by kernel_rfl) (by kernel_rfl) (by kernel_rfl) (fun _ _ _ h => h) (Or.inl ⟨by rfl, ?_⟩) (by assumption) ?_
                rotate_left
                · intro w hSw
                  try dsimp only at hSw
                  try simp only [List.getElem_toArray, List.getElem_cons_succ, List.getElem_cons_zero]
                  go_split_ands
                  go_simp
                  try with_reducible rfl
                try simp only [Act.put, List.getElem_toArray, List.getElem_cons_succ, List.getElem_cons_zero, List.setIfInBounds_toArray, List.set_cons_zero, List.set_cons_succ]
                refine wpAnyH_take (i := 16) (oi := _) (v := ?_) rfl (by kernel_rfl) (by kernel_rfl) (by kernel_rfl) (fun _ _ _ h => h) (Or.inl ⟨by rfl, ?_⟩) (by assumption) ?_
                rotate_left
                · intro w hSw
                  try dsimp only at hSw
                  try simp only [List.getElem_toArray, List.getElem_cons_succ, List.getElem_cons_zero]
                  go_split_ands
                  go_simp
                  try with_reducible rfl
                try simp only [Act.put, List.getElem_toArray, List.getElem_cons_succ, List.getElem_cons_zero, List.setIfInBounds_toArray, List.set_cons_zero, List.set_cons_succ]
                refine wpAnyH_take (i := 17) (oi := _) (v := ?_) rfl (by kernel_rfl) (by kernel_rfl) (by kernel_rfl) (fun _ _ _ h => h) (Or.inl ⟨by rfl, ?_⟩) (by assumption) ?_
                rotate_left
                · intro w hSw
                  try dsimp only at hSw
                  try simp only [List.getElem_toArray, List.getElem_cons_succ, List.getElem_cons_zero]
                  go_split_ands
                  go_simp
                  try with_reducible rfl
                try simp only [Act.put, List.getElem_toArray, List.getElem_cons_succ, List.getElem_cons_zero, List.setIfInBounds_toArray, List.set_cons_zero, List.set_cons_succ]
                refine wpAnyH_take (i := 18) (oi := _) (v := ?_) rfl (by kernel_rfl) (by kernel_rfl) (by kernel_rfl) (fun _ _ _ h => h) (Or.inl ⟨by rfl, ?_⟩) (by assumption) ?_
                rotate_left
                · intro w hSw
                  try dsimp only at hSw
                  try simp only [List.getElem_toArray, List.getElem_cons_succ, List.getElem_cons_zero]
                  go_split_ands
                  go_simp
                  try with_reducible rfl
                try simp only [Act.put, List.getElem_toArray, List.getElem_cons_succ, List.getElem_cons_zero, List.setIfInBounds_toArray, List.set_cons_zero, List.set_cons_succ]
                refine wpAnyH_take (i := 19) (oi := _) (v := ?_) rfl (by kernel_rfl) (by kernel_rfl) (by kernel_rfl) (fun _ _ _ h => h) (Or.inl ⟨by rfl, ?_⟩) (by assumption) ?_
                rotate_left
                · intro w hSw
                  try dsimp only at hSw
                  try simp only [List.getElem_toArray, List.getElem_cons_succ, List.getElem_cons_zero]
                  go_split_ands
                  go_simp
                  try with_reducible rfl
                try simp only [Act.put, List.getElem_toArray, List.getElem_cons_succ, List.getElem_cons_zero, List.setIfInBounds_toArray, List.set_cons_zero, List.set_cons_succ]
                refine wpAnyH_take (i := 20) (oi := _) (v := ?_) rfl (by kernel_rfl) (by kernel_rfl) (by kernel_rfl) (fun _ _ _ h => h) (Or.inl ⟨by rfl, ?_⟩) (by assumption) ?_
                rotate_left
                · intro w hSw
                  try dsimp only at hSw
                  try simp only [List.getElem_toArray, List.getElem_cons_succ, List.getElem_cons_zero]
                  go_split_ands
                  go_simp
                  try with_reducible rfl
                try simp only [Act.put, List.getElem_toArray, List.getElem_cons_succ, List.getElem_cons_zero, List.setIfInBounds_toArray, List.set_cons_zero, List.set_cons_succ]
                refine wpAnyH_take (i := 21) (oi := _) (v := ?_) rfl (by kernel_rfl) (by kernel_rfl) (by kernel_rfl) (fun _ _ _ h => h) (Or.inl ⟨by rfl, ?_⟩) (by assumption) ?_
                rotate_left
                · intro w hSw
                  try dsimp only at hSw
                  try simp only [List.getElem_toArray, List.getElem_cons_succ, List.getElem_cons_zero]
                  go_split_ands
                  go_simp
                  try with_reducible rfl
                try simp only [Act.put, List.getElem_toArray, List.getElem_cons_succ, List.getElem_cons_zero, List.setIfInBounds_toArray, List.set_cons_zero, List.set_cons_succ]
                refine wpAnyH_take (i := 23) (oi := _) (v := ?_) rfl (by kernel_rfl) (by kernel_rfl) (by kernel_rfl) (fun _ _ _ h => h) (Or.inl ⟨by rfl, ?_⟩) (by assumption) ?_
                rotate_left
                · intro w hSw
                  try dsimp only at hSw
                  try simp only [List.getElem_toArray, List.getElem_cons_succ, List.getElem_cons_zero]
                  go_split_ands
                  go_simp
                  try with_reducible rfl
                try simp only [Act.put, List.getElem_toArray, List.getElem_cons_succ, List.getElem_cons_zero, List.setIfInBounds_toArray, List.set_cons_zero, List.set_cons_succ]
                refine wpAnyH_take (i := 25) (oi := _) (v := ?_) rfl (by kernel_rfl) (by kernel_rfl) (by kernel_rfl) (fun _ _ _ h => h) (Or.inl ⟨by rfl, ?_⟩) (by assumption) ?_
                rotate_left
                · intro w hSw
                  try dsimp only at hSw
                  try simp only [List.getElem_toArray, List.getElem_cons_succ, List.getElem_cons_zero]
                  go_split_ands
                  go_simp
                  try with_reducible rfl
                try simp only [Act.put, List.getElem_toArray, List.getElem_cons_succ, List.getElem_cons_zero, List.setIfInBounds_toArray, List.set_cons_zero, List.set_cons_succ]
                refine wpAnyH_take (i := 26) (oi := _) (v := ?_) rfl (by kernel_rfl) (by kernel_rfl) (by kernel_rfl) (fun _ _ _ h => h) (Or.inl ⟨by rfl, ?_⟩) (by assumption) ?_
                rotate_left
                · intro w hSw
                  try dsimp only at hSw
                  try simp only [List.getElem_toArray, List.getElem_cons_succ, List.getElem_cons_zero]
                  go_split_ands
                  go_simp
                  try with_reducible rfl
                try simp only [Act.put, List.getElem_toArray, List.getElem_cons_succ, List.getElem_cons_zero, List.setIfInBounds_toArray, List.set_cons_zero, List.set_cons_succ]
                refine wpAnyH_take (i := 27) (oi := _) (v := ?_) rfl (by kernel_rfl) (by kernel_rfl) (by kernel_rfl) (fun _ _ _ h => h) (Or.inl ⟨by rfl, ?_⟩) (by assumption) ?_
                rotate_left
                · intro w hSw
                  try dsimp only at hSw
                  try simp only [List.getElem_toArray, List.getElem_cons_succ, List.getElem_cons_zero]
                  go_split_ands
                  go_simp
                  try with_reducible rfl
                try simp only [Act.put, List.getElem_toArray, List.getElem_cons_succ, List.getElem_cons_zero, List.setIfInBounds_toArray, List.set_cons_zero, List.set_cons_succ]
                refine wpAnyH_take (i := 28) (oi := _) (v := ?_) rfl (by kernel_rfl) (by kernel_rfl) (by kernel_rfl) (fun _ _ _ h => h) (Or.inl ⟨by rfl, ?_⟩) (by assumption) ?_
                rotate_left
                · intro w hSw
                  try dsimp only at hSw
                  try simp only [List.getElem_toArray, List.getElem_cons_succ, List.getElem_cons_zero]
                  go_split_ands
                  go_simp
                  try with_reducible rfl
                try simp only [Act.put, List.getElem_toArray, List.getElem_cons_succ, List.getElem_cons_zero, List.setIfInBounds_toArray, List.set_cons_zero, List.set_cons_succ]
                refine wpAnyH_take (i := 29) (oi := _) (v := ?_) rfl (by kernel_rfl) (by kernel_rfl) (by kernel_rfl) (fun _ _ _ h => h) (Or.inl ⟨by rfl, ?_⟩) (by assumption) ?_
                rotate_left
                · intro w hSw
                  try dsimp only at hSw
                  try simp only [List.getElem_toArray, List.getElem_cons_succ, List.getElem_cons_zero]
                  go_split_ands
                  go_simp
                  try with_reducible rfl
                try simp only [Act.put, List.getElem_toArray, List.getElem_cons_succ, List.getElem_cons_zero, List.setIfInBounds_toArray, List.set_cons_zero, List.set_cons_succ]
                refine wpAnyH_take (i := 30) (oi := _) (v := ?_) rfl (by kernel_rfl) (by kernel_rfl) (by kernel_rfl) (fun _ _ _ h => h) (Or.inl ⟨by rfl, ?_⟩) (by assumption) ?_
                rotate_left
                · intro w hSw
                  try dsimp only at hSw
                  try simp only [List.getElem_toArray, List.getElem_cons_succ, List.getElem_cons_zero]
                  go_split_ands
                  go_simp
                  try with_reducible rfl
                try simp only [Act.put, List.getElem_toArray, List.getElem_cons_succ, List.getElem_cons_zero, List.setIfInBounds_toArray, List.set_cons_zero, List.set_cons_succ]
                try rw [HW3.out]
                try rw [HW2.out]
                refine wpAnyH_ready (rs := [22]) (by kernel_rfl) (by simp) ?_
                refine AllReadyH.cons (o := _) rfl (fun K hK => ?_) AllReadyH.nil
                simp only [List.getElem_toArray, List.getElem_cons_succ, List.getElem_cons_zero]
                go_simp
                refine (HTC.out w23.drew F40).mono ?_
                rintro en w40 ⟨rfl, h40⟩
                subst h40
                go_wp2_with fail
                refine hK.out _ _ ⟨F40.cell y8 (by simp), F40.cell y9 (by simp), F40.cell p0 (by simp), F40.cell p1 (by simp)⟩ (fun hHeld => ?_)
                clear hK K
                try simp only [Act.put, List.getElem_toArray, List.getElem_cons_succ, List.getElem_cons_zero, List.setIfInBounds_toArray, List.set_cons_zero, List.set_cons_succ]
                refine wpAnyH_take (i := 24) (oi := _) (v := ?_) rfl (by kernel_rfl) (by kernel_rfl) (by kernel_rfl) (fun _ _ _ h => h) (Or.inl ⟨by rfl, ?_⟩) (by assumption) ?_
                rotate_left
                · intro w hSw
                  try dsimp only at hSw
                  try simp only [List.getElem_toArray, List.getElem_cons_succ, List.getElem_cons_zero]
                  go_split_ands
                  go_simp
                  try with_reducible rfl
                try simp only [Act.put, List.getElem_toArray, List.getElem_cons_succ, List.getElem_cons_zero, List.setIfInBounds_toArray, List.set_cons_zero, List.set_cons_succ]
                try rw [HW1.out]
                try rw [HW2.out]
                refine wpAnyH_take (i := 31) (oi := _) (v := ?_) rfl (by kernel_rfl) (by kernel_rfl) (by kernel_rfl) (fun _ _ _ h => h) (Or.inl ⟨by rfl, ?_⟩) (by assumption) ?_
                rotate_left
                · intro w hSw
                  try dsimp only at hSw
                  try simp only [List.getElem_toArray, List.getElem_cons_succ, List.getElem_cons_zero]
                  go_split_ands
                  go_simp
                  try with_reducible rfl
                try simp only [Act.put, List.getElem_toArray, List.getElem_cons_succ, List.getElem_cons_zero, List.setIfInBounds_toArray, List.set_cons_zero, List.set_cons_succ]
                refine wpAnyH_take (i := 32) (oi := _) (v := ?_) rfl (by kernel_rfl) (by kernel_rfl) (by kernel_rfl) (fun _ _ _ h => h) (Or.inl ⟨by rfl, ?_⟩) (by assumption) ?_
                rotate_left
                · intro w hSw
                  try dsimp only at hSw
                  try simp only [List.getElem_toArray, List.getElem_cons_succ, List.getElem_cons_zero]
                  go_split_ands
                  go_simp
                  try with_reducible rfl
                try simp only [Act.put, List.getElem_toArray, List.getElem_cons_succ, List.getElem_cons_zero, List.setIfInBounds_toArray, List.set_cons_zero, List.set_cons_succ]
                refine wpAnyH_take (i := 33) (oi := _) (v := ?_) rfl (by kernel_rfl) (by kernel_rfl) (by kernel_rfl) (fun _ _ _ h => h) (Or.inl ⟨by rfl, ?_⟩) (by assumption) ?_
                rotate_left
                · intro w hSw
                  try dsimp only at hSw
                  try simp only [List.getElem_toArray, List.getElem_cons_succ, List.getElem_cons_zero]
                  go_split_ands
                  go_simp
                  try with_reducible rfl
                try simp only [Act.put, List.getElem_toArray, List.getElem_cons_succ, List.getElem_cons_zero, List.setIfInBounds_toArray, List.set_cons_zero, List.set_cons_succ]
                refine wpAnyH_take (i := 34) (oi := _) (v := ?_) rfl (by kernel_rfl) (by kernel_rfl) (by kernel_rfl) (fun _ _ _ h => h) (Or.inl ⟨by rfl, ?_⟩) (by assumption) ?_
                rotate_left
                · intro w hSw
                  try dsimp only at hSw
                  try simp only [List.getElem_toArray, List.getElem_cons_succ, List.getElem_cons_zero]
                  go_split_ands
                  go_simp
                  try with_reducible rfl
                try simp only [Act.put, List.getElem_toArray, List.getElem_cons_succ, List.getElem_cons_zero, List.setIfInBounds_toArray, List.set_cons_zero, List.set_cons_succ]
                refine wpAnyH_take (i := 36) (oi := _) (v := ?_) rfl (by kernel_rfl) (by kernel_rfl) (by kernel_rfl) (fun _ _ _ h => h) (Or.inl ⟨by rfl, ?_⟩) (by assumption) ?_
                rotate_left
                · intro w hSw
                  try dsimp only at hSw
                  try simp only [List.getElem_toArray, List.getElem_cons_succ, List.getElem_cons_zero]
                  go_split_ands
                  go_simp
                  try with_reducible rfl
                try simp only [Act.put, List.getElem_toArray, List.getElem_cons_succ, List.getElem_cons_zero, List.setIfInBounds_toArray, List.set_cons_zero, List.set_cons_succ]
                refine wpAnyH_ready (rs := [35]) (by kernel_rfl) (by simp) ?_
                refine AllReadyH.cons (o := _) rfl (fun K hK => ?_) AllReadyH.nil
                simp only [List.getElem_toArray, List.getElem_cons_succ, List.getElem_cons_zero]
                go_simp
                refine (HTC.out w23.drew F40).mono ?_
                rintro en w41 ⟨rfl, h41⟩
                subst h41
                go_wp2_with fail
                refine hK.out _ _ ⟨F40.cell y8 (by simp), F40.cell y9 (by simp), F40.cell p0 (by simp), F40.cell p1 (by simp)⟩ (fun hHeld => ?_)
                clear hK K
                try simp only [Act.put, List.getElem_toArray, List.getElem_cons_succ, List.getElem_cons_zero, List.setIfInBounds_toArray, List.set_cons_zero, List.set_cons_succ]
                refine wpAnyH_take (i := 37) (oi := _) (v := ?_) rfl (by kernel_rfl) (by kernel_rfl) (by kernel_rfl) (fun _ _ _ h => h) (Or.inl ⟨by rfl, ?_⟩) (by assumption) ?_
                rotate_left
                · intro w hSw
                  try dsimp only at hSw
                  try simp only [List.getElem_toArray, List.getElem_cons_succ, List.getElem_cons_zero]
                  go_split_ands
                  go_simp
                  try with_reducible rfl
                try simp only [Act.put, List.getElem_toArray, List.getElem_cons_succ, List.getElem_cons_zero, List.setIfInBounds_toArray, List.set_cons_zero, List.set_cons_succ]
                try rw [HW1.out]
                try rw [HW2.out]
                refine wpAnyH_take (i := 38) (oi := _) (v := ?_) rfl (by kernel_rfl) (by kernel_rfl) (by kernel_rfl) (fun _ _ _ h => h) (Or.inl ⟨by rfl, ?_⟩) (by assumption) ?_
                rotate_left
                · intro w hSw
                  try dsimp only at hSw
                  try simp only [List.getElem_toArray, List.getElem_cons_succ, List.getElem_cons_zero]
                  go_split_ands
                  go_simp
                  try with_reducible rfl
                try simp only [Act.put, List.getElem_toArray, List.getElem_cons_succ, List.getElem_cons_zero, List.setIfInBounds_toArray, List.set_cons_zero, List.set_cons_succ]
                rw [HDG.out]
                refine wpAnyH_take (i := 39) (oi := _) (v := ?_) rfl (by kernel_rfl) (by kernel_rfl) (by kernel_rfl) (fun _ _ _ h => h) (Or.inl ⟨by rfl, ?_⟩) (by assumption) ?_
                rotate_left
                · intro w hSw
                  try dsimp only at hSw
                  try simp only [List.getElem_toArray, List.getElem_cons_succ, List.getElem_cons_zero]
                  go_split_ands
                  go_simp
                  try with_reducible rfl
                try simp only [Act.put, List.getElem_toArray, List.getElem_cons_succ, List.getElem_cons_zero, List.setIfInBounds_toArray, List.set_cons_zero, List.set_cons_succ]
                refine wpAnyH_take (i := 40) (oi := _) (v := ?_) rfl (by kernel_rfl) (by kernel_rfl) (by kernel_rfl) (fun _ _ _ h => h) (Or.inl ⟨by rfl, ?_⟩) (by assumption) ?_
                rotate_left
                · intro w hSw
                  try dsimp only at hSw
                  try simp only [List.getElem_toArray, List.getElem_cons_succ, List.getElem_cons_zero]
                  go_split_ands
                  go_simp
                  try with_reducible rfl
                try simp only [Act.put, List.getElem_toArray, List.getElem_cons_succ, List.getElem_cons_zero, List.setIfInBounds_toArray, List.set_cons_zero, List.set_cons_succ]
                refine wpAnyH_take (i := 41) (oi := _) (v := ?_) rfl (by kernel_rfl) (by kernel_rfl) (by kernel_rfl) (fun _ _ _ h => h) (Or.inl ⟨by rfl, ?_⟩) (by assumption) ?_
                rotate_left
                · intro w hSw
                  try dsimp only at hSw
                  try simp only [List.getElem_toArray, List.getElem_cons_succ, List.getElem_cons_zero]
                  go_split_ands
                  go_simp
                  try with_reducible rfl
                try simp only [Act.put, List.getElem_toArray, List.getElem_cons_succ, List.getElem_cons_zero, List.setIfInBounds_toArray, List.set_cons_zero, List.set_cons_succ]
                refine wpAnyH_take (i := 43) (oi := _) (v := ?_) rfl (by kernel_rfl) (by kernel_rfl) (by kernel_rfl) (fun _ _ _ h => h) (Or.inl ⟨by rfl, ?_⟩) (by assumption) ?_
                rotate_left
                · intro w hSw
                  try dsimp only at hSw
                  try simp only [List.getElem_toArray, List.getElem_cons_succ, List.getElem_cons_zero]
                  go_split_ands
                  go_simp
                  try with_reducible rfl
                try simp only [Act.put, List.getElem_toArray, List.getElem_cons_succ, List.getElem_cons_zero, List.setIfInBounds_toArray, List.set_cons_zero, List.set_cons_succ]
                refine wpAnyH_take (i := 44) (oi := _) (v := ?_) rfl (by kernel_rfl) (by kernel_rfl) (by kernel_rfl) (fun _ _ _ h => h) (Or.inl ⟨by rfl, ?_⟩) (by assumption) ?_
                rotate_left
                · intro w hSw
                  try dsimp only at hSw
                  try simp only [List.getElem_toArray, List.getElem_cons_succ, List.getElem_cons_zero]
                  go_split_ands
                  go_simp
                  try with_reducible rfl
                try simp only [Act.put, List.getElem_toArray, List.getElem_cons_succ, List.getElem_cons_zero, List.setIfInBounds_toArray, List.set_cons_zero, List.set_cons_succ]
                refine wpAnyH_take (i := 45) (oi := _) (v := ?_) rfl (by kernel_rfl) (by kernel_rfl) (by kernel_rfl) (fun _ _ _ h => h) (Or.inl ⟨by rfl, ?_⟩) (by assumption) ?_
                rotate_left
                · intro w hSw
                  try dsimp only at hSw
                  try simp only [List.getElem_toArray, List.getElem_cons_succ, List.getElem_cons_zero]
                  go_split_ands
                  go_simp
                  try with_reducible rfl
                try simp only [Act.put, List.getElem_toArray, List.getElem_cons_succ, List.getElem_cons_zero, List.setIfInBounds_toArray, List.set_cons_zero, List.set_cons_succ]
                refine wpAnyH_take (i := 46) (oi := _) (v := ?_) rfl (by kernel_rfl) (by kernel_rfl) (by kernel_rfl) (fun _ _ _ h => h) (Or.inl ⟨by rfl, ?_⟩) (by assumption) ?_
                rotate_left
                · intro w hSw
                  try dsimp only at hSw
                  try simp only [List.getElem_toArray, List.getElem_cons_succ, List.getElem_cons_zero]
                  go_split_ands
                  go_simp
                  try with_reducible rfl
                try simp only [Act.put, List.getElem_toArray, List.getElem_cons_succ, List.getElem_cons_zero, List.setIfInBounds_toArray, List.set_cons_zero, List.set_cons_succ]
                refine wpAnyH_ready (rs := [42]) (by kernel_rfl) (by simp) ?_
                refine AllReadyH.cons (o := _) rfl (fun K hK => ?_) AllReadyH.nil
                simp only [List.getElem_toArray, List.getElem_cons_succ, List.getElem_cons_zero]
                go_simp
                refine (HWD2.out w23.drew F40).mono ?_
                rintro en w42 ⟨g42, c42, rfl, hv42, f42⟩
                have F42 := F40.trans f42
                have HI42 := Lib.hid (IntsAt.of_owns hv42)
                clear hv42
                go_wp2_with fail
                refine hK.out _ _ ⟨F42.cell y8 (by simp), F42.cell y9 (by simp), F42.cell p0 (by simp), F42.cell p1 (by simp)⟩ (fun hHeld => ?_)
                clear hK K
                try simp only [Act.put, List.getElem_toArray, List.getElem_cons_succ, List.getElem_cons_zero, List.setIfInBounds_toArray, List.set_cons_zero, List.set_cons_succ]
                refine wpAnyH_ready (rs := [47]) (by kernel_rfl) (by simp) ?_
                refine AllReadyH.cons (o := _) rfl (fun K hK => ?_) AllReadyH.nil
                simp only [List.getElem_toArray, List.getElem_cons_succ, List.getElem_cons_zero]
                go_simp
                refine (ints_len w42 (some ⟨g42, 0, none⟩) (some ⟨qr, 0, none⟩) c42 c23 _ _ M3 M3 HM3N.out HM3N.out HI42.out (HYI.out.fr F42 (by simp))).mono ?_
                rintro en w47 ⟨rfl, f47⟩
                rw [decide_eq_true rfl]
                have F47 := F42.trans f47
                go_wp2_with fail
                refine hK.out _ _ ⟨F47.cell y8 (by simp), F47.cell y9 (by simp), F47.cell p0 (by simp), F47.cell p1 (by simp)⟩ (fun hHeld => ?_)
                clear hK K
                try simp only [Act.put, List.getElem_toArray, List.getElem_cons_succ, List.getElem_cons_zero, List.setIfInBounds_toArray, List.set_cons_zero, List.set_cons_succ]
                refine wpAnyH_take (i := 48) (oi := _) (v := ?_) rfl (by kernel_rfl) (by kernel_rfl) (by kernel_rfl) (fun _ _ _ h => h) (Or.inl ⟨by rfl, ?_⟩) (by assumption) ?_
                rotate_left
                · intro w hSw
                  try dsimp only at hSw
                  try simp only [List.getElem_toArray, List.getElem_cons_succ, List.getElem_cons_zero]
                  go_split_ands
                  go_simp
                  try with_reducible rfl
                try simp only [Act.put, List.getElem_toArray, List.getElem_cons_succ, List.getElem_cons_zero, List.setIfInBounds_toArray, List.set_cons_zero, List.set_cons_succ]
                refine wpAnyH_take (i := 49) (oi := _) (v := ?_) rfl (by kernel_rfl) (by kernel_rfl) (by kernel_rfl) (fun _ _ _ h => h) (Or.inl ⟨by rfl, ?_⟩) (by assumption) ?_
                rotate_left
                · intro w hSw
                  try dsimp only at hSw
                  try simp only [List.getElem_toArray, List.getElem_cons_succ, List.getElem_cons_zero]
                  go_split_ands
                  go_simp
                  try with_reducible rfl
                try simp only [Act.put, List.getElem_toArray, List.getElem_cons_succ, List.getElem_cons_zero, List.setIfInBounds_toArray, List.set_cons_zero, List.set_cons_succ]
                refine wpAnyH_done (by kernel_rfl) ?_ _
                have HFE := Lib.hid (HFIN.out _ F47)
                clear F47
                go_wp2
                go_roundw
                case rel => exact ⟨jn + 1, _, _, M3, s2, r2, by omega, by go_num, by omega, by omega, HFE.out.1, HFE.out.2.1, HFE.out.2.2.1, HB1.out, HFE.out.2.2.2⟩
                case measure => simp [intOf]; omega
            · have hlt' : ¬ (jn : Int) < 60 := by omega
              have HEND := Lib.hid (show Fr [] w wr from by
                obtain ⟨S, f, hS⟩ := HLOr.out
                exact F4.out.then f (fun x hx => .inr (Nat.le_trans HWB.out.1 (hS x hx))))
              go_wp2
              go_ret
              exact ⟨rfl, HEND.out⟩

end Go.Proofs.Ytdpefnebghljoaa
