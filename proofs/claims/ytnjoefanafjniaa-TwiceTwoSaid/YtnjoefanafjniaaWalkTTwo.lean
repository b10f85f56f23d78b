/- The walk of TwiceTwo. -/
import Derived.Test.YtnjoefanafjniaaTwTwo
namespace Go.Proofs.Ytnjoefanafjniaa
open Go.RowKit

set_option maxHeartbeats 8000000 in
set_option maxRecDepth 100000 in
theorem two_walk (w : World) (g : GivV) (gt : Option Addr) (cap : Nat) (l : List Bool) (hg : g.right w) (hl : BosAt w gt l) :
    Calls Try.prog 6 #[g.val, .slice gt l.length cap] w fun e w' => e = .returned (.bool true) ∧ Fr [] w w' := by
  have HBOS := Lib.hid hl
  have hl63 := hl.1
  obtain ⟨len, hlen⟩ : ∃ n, n = l.length := ⟨_, rfl⟩
  rw [← hlen] at hl63 ⊢
  have HLEN1 := Lib.hid hlen
  clear hl hlen
  have HG := Lib.hid hg
  have hmade := fun (W : World) (f : Fr [] w W) => made_any W g (hg.fr f)
  obtain ⟨a, b, c, d, e, gs, ns, cs, gf, nf, cf, gp, np, cp⟩ := g
  unfold GivV.val at hmade ⊢
  simp only at hmade
  have HMADE := Lib.hid hmade
  clear hg hmade
  go_enter Try.func6, Try.ntmps6
  go_wp2_with fail
  have F0 := (Fr.refl [] w).alloc (.cells #[.int .u8 a, .int .u8 b, .int .u8 c, .int .u8 d, .int .u8 e, .slice gs ns cs, .slice gf nf cf, .slice gp np cp] 27)
  have hbk := heap_alloc_new w (.cells #[.int .u8 a, .int .u8 b, .int .u8 c, .int .u8 d, .int .u8 e, .slice gs ns cs, .slice gf nf cf, .slice gp np cp] 27)
  refine (awake_any _).mono ?_
  rintro en w1 ⟨rfl, f1⟩
  have hb1 := f1.at hbk (by simp)
  have x0 := cell_of (i := 0) hb1 rfl
  have x1 := cell_of (i := 1) hb1 rfl
  have x2 := cell_of (i := 2) hb1 rfl
  have x3 := cell_of (i := 3) hb1 rfl
  have x4 := cell_of (i := 4) hb1 rfl
  have x5 := cell_of (i := 5) hb1 rfl
  have x6 := cell_of (i := 6) hb1 rfl
  have x7 := cell_of (i := 7) hb1 rfl
  have F1 := Lib.hid (F0.trans f1)
  clear hbk hb1 F0 f1
  by_cases hlong : (40 : Int) < (len : Int)
  · go_wp2
    go_ret
    exact ⟨rfl, F1.out⟩
  go_wp2_with fail
  refine (HMADE.out _ F1.out).mono ?_
  rintro en w2 ⟨cv, q, n, rfl, hsm, hn, hq, hrow, f2⟩
  obtain ⟨L, hbeg⟩ := begun_of F1.out hsm hn hq hrow f2
  have HBEG := Lib.hid hbeg
  have c0 := hbeg.cf.c0; have c1 := hbeg.cf.c1; have c2 := hbeg.cf.c2; have c3 := hbeg.cf.c3; have c4 := hbeg.cf.c4
  have hnl := hbeg.n100
  clear hbeg hsm hn hq hrow f2 x0 x1 x2 x3 x4 x5 x6 x7
  have hsl := HBEG.out.hc.2.1
  unfold ConfV.val
  go_wp2_with fail
  have hIb := HBEG.out.hI
  have hLL := HBEG.out.hL
  generalize w2.alloc (.cells #[.int .i64 cv.wo, .int .i64 cv.sl, .int .i64 cv.st, .int .i64 cv.wa, .int .i64 cv.us] 31) = w3 at HBEG c0 c1 c2 c3 c4 hIb ⊢
  generalize w2.heap.size = b4 at HBEG c0 c1 c2 c3 c4 ⊢
  have hlaid := laid_any w3 cv n (some ⟨q, 0, none⟩) n L HBEG.out.hc HBEG.out.hn (by omega) hIb
  rw [hLL] at hlaid
  unfold ConfV.val at hlaid
  refine hlaid.mono ?_
  rintro en w4 ⟨pm, qm, rfl, hpm, hqm, hm, f4⟩
  have d0 := f4.cell c0 (by simp); have d1 := f4.cell c1 (by simp); have d2 := f4.cell c2 (by simp); have d3 := f4.cell c3 (by simp); have d4 := f4.cell c4 (by simp)
  clear c0 c1 c2 c3 c4 hlaid hIb
  go_wp2_with fail
  refine (tnew_any w4 cv).mono ?_
  rintro en w5 ⟨p, rfl, hp, ht, f5⟩
  have hin := begun_in HBEG.out hpm hqm hm f4 hp ht f5
  have HIN := Lib.hid hin
  have HFB := Lib.hid (FB.of (B := w3.heap.size) (f4.trans f5))
  obtain ⟨S, hS⟩ : ∃ S, S = cv.sl.toNat := ⟨_, rfl⟩
  have e0 := f5.cell d0 (by simp); have e1 := f5.cell d1 (by simp); have e2 := f5.cell d2 (by simp); have e3 := f5.cell d3 (by simp); have e4 := f5.cell d4 (by simp)
  have HM := Lib.hid (hin.m)
  have hpm5 : w3.heap.size ≤ pm ∧ w3.heap.size ≤ qm := ⟨hpm, hqm⟩
  clear d0 d1 d2 d3 d4 hpm hqm hm hp ht hin f4 f5 hLL
  go_wp2_with fail
  refine (tnew_any w5 cv).mono ?_
  rintro en w6 ⟨pb, rfl, hpb, htb, f6⟩
  have hinb := twin_new HFB.out.size HM.out hpm5.1 hpm5.2 hpb htb f6
  have HINA := Lib.hid (HIN.out.fr0 f6)
  have HINB := Lib.hid hinb
  have HFB6 := Lib.hid (HFB.out.trans (FB.of f6))
  have hap : Apart p (.slice none 0 0) (.slice none 0 0) pb (.slice none 0 0) (.slice none 0 0) := by
    have h1 := HIN.out.lt (b := p) (.inl rfl)
    rintro b (rfl | h | h) h2
    · rcases h2 with rfl | h2 | h2
      · omega
      · simp [Value.ownBlock] at h2
      · simp [Value.ownBlock] at h2
    · simp [Value.ownBlock] at h
    · simp [Value.ownBlock] at h
  have HAP := Lib.hid hap
  clear e0 e1 e2 e3 e4 hpm5 hpb htb f6 hinb hap HM HIN HFB
  have HLL := Lib.hid HBEG.out.hL
  have h0a := Lib.hid (show TwIn w3.heap.size w6 p pm qm cv (alone S (slotsX cv L) 0) L (n : Int) (.slice none 0 0) (.slice none 0 0) by rw [alone_zero (by omega)]; exact HINA.out)
  have h0b := Lib.hid (show TwIn w3.heap.size w6 pb pm qm cv (alone S (slotsX cv L) 0) L (n : Int) (.slice none 0 0) (.slice none 0 0) by rw [alone_zero (by omega)]; exact HINB.out)
  clear HINA HINB
  go_wp2_with fail
  go_loopw [11] (fun i wr => ∃ k ja jb : Nat, ∃ t : Int, k ≤ len ∧ i = .int .i64 (k : Int) ∧ 0 ≤ t ∧ t ≤ n + k ∧ FB w3.heap.size w3 wr ∧ ∃ vRa vLa vRb vLb, TwIn w3.heap.size wr p pm qm cv (alone S (slotsX cv L) ja) L t vRa vLa ∧ TwIn w3.heap.size wr pb pm qm cv (alone S (slotsX cv L) jb) L t vRb vLb ∧ Apart p vRa vLa pb vRb vLb) (fun i _ => len - (intOf i).toNat)
  case atStart => exact ⟨0, 0, 0, (n : Int), Nat.zero_le _, rfl, by omega, by omega, HFB6.out, _, _, _, _, h0a.out, h0b.out, HAP.out⟩
  case round =>
    obtain ⟨k, ja, jb, t, hk, rfl, ht0, ht1, hfb, vRa, vLa, vRb, vLb, ha, hb, hd⟩ := hrel
    have HA := Lib.hid ha; have HB := Lib.hid hb; have HD := Lib.hid hd; have HF := Lib.hid hfb
    clear ha hb hd hfb
    by_cases hlt : k < len
    · obtain ⟨z, hz⟩ : ∃ z, l[k]? = some z := ⟨_, List.getElem?_eq_getElem (by rw [← HLEN1.out]; exact hlt)⟩
      have hbos := HBOS.out.fr (FB.base HBEG.out.f HF.out HBEG.out.f.size)
      obtain ⟨bz, oz, rfl, cz⟩ := hbos.2 k z hz
      clear hbos hz
      cases z with
      | true =>
        have hst := astep_any w3.heap.size wr p pm qm cv vRa vLa L t ja HBEG.out.hc (by rw [← hS]; exact HA.out) (by omega) (by omega) (by rw [HLL.out]; exact HBEG.out.hn.symm)
        rw [← hS] at hst
        have HST := Lib.hid hst
        clear hst
        go_wp2_with fail
        refine HST.out.mono ?_
        rintro en w7 ⟨vRa', vLa', rfl, hx1, hx2, hx3, hx4⟩
        obtain ⟨hy1, hy2⟩ := HB.out.beside HD.out hx1 hx2 hx4
        have HX1 := Lib.hid hx1; have HY1 := Lib.hid hy1; have HY2 := Lib.hid hy2; have HX3 := Lib.hid hx3
        clear hx1 hx2 hx3 hx4 hy1 hy2 HST
        have ht2 : 0 ≤ (if ja < 2 * S then t + 1 else t) ∧ (if ja < 2 * S then t + 1 else t) ≤ t + 1 := by split <;> omega
        generalize (if ja < 2 * S then t + 1 else t) = t2 at ht2 HX1 HY1
        go_wp2
        go_roundw
        case rel => exact ⟨k + 1, ja + 1, jb, t2, by omega, by go_num, by omega, by omega, HF.out.trans HX3.out, _, _, _, _, HX1.out, HY1.out, HY2.out⟩
        case measure => simp [intOf]; omega
      | false =>
        have hst := astep_any w3.heap.size wr pb pm qm cv vRb vLb L t jb HBEG.out.hc (by rw [← hS]; exact HB.out) (by omega) (by omega) (by rw [HLL.out]; exact HBEG.out.hn.symm)
        rw [← hS] at hst
        have HST := Lib.hid hst
        clear hst
        go_wp2_with fail
        refine HST.out.mono ?_
        rintro en w7 ⟨vRb', vLb', rfl, hx1, hx2, hx3, hx4⟩
        obtain ⟨hy1, hy2⟩ := HA.out.beside HD.out.symm hx1 hx2 hx4
        have HX1 := Lib.hid hx1; have HY1 := Lib.hid hy1; have HY2 := Lib.hid hy2; have HX3 := Lib.hid hx3
        clear hx1 hx2 hx3 hx4 hy1 hy2 HST
        have ht2 : 0 ≤ (if jb < 2 * S then t + 1 else t) ∧ (if jb < 2 * S then t + 1 else t) ≤ t + 1 := by split <;> omega
        generalize (if jb < 2 * S then t + 1 else t) = t2 at ht2 HX1 HY1
        go_wp2
        go_roundw
        case rel => exact ⟨k + 1, ja, jb + 1, t2, by omega, by go_num, by omega, by omega, HF.out.trans HX3.out, _, _, _, _, HY1.out, HX1.out, HY2.out.symm⟩
        case measure => simp [intOf]; omega
    · have c1 := HF.out.cell HBEG.out.cf.c1 HBEG.out.bl
      go_wp2_with fail
      clear c1
      go_loopw [12] (fun i wr => ∃ k ja jb : Nat, ∃ t : Int, (k ≤ 2 * S ∧ k ≤ ja ∧ k ≤ jb) ∧ i = .int .i64 (k : Int) ∧ 0 ≤ t ∧ t ≤ n + 40 + 2 * k ∧ FB w3.heap.size w3 wr ∧ ∃ vRa vLa vRb vLb, TwIn w3.heap.size wr p pm qm cv (alone S (slotsX cv L) ja) L t vRa vLa ∧ TwIn w3.heap.size wr pb pm qm cv (alone S (slotsX cv L) jb) L t vRb vLb ∧ Apart p vRa vLa pb vRb vLb) (fun i _ => 2 * S - (intOf i).toNat)
      case atStart => exact ⟨0, ja, jb, t, ⟨Nat.zero_le _, Nat.zero_le _, Nat.zero_le _⟩, rfl, ht0, by omega, HF.out, _, _, _, _, HA.out, HB.out, HD.out⟩
      case round =>
        clear HA HB HD HF
        obtain ⟨k2, ja2, jb2, t3, hk2, rfl, ht30, ht31, hfb, vRa2, vLa2, vRb2, vLb2, ha, hb, hd⟩ := hrel
        have HA := Lib.hid ha; have HB := Lib.hid hb; have HD := Lib.hid hd; have HF := Lib.hid hfb
        have c1 := hfb.cell HBEG.out.cf.c1 HBEG.out.bl
        clear ha hb hd hfb
        by_cases hlt2 : k2 < 2 * S
        · skip
          have hst := astep_any w3.heap.size wr p pm qm cv vRa2 vLa2 L t3 ja2 HBEG.out.hc (by rw [← hS]; exact HA.out) (by omega) (by omega) (by rw [HLL.out]; exact HBEG.out.hn.symm)
          rw [← hS] at hst
          have HST := Lib.hid hst
          clear hst
          go_wp2_with fail
          refine HST.out.mono ?_
          rintro en w7 ⟨vRa2', vLa2', rfl, hx1, hx2, hx3, hx4⟩
          obtain ⟨hy1, hy2⟩ := HB.out.beside HD.out hx1 hx2 hx4
          have HX1 := Lib.hid hx1; have HY1 := Lib.hid hy1; have HY2 := Lib.hid hy2; have HX3 := Lib.hid hx3
          clear hx1 hx2 hx3 hx4 hy1 hy2 HST
          have ht2 : 0 ≤ (if ja2 < 2 * S then t3 + 1 else t3) ∧ (if ja2 < 2 * S then t3 + 1 else t3) ≤ t3 + 1 := by split <;> omega
          generalize (if ja2 < 2 * S then t3 + 1 else t3) = t2 at ht2 HX1 HY1
          have HA3 := Lib.hid HX1.out; have HB3 := Lib.hid HY1.out; have HD3 := Lib.hid HY2.out.symm; have HF3 := Lib.hid (HF.out.trans HX3.out)
          clear HX1 HY1 HY2 HX3 HA HB HD HF
          have hst := astep_any w3.heap.size w7 pb pm qm cv vRb2 vLb2 L t2 jb2 HBEG.out.hc (by rw [← hS]; exact HB3.out) (by omega) (by omega) (by rw [HLL.out]; exact HBEG.out.hn.symm)
          rw [← hS] at hst
          have HST := Lib.hid hst
          clear hst
          go_wp2_with fail
          refine HST.out.mono ?_
          rintro en w8 ⟨vRb2', vLb2', rfl, hx1, hx2, hx3, hx4⟩
          obtain ⟨hy1, hy2⟩ := HA3.out.beside HD3.out hx1 hx2 hx4
          have HX1 := Lib.hid hx1; have HY1 := Lib.hid hy1; have HY2 := Lib.hid hy2; have HX3 := Lib.hid hx3
          clear hx1 hx2 hx3 hx4 hy1 hy2 HST
          have ht4 : 0 ≤ (if jb2 < 2 * S then t2 + 1 else t2) ∧ (if jb2 < 2 * S then t2 + 1 else t2) ≤ t2 + 1 := by split <;> omega
          generalize (if jb2 < 2 * S then t2 + 1 else t2) = t4 at ht4 HX1 HY1
          go_wp2
          go_roundw
          case rel => exact ⟨k2 + 1, ja2 + 1, jb2 + 1, t4, ⟨by omega, by omega, by omega⟩, by go_num, by omega, by omega, HF3.out.trans HX3.out, _, _, _, _, HY1.out, HX1.out, HY2.out.symm⟩
          case measure => simp [intOf]; omega
        · have hin1 := HA.out
          rw [alone_end (j := ja2) (by omega)] at hin1
          have hin2 := HB.out
          rw [alone_end (j := jb2) (by omega)] at hin2
          have H1 := Lib.hid hin1; have H2 := Lib.hid hin2
          clear hin1 hin2 HA HB HD
          have hXl := length_slotsX cv L
          have HRA := Lib.hid (fun (W : World) (f : Fr [] wr W) => trounds_any W p cv vRa2 vLa2 [] (slotsX cv L) 2 true (H1.out.fr0 f).tw)
          have HRB := Lib.hid (fun (W : World) (f : Fr [] wr W) => trounds_any W pb cv vRb2 vLb2 [] (slotsX cv L) 2 true (H2.out.fr0 f).tw)
          have hwa := fun (W : World) (f : Fr [] wr W) => twords_any W p cv vRa2 vLa2 [] (slotsX cv L) 2 true (H1.out.fr0 f).tw (fun _ e => by rw [e] at hXl; simp at hXl; omega) (by omega)
          have hwb := fun (W : World) (f : Fr [] wr W) => twords_any W pb cv vRb2 vLb2 [] (slotsX cv L) 2 true (H2.out.fr0 f).tw (fun _ e => by rw [e] at hXl; simp at hXl; omega) (by omega)
          rw [if_pos rfl] at hwa hwb
          have HWA := Lib.hid hwa; have HWB := Lib.hid hwb
          have HMO := Lib.hid (fun (W : World) (f : Fr [] wr W) => words_any W pm qm L t3 (H1.out.fr0 f).m (by rw [HLL.out]; omega))
          have hQ := HF.out.ints HBEG.out.hI (fun a ha => by injection ha with ha; subst ha; exact HBEG.out.ql)
          have HQ := Lib.hid hQ
          have HLEN := Lib.hid (show (((slotsX cv L).length : Nat) : Int) = cv.sl by omega)
          clear hwa hwb hQ hXl
          go_wp2_with fail
          refine wp_region_held_drew (S := fun w' => w'.cell? ⟨b4, 1, none⟩ = some (.int .i64 cv.sl)) (by kernel_rfl) c1 (fun hHeld => ?_)
          refine wpAnyH_take (i := 0) (oi := _) (v := ?_) rfl (by kernel_rfl) (by kernel_rfl) (by kernel_rfl) (fun _ _ _ h => h) (Or.inl ⟨by rfl, ?_⟩) (by assumption) ?_
          rotate_left
          · intro w hSw
            try dsimp only at hSw
            try simp only [List.getElem_toArray, List.getElem_cons_zero]
            go_split_ands
            go_simp
            try with_reducible rfl
          try simp only [Act.put, List.getElem_toArray, List.getElem_cons_zero, List.setIfInBounds_toArray, List.set_cons_zero, List.set_cons_succ]
          refine wpAnyH_take (i := 1) (oi := _) (v := ?_) rfl (by kernel_rfl) (by kernel_rfl) (by kernel_rfl) (fun _ _ _ h => h) (Or.inl ⟨by rfl, ?_⟩) (by assumption) ?_
          rotate_left
          · intro w hSw
            try dsimp only at hSw
            try simp only [List.getElem_toArray, List.getElem_cons_succ, List.getElem_cons_zero]
            go_split_ands
            go_simp
            try with_reducible rfl
          try simp only [Act.put, List.getElem_toArray, List.getElem_cons_succ, List.getElem_cons_zero, List.setIfInBounds_toArray, List.set_cons_zero, List.set_cons_succ]
          refine wpAnyH_take (i := 2) (oi := _) (v := ?_) rfl (by kernel_rfl) (by kernel_rfl) (by kernel_rfl) (fun _ _ _ h => h) (Or.inl ⟨by rfl, ?_⟩) (by assumption) ?_
          rotate_left
          · intro w hSw
            try dsimp only at hSw
            try simp only [List.getElem_toArray, List.getElem_cons_succ, List.getElem_cons_zero]
            go_split_ands
            go_simp
            try with_reducible rfl
          try simp only [Act.put, List.getElem_toArray, List.getElem_cons_succ, List.getElem_cons_zero, List.setIfInBounds_toArray, List.set_cons_zero, List.set_cons_succ]
          refine wpAnyH_ready (rs := [3]) (by kernel_rfl) (by simp) ?_
          refine AllReadyH.cons (o := _) rfl (fun K hK => ?_) AllReadyH.nil
          simp only [List.getElem_toArray, List.getElem_cons_succ, List.getElem_cons_zero]
          go_simp
          refine (HRA.out wr.drew (Fr.refl [] wr).drew).mono ?_
          rintro en w8 ⟨rfl, rfl⟩
          go_wp2_with fail
          refine hK.out _ _ c1 (fun hHeld => ?_)
          clear hK K
          try simp only [Act.put, List.getElem_toArray, List.getElem_cons_succ, List.getElem_cons_zero, List.setIfInBounds_toArray, List.set_cons_zero, List.set_cons_succ]
          refine wpAnyH_take (i := 4) (oi := _) (v := ?_) rfl (by kernel_rfl) (by kernel_rfl) (by kernel_rfl) (fun _ _ _ h => h) (Or.inl ⟨by rfl, ?_⟩) (by assumption) ?_
          rotate_left
          · intro w hSw
            try dsimp only at hSw
            try simp only [List.getElem_toArray, List.getElem_cons_succ, List.getElem_cons_zero]
            go_split_ands
            go_simp
            try with_reducible rfl
          try simp only [Act.put, List.getElem_toArray, List.getElem_cons_succ, List.getElem_cons_zero, List.setIfInBounds_toArray, List.set_cons_zero, List.set_cons_succ]
          refine wpAnyH_take (i := 5) (oi := _) (v := ?_) rfl (by kernel_rfl) (by kernel_rfl) (by kernel_rfl) (fun _ _ _ h => h) (Or.inl ⟨by rfl, ?_⟩) (by assumption) ?_
          rotate_left
          · intro w hSw
            try dsimp only at hSw
            try simp only [List.getElem_toArray, List.getElem_cons_succ, List.getElem_cons_zero]
            go_split_ands
            go_simp
            try with_reducible rfl
          try simp only [Act.put, List.getElem_toArray, List.getElem_cons_succ, List.getElem_cons_zero, List.setIfInBounds_toArray, List.set_cons_zero, List.set_cons_succ]
          refine wpAnyH_take (i := 6) (oi := _) (v := ?_) rfl (by kernel_rfl) (by kernel_rfl) (by kernel_rfl) (fun _ _ _ h => h) (Or.inl ⟨by rfl, ?_⟩) (by assumption) ?_
          rotate_left
          · intro w hSw
            try dsimp only at hSw
            try simp only [List.getElem_toArray, List.getElem_cons_succ, List.getElem_cons_zero]
            go_split_ands
            go_simp
            try with_reducible rfl
          try simp only [Act.put, List.getElem_toArray, List.getElem_cons_succ, List.getElem_cons_zero, List.setIfInBounds_toArray, List.set_cons_zero, List.set_cons_succ]
          refine wpAnyH_take (i := 7) (oi := _) (v := ?_) rfl (by kernel_rfl) (by kernel_rfl) (by kernel_rfl) (fun _ _ _ h => h) (Or.inl ⟨by rfl, ?_⟩) (by assumption) ?_
          rotate_left
          · intro w hSw
            try dsimp only at hSw
            try simp only [List.getElem_toArray, List.getElem_cons_succ, List.getElem_cons_zero]
            go_split_ands
            go_simp
            try with_reducible rfl
          try simp only [Act.put, List.getElem_toArray, List.getElem_cons_succ, List.getElem_cons_zero, List.setIfInBounds_toArray, List.set_cons_zero, List.set_cons_succ]
          refine wpAnyH_ready (rs := [8]) (by kernel_rfl) (by simp) ?_
          refine AllReadyH.cons (o := _) rfl (fun K hK => ?_) AllReadyH.nil
          simp only [List.getElem_toArray, List.getElem_cons_succ, List.getElem_cons_zero]
          go_simp
          refine (HRB.out wr.drew (Fr.refl [] wr).drew).mono ?_
          rintro en w8 ⟨rfl, rfl⟩
          go_wp2_with fail
          refine hK.out _ _ c1 (fun hHeld => ?_)
          clear hK K
          try simp only [Act.put, List.getElem_toArray, List.getElem_cons_succ, List.getElem_cons_zero, List.setIfInBounds_toArray, List.set_cons_zero, List.set_cons_succ]
          refine wpAnyH_take (i := 9) (oi := _) (v := ?_) rfl (by kernel_rfl) (by kernel_rfl) (by kernel_rfl) (fun _ _ _ h => h) (Or.inl ⟨by rfl, ?_⟩) (by assumption) ?_
          rotate_left
          · intro w hSw
            try dsimp only at hSw
            try simp only [List.getElem_toArray, List.getElem_cons_succ, List.getElem_cons_zero]
            go_split_ands
            go_simp
            try with_reducible rfl
          try simp only [Act.put, List.getElem_toArray, List.getElem_cons_succ, List.getElem_cons_zero, List.setIfInBounds_toArray, List.set_cons_zero, List.set_cons_succ]
          refine wpAnyH_take (i := 10) (oi := _) (v := ?_) rfl (by kernel_rfl) (by kernel_rfl) (by kernel_rfl) (fun _ _ _ h => h) (Or.inl ⟨by rfl, ?_⟩) (by assumption) ?_
          rotate_left
          · intro w hSw
            try dsimp only at hSw
            try simp only [List.getElem_toArray, List.getElem_cons_succ, List.getElem_cons_zero]
            go_split_ands
            go_simp
            try with_reducible rfl
          try simp only [Act.put, List.getElem_toArray, List.getElem_cons_succ, List.getElem_cons_zero, List.setIfInBounds_toArray, List.set_cons_zero, List.set_cons_succ]
          refine wpAnyH_take (i := 11) (oi := _) (v := ?_) rfl (by kernel_rfl) (by kernel_rfl) (by kernel_rfl) (fun _ _ _ h => h) (Or.inl ⟨by rfl, ?_⟩) (by assumption) ?_
          rotate_left
          · intro w hSw
            try dsimp only at hSw
            try simp only [List.getElem_toArray, List.getElem_cons_succ, List.getElem_cons_zero]
            go_split_ands
            go_simp
            try with_reducible rfl
          try simp only [Act.put, List.getElem_toArray, List.getElem_cons_succ, List.getElem_cons_zero, List.setIfInBounds_toArray, List.set_cons_zero, List.set_cons_succ]
          refine wpAnyH_take (i := 12) (oi := _) (v := ?_) rfl (by kernel_rfl) (by kernel_rfl) (by kernel_rfl) (fun _ _ _ h => h) (Or.inl ⟨by rfl, ?_⟩) (by assumption) ?_
          rotate_left
          · intro w hSw
            try dsimp only at hSw
            try simp only [List.getElem_toArray, List.getElem_cons_succ, List.getElem_cons_zero]
            go_split_ands
            go_simp
            try with_reducible rfl
          try simp only [Act.put, List.getElem_toArray, List.getElem_cons_succ, List.getElem_cons_zero, List.setIfInBounds_toArray, List.set_cons_zero, List.set_cons_succ]
          refine wpAnyH_take (i := 14) (oi := _) (v := ?_) rfl (by kernel_rfl) (by kernel_rfl) (by kernel_rfl) (fun _ _ _ h => h) (Or.inl ⟨by rfl, ?_⟩) (by assumption) ?_
          rotate_left
          · intro w hSw
            try dsimp only at hSw
            try simp only [List.getElem_toArray, List.getElem_cons_succ, List.getElem_cons_zero]
            go_split_ands
            go_simp
            try with_reducible rfl
          try simp only [Act.put, List.getElem_toArray, List.getElem_cons_succ, List.getElem_cons_zero, List.setIfInBounds_toArray, List.set_cons_zero, List.set_cons_succ]
          refine wpAnyH_ready (rs := [13]) (by kernel_rfl) (by simp) ?_
          refine AllReadyH.cons (o := _) rfl (fun K hK => ?_) AllReadyH.nil
          simp only [List.getElem_toArray, List.getElem_cons_succ, List.getElem_cons_zero]
          go_simp
          refine (HWA.out wr.drew (Fr.refl [] wr).drew).mono ?_
          rintro en w8 ⟨v8, rfl, hv8, hn8, f8⟩
          obtain ⟨g8, c8, rfl, hI8, -⟩ := hv8.ints
          have HI8 := Lib.hid hI8
          have F8 := (Fr.refl [] wr).drew.trans f8
          clear hv8 hn8 hI8
          go_wp2_with fail
          refine hK.out _ _ (F8.cell c1 (by simp)) (fun hHeld => ?_)
          clear hK K
          try simp only [Act.put, List.getElem_toArray, List.getElem_cons_succ, List.getElem_cons_zero, List.setIfInBounds_toArray, List.set_cons_zero, List.set_cons_succ]
          refine wpAnyH_ready (rs := [15]) (by kernel_rfl) (by simp) ?_
          refine AllReadyH.cons (o := _) rfl (fun K hK => ?_) AllReadyH.nil
          simp only [List.getElem_toArray, List.getElem_cons_succ, List.getElem_cons_zero]
          go_simp
          refine (HWB.out w8 F8).mono ?_
          rintro en w9 ⟨v9, rfl, hv9, hn9, f9⟩
          obtain ⟨g9, c9, rfl, hI9, -⟩ := hv9.ints
          have HI9 := Lib.hid hI9
          have F9 := F8.trans f9
          have HI8b := Lib.hid (HI8.out.fr f9 (by simp))
          clear hv9 hn9 hI9
          go_wp2_with fail
          refine hK.out _ _ (F9.cell c1 (by simp)) (fun hHeld => ?_)
          clear hK K
          try simp only [Act.put, List.getElem_toArray, List.getElem_cons_succ, List.getElem_cons_zero, List.setIfInBounds_toArray, List.set_cons_zero, List.set_cons_succ]
          refine wpAnyH_ready (rs := [16]) (by kernel_rfl) (by simp) ?_
          refine AllReadyH.cons (o := _) rfl (fun K hK => ?_) AllReadyH.nil
          simp only [List.getElem_toArray, List.getElem_cons_succ, List.getElem_cons_zero]
          go_simp
          refine (ints_len w9 g8 g9 c8 c9 _ _ _ _ (by rfl) (by rfl) HI8b.out HI9.out).mono ?_
          rintro en w10 ⟨rfl, f10⟩
          rw [decide_eq_true rfl]
          have F10 := F9.trans f10
          go_wp2_with fail
          refine hK.out _ _ (F10.cell c1 (by simp)) (fun hHeld => ?_)
          clear hK K
          try simp only [Act.put, List.getElem_toArray, List.getElem_cons_succ, List.getElem_cons_zero, List.setIfInBounds_toArray, List.set_cons_zero, List.set_cons_succ]
          refine wpAnyH_take (i := 17) (oi := _) (v := ?_) rfl (by kernel_rfl) (by kernel_rfl) (by kernel_rfl) (fun _ _ _ h => h) (Or.inl ⟨by rfl, ?_⟩) (by assumption) ?_
          rotate_left
          · intro w hSw
            try dsimp only at hSw
            try simp only [List.getElem_toArray, List.getElem_cons_succ, List.getElem_cons_zero]
            go_split_ands
            go_simp
            try with_reducible rfl
          try simp only [Act.put, List.getElem_toArray, List.getElem_cons_succ, List.getElem_cons_zero, List.setIfInBounds_toArray, List.set_cons_zero, List.set_cons_succ]
          refine wpAnyH_take (i := 18) (oi := _) (v := ?_) rfl (by kernel_rfl) (by kernel_rfl) (by kernel_rfl) (fun _ _ _ h => h) (Or.inl ⟨by rfl, ?_⟩) (by assumption) ?_
          rotate_left
          · intro w hSw
            try dsimp only at hSw
            try simp only [List.getElem_toArray, List.getElem_cons_succ, List.getElem_cons_zero]
            go_split_ands
            go_simp
            try with_reducible rfl
          try simp only [Act.put, List.getElem_toArray, List.getElem_cons_succ, List.getElem_cons_zero, List.setIfInBounds_toArray, List.set_cons_zero, List.set_cons_succ]
          refine wpAnyH_take (i := 19) (oi := _) (v := ?_) rfl (by kernel_rfl) (by kernel_rfl) (by kernel_rfl) (fun _ _ _ h => h) (Or.inl ⟨by rfl, ?_⟩) (by assumption) ?_
          rotate_left
          · intro w hSw
            try dsimp only at hSw
            try simp only [List.getElem_toArray, List.getElem_cons_succ, List.getElem_cons_zero]
            go_split_ands
            go_simp
            try with_reducible rfl
          try simp only [Act.put, List.getElem_toArray, List.getElem_cons_succ, List.getElem_cons_zero, List.setIfInBounds_toArray, List.set_cons_zero, List.set_cons_succ]
          refine wpAnyH_take (i := 22) (oi := _) (v := ?_) rfl (by kernel_rfl) (by kernel_rfl) (by kernel_rfl) (fun _ _ _ h => h) (Or.inl ⟨by rfl, ?_⟩) (by assumption) ?_
          rotate_left
          · intro w hSw
            try dsimp only at hSw
            try simp only [List.getElem_toArray, List.getElem_cons_succ, List.getElem_cons_zero]
            go_split_ands
            go_simp
            try with_reducible rfl
          try simp only [Act.put, List.getElem_toArray, List.getElem_cons_succ, List.getElem_cons_zero, List.setIfInBounds_toArray, List.set_cons_zero, List.set_cons_succ]
          refine wpAnyH_take (i := 23) (oi := _) (v := ?_) rfl (by kernel_rfl) (by kernel_rfl) (by kernel_rfl) (fun _ _ _ h => h) (Or.inl ⟨by rfl, ?_⟩) (by assumption) ?_
          rotate_left
          · intro w hSw
            try dsimp only at hSw
            try simp only [List.getElem_toArray, List.getElem_cons_succ, List.getElem_cons_zero]
            go_split_ands
            go_simp
            try with_reducible rfl
          try simp only [Act.put, List.getElem_toArray, List.getElem_cons_succ, List.getElem_cons_zero, List.setIfInBounds_toArray, List.set_cons_zero, List.set_cons_succ]
          refine wpAnyH_ready (rs := [20]) (by kernel_rfl) (by simp) ?_
          refine AllReadyH.cons (o := _) rfl (fun K hK => ?_) AllReadyH.nil
          simp only [List.getElem_toArray, List.getElem_cons_succ, List.getElem_cons_zero]
          go_simp
          refine (HWA.out w10 F10).mono ?_
          rintro en w11 ⟨v11, rfl, hv11, hn11, f11⟩
          obtain ⟨g11, c11, rfl, -, -⟩ := hv11.ints
          have F11 := F10.trans f11
          clear hv11 hn11
          go_wp2_with fail
          refine hK.out _ _ (F11.cell c1 (by simp)) (fun hHeld => ?_)
          clear hK K
          try simp only [Act.put, List.getElem_toArray, List.getElem_cons_succ, List.getElem_cons_zero, List.setIfInBounds_toArray, List.set_cons_zero, List.set_cons_succ]
          refine wpAnyH_take (i := 21) (oi := _) (v := ?_) rfl (by kernel_rfl) (by kernel_rfl) (by kernel_rfl) (fun _ _ _ h => h) (Or.inl ⟨by rfl, ?_⟩) (by assumption) ?_
          rotate_left
          · intro w hSw
            try dsimp only at hSw
            try simp only [List.getElem_toArray, List.getElem_cons_succ, List.getElem_cons_zero]
            go_split_ands
            go_simp
            try with_reducible rfl
          try simp only [Act.put, List.getElem_toArray, List.getElem_cons_succ, List.getElem_cons_zero, List.setIfInBounds_toArray, List.set_cons_zero, List.set_cons_succ]
          rw [HLEN.out]
          refine wpAnyH_take (i := 24) (oi := _) (v := ?_) rfl (by kernel_rfl) (by kernel_rfl) (by kernel_rfl) (fun _ _ _ h => h) (Or.inl ⟨by rfl, ?_⟩) (by assumption) ?_
          rotate_left
          · intro w hSw
            try dsimp only at hSw
            try simp only [List.getElem_toArray, List.getElem_cons_succ, List.getElem_cons_zero]
            go_split_ands
            go_simp
            try with_reducible rfl
          try simp only [Act.put, List.getElem_toArray, List.getElem_cons_succ, List.getElem_cons_zero, List.setIfInBounds_toArray, List.set_cons_zero, List.set_cons_succ]
          refine wpAnyH_take (i := 25) (oi := _) (v := ?_) rfl (by kernel_rfl) (by kernel_rfl) (by kernel_rfl) (fun _ _ _ h => h) (Or.inl ⟨by rfl, ?_⟩) (by assumption) ?_
          rotate_left
          · intro w hSw
            try dsimp only at hSw
            try simp only [List.getElem_toArray, List.getElem_cons_succ, List.getElem_cons_zero]
            go_split_ands
            go_simp
            try with_reducible rfl
          try simp only [Act.put, List.getElem_toArray, List.getElem_cons_succ, List.getElem_cons_zero, List.setIfInBounds_toArray, List.set_cons_zero, List.set_cons_succ]
          refine wpAnyH_take (i := 26) (oi := _) (v := ?_) rfl (by kernel_rfl) (by kernel_rfl) (by kernel_rfl) (fun _ _ _ h => h) (Or.inl ⟨by rfl, ?_⟩) (by assumption) ?_
          rotate_left
          · intro w hSw
            try dsimp only at hSw
            try simp only [List.getElem_toArray, List.getElem_cons_succ, List.getElem_cons_zero]
            go_split_ands
            go_simp
            try with_reducible rfl
          try simp only [Act.put, List.getElem_toArray, List.getElem_cons_succ, List.getElem_cons_zero, List.setIfInBounds_toArray, List.set_cons_zero, List.set_cons_succ]
          refine wpAnyH_take (i := 27) (oi := _) (v := ?_) rfl (by kernel_rfl) (by kernel_rfl) (by kernel_rfl) (fun _ _ _ h => h) (Or.inl ⟨by rfl, ?_⟩) (by assumption) ?_
          rotate_left
          · intro w hSw
            try dsimp only at hSw
            try simp only [List.getElem_toArray, List.getElem_cons_succ, List.getElem_cons_zero]
            go_split_ands
            go_simp
            try with_reducible rfl
          try simp only [Act.put, List.getElem_toArray, List.getElem_cons_succ, List.getElem_cons_zero, List.setIfInBounds_toArray, List.set_cons_zero, List.set_cons_succ]
          refine wpAnyH_take (i := 29) (oi := _) (v := ?_) rfl (by kernel_rfl) (by kernel_rfl) (by kernel_rfl) (fun _ _ _ h => h) (Or.inl ⟨by rfl, ?_⟩) (by assumption) ?_
          rotate_left
          · intro w hSw
            try dsimp only at hSw
            try simp only [List.getElem_toArray, List.getElem_cons_succ, List.getElem_cons_zero]
            go_split_ands
            go_simp
            try with_reducible rfl
          try simp only [Act.put, List.getElem_toArray, List.getElem_cons_succ, List.getElem_cons_zero, List.setIfInBounds_toArray, List.set_cons_zero, List.set_cons_succ]
          refine wpAnyH_ready (rs := [28]) (by kernel_rfl) (by simp) ?_
          refine AllReadyH.cons (o := _) rfl (fun K hK => ?_) AllReadyH.nil
          simp only [List.getElem_toArray, List.getElem_cons_succ, List.getElem_cons_zero]
          go_simp
          refine (HMO.out w11 F11).mono ?_
          rintro en w12 ⟨g12, c12, rfl, hv12, f12⟩
          have F12 := F11.trans f12
          have HI12 := Lib.hid (IntsAt.of_owns hv12)
          clear hv12
          go_wp2_with fail
          refine hK.out _ _ (F12.cell c1 (by simp)) (fun hHeld => ?_)
          clear hK K
          try simp only [Act.put, List.getElem_toArray, List.getElem_cons_succ, List.getElem_cons_zero, List.setIfInBounds_toArray, List.set_cons_zero, List.set_cons_succ]
          refine wpAnyH_ready (rs := [30]) (by kernel_rfl) (by simp) ?_
          refine AllReadyH.cons (o := _) rfl (fun K hK => ?_) AllReadyH.nil
          simp only [List.getElem_toArray, List.getElem_cons_succ, List.getElem_cons_zero]
          go_simp
          refine (ints_len w12 (some ⟨g12, 0, none⟩) (some ⟨q, 0, none⟩) c12 n _ _ _ _ (by first | rfl | exact HLL.out.symm) (by first | rfl | exact HLL.out.symm) HI12.out (HQ.out.fr F12 (by simp))).mono ?_
          rintro en w13 ⟨rfl, f13⟩
          rw [decide_eq_true rfl]
          have F13 := F12.trans f13
          go_wp2_with fail
          refine hK.out _ _ (F13.cell c1 (by simp)) (fun hHeld => ?_)
          clear hK K
          try simp only [Act.put, List.getElem_toArray, List.getElem_cons_succ, List.getElem_cons_zero, List.setIfInBounds_toArray, List.set_cons_zero, List.set_cons_succ]
          refine wpAnyH_take (i := 31) (oi := _) (v := ?_) rfl (by kernel_rfl) (by kernel_rfl) (by kernel_rfl) (fun _ _ _ h => h) (Or.inl ⟨by rfl, ?_⟩) (by assumption) ?_
          rotate_left
          · intro w hSw
            try dsimp only at hSw
            try simp only [List.getElem_toArray, List.getElem_cons_succ, List.getElem_cons_zero]
            go_split_ands
            go_simp
            try with_reducible rfl
          try simp only [Act.put, List.getElem_toArray, List.getElem_cons_succ, List.getElem_cons_zero, List.setIfInBounds_toArray, List.set_cons_zero, List.set_cons_succ]
          refine wpAnyH_take (i := 32) (oi := _) (v := ?_) rfl (by kernel_rfl) (by kernel_rfl) (by kernel_rfl) (fun _ _ _ h => h) (Or.inl ⟨by rfl, ?_⟩) (by assumption) ?_
          rotate_left
          · intro w hSw
            try dsimp only at hSw
            try simp only [List.getElem_toArray, List.getElem_cons_succ, List.getElem_cons_zero]
            go_split_ands
            go_simp
            try with_reducible rfl
          try simp only [Act.put, List.getElem_toArray, List.getElem_cons_succ, List.getElem_cons_zero, List.setIfInBounds_toArray, List.set_cons_zero, List.set_cons_succ]
          refine wpAnyH_done (by kernel_rfl) ?_ _
          go_wp2
          go_ret
          exact ⟨rfl, FB.base HBEG.out.f (HF.out.trans (FB.of F13)) HBEG.out.f.size⟩

end Go.Proofs.Ytnjoefanafjniaa
