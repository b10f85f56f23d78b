/- The walk of TwiceMoment. -/
import Derived.Test.YtnjoefanafjniaaTwMw
namespace Go.Proofs.Ytnjoefanafjniaa
open Go.RowKit

set_option maxHeartbeats 8000000 in
set_option maxRecDepth 100000 in
theorem moment_walk (w : World) (g : GivV) (gt : Option Addr) (cap : Nat) (l : List WrV) (hg : g.right w) (hl : WrsAt w gt l) :
    Calls Try.prog 4 #[g.val, .slice gt l.length cap] w fun e w' => e = .returned (.bool true) ∧ Fr [] w w' := by
  have HWRS := Lib.hid hl
  have hl63 := hl.1
  obtain ⟨len, hlen⟩ : ∃ n, n = l.length := ⟨_, rfl⟩
  rw [← hlen] at hl63 ⊢
  have HLEN1 := Lib.hid hlen
  clear hl hlen
  have HG := Lib.hid hg
  have hmade := fun (W : World) (f : Fr [] w W) => made_any W g (hg.fr f)
  obtain ⟨a, b, c, d, e, gs, ns, cs, gf, nf, cf, gp, np, cp⟩ := g
  unfold GivV.val at hmade ⊢
  simp only at hmade
  have HMADE := Lib.hid hmade
  clear hg hmade
  go_enter Try.func4, Try.ntmps4
  go_wp2_with fail
  have F0 := (Fr.refl [] w).alloc (.cells #[.int .u8 a, .int .u8 b, .int .u8 c, .int .u8 d, .int .u8 e, .slice gs ns cs, .slice gf nf cf, .slice gp np cp] 27)
  have hbk := heap_alloc_new w (.cells #[.int .u8 a, .int .u8 b, .int .u8 c, .int .u8 d, .int .u8 e, .slice gs ns cs, .slice gf nf cf, .slice gp np cp] 27)
  refine (awake_any _).mono ?_
  rintro en w1 ⟨rfl, f1⟩
  have hb1 := f1.at hbk (by simp)
  have x0 := cell_of (i := 0) hb1 rfl
  have x1 := cell_of (i := 1) hb1 rfl
  have x2 := cell_of (i := 2) hb1 rfl
  have x3 := cell_of (i := 3) hb1 rfl
  have x4 := cell_of (i := 4) hb1 rfl
  have x5 := cell_of (i := 5) hb1 rfl
  have x6 := cell_of (i := 6) hb1 rfl
  have x7 := cell_of (i := 7) hb1 rfl
  have F1 := Lib.hid (F0.trans f1)
  clear hbk hb1 F0 f1
  by_cases hlong : (20 : Int) < (len : Int)
  · go_wp2
    go_ret
    exact ⟨rfl, F1.out⟩
  go_wp2_with fail
  refine (HMADE.out _ F1.out).mono ?_
  rintro en w2 ⟨cv, q, n, rfl, hsm, hn, hq, hrow, f2⟩
  obtain ⟨L, hbeg⟩ := begun_of F1.out hsm hn hq hrow f2
  have HBEG := Lib.hid hbeg
  have c0 := hbeg.cf.c0; have c1 := hbeg.cf.c1; have c2 := hbeg.cf.c2; have c3 := hbeg.cf.c3; have c4 := hbeg.cf.c4
  have hnl := hbeg.n100
  clear hbeg hsm hn hq hrow f2 x0 x1 x2 x3 x4 x5 x6 x7
  have hsl := HBEG.out.hc.2.1
  unfold ConfV.val
  go_wp2_with fail
  have hIb := HBEG.out.hI
  have hLL := HBEG.out.hL
  generalize w2.alloc (.cells #[.int .i64 cv.wo, .int .i64 cv.sl, .int .i64 cv.st, .int .i64 cv.wa, .int .i64 cv.us] 31) = w3 at HBEG c0 c1 c2 c3 c4 hIb ⊢
  generalize w2.heap.size = b4 at HBEG c0 c1 c2 c3 c4 ⊢
  have hlaid := laid_any w3 cv n (some ⟨q, 0, none⟩) n L HBEG.out.hc HBEG.out.hn (by omega) hIb
  rw [hLL] at hlaid
  unfold ConfV.val at hlaid
  refine hlaid.mono ?_
  rintro en w4 ⟨pm, qm, rfl, hpm, hqm, hm, f4⟩
  have d0 := f4.cell c0 (by simp); have d1 := f4.cell c1 (by simp); have d2 := f4.cell c2 (by simp); have d3 := f4.cell c3 (by simp); have d4 := f4.cell c4 (by simp)
  clear c0 c1 c2 c3 c4 hlaid hIb
  go_wp2_with fail
  refine (tnew_any w4 cv).mono ?_
  rintro en w5 ⟨p, rfl, hp, ht, f5⟩
  have hin := begun_in HBEG.out hpm hqm hm f4 hp ht f5
  have HIN := Lib.hid hin
  have HFB := Lib.hid (FB.of (B := w3.heap.size) (f4.trans f5))
  obtain ⟨S, hS⟩ : ∃ S, S = cv.sl.toNat := ⟨_, rfl⟩
  clear d0 d1 d2 d3 d4 hpm hqm hm hp ht hin f4 f5 hLL
  have HLL := Lib.hid HBEG.out.hL
  have HI5 := Lib.hid (HFB.out.ints HBEG.out.hI (fun a ha => by injection ha with ha; subst ha; exact HBEG.out.ql))
  have hgl : ∀ a, gt = some a → len ≠ 0 → a.block < w.heap.size := fun a ha h0 => by
    obtain ⟨x, hx⟩ : ∃ x, l[0]? = some x := ⟨_, List.getElem?_eq_getElem (by rw [← HLEN1.out]; omega)⟩
    obtain ⟨-, -, b, o, hb, c0, -⟩ := HWRS.out.2 0 x hx
    rw [ha] at hb
    injection hb with hb
    subst hb
    exact World.block_lt_of_cell? w _ c0
  have HGL := Lib.hid hgl
  have hnn : n ≤ 16 := hnl.1
  obtain ⟨i0, hi, hz0, hz1, hz2⟩ := info_parts int_info
  obtain ⟨i1, hj, hy0, hy1, hy2⟩ := info_parts info_ints
  have hmk : ∀ W : World, (Instr.makeSlice 43 (.int .i64 (n : Int)) (.int .i64 (n : Int))).run Try.prog W = .ok (.slice (some ⟨W.heap.size, 0, none⟩) n n) (mkH W n) := run_make_row' (P := Try.prog) 43 32 (.slice none 0 0) 24 Try.underlying43 info_ints rfl .i64 .i64 n (by omega) (by omega)
  have HS := Lib.hid hS
  have hS1 : 1 ≤ S ∧ S ≤ 5 := by omega
  have hqb : q < w5.heap.size := Nat.lt_of_lt_of_le HBEG.out.ql HFB.out.size
  clear hgl hS
  go_wp2_with fail
  clear hmk
  have HH0 := Lib.hid (had_new w5 L n); have HF0 := Lib.hid (had_new_foot w5 n)
  go_loopw [12] (fun i wr => ∃ k : Nat, k ≤ n ∧ i = .int .i64 (k : Int) ∧ ∃ vs, HadAt wr w5.heap.size vs (hadK L n k) ∧ (∀ b, HFoot w5.heap.size vs b → w5.heap.size ≤ b) ∧ Fr [w5.heap.size] (mkH w5 n) wr) (fun i _ => n - (intOf i).toNat)
  case atStart => exact ⟨0, Nat.zero_le _, rfl, _, HH0.out, HF0.out, Fr.refl _ _⟩
  case round =>
    obtain ⟨k, hk, rfl, vs, hhad, hfoot, hfr⟩ := hrel
    have HH := Lib.hid hhad; have HFT := Lib.hid hfoot; have HFR := Lib.hid hfr
    clear hhad hfoot hfr
    by_cases hlt : k < n
    · have hI := ((HI5.out.fr ((Fr.refl [] w5).alloc _ : Fr [] w5 (mkH w5 n)) (by simp)).fr HFR.out (fun a ha => by injection ha with ha; subst ha; simp; omega))
      obtain ⟨bq, oq, hbq, hcq⟩ := hI.2 k (L.getD k 0) (getElem?_nat (by rw [HLL.out]; exact hlt))
      simp only [Option.some.injEq, Addr.mk.injEq, and_true] at hbq
      obtain ⟨rfl, rfl⟩ := hbq
      rw [Nat.zero_add] at hcq
      have HSET := Lib.hid (hadK_set (L := L) hlt)
      generalize L.getD k 0 = x at hcq HSET
      obtain ⟨v, hv, -, -, -⟩ := HH.out.get (i := k) (by rw [length_hadK]; exact hlt)
      have hlay := had_lay (x := x) HH.out hv
      have hHa := HH.out.fr ((Fr.refl [] wr).alloc (.cells #[.int .i64 x] 3)) (by simp)
      have hvs : vs.toArray[k]? = some v := by simpa using hv
      have y1 := cell_of hHa.b hvs
      have y2 := frozen_of (i := k) hHa.b
      have HLAY := Lib.hid hlay
      clear hI hlay hHa hvs hv
      go_wp2
      go_roundw
      case rel => exact ⟨k + 1, by omega, by go_num, _, by rw [← HSET.out]; exact HLAY.out.1, fun b hb => (HLAY.out.2.1 b hb).elim (HFT.out b) (fun h => by have := HFR.out.size; have h2 : w5.heap.size ≤ (mkH w5 n).heap.size := ((Fr.refl [] w5).alloc _ : Fr [] w5 (mkH w5 n)).size; omega), HFR.out.trans HLAY.out.2.2⟩
      case measure => simp [intOf]; omega
    · have hkn : n = k := by omega
      subst hkn
      have HMOM := Lib.hid (mom_start HIN.out ((Fr.refl [] w5).alloc _ : Fr [] w5 (mkH w5 n)) HH.out HFT.out HFR.out)
      have hB3 : w3.heap.size ≤ w5.heap.size := HFB.out.size
      have HFBM := Lib.hid (HFB.out.trans ((FB.of ((Fr.refl [] w5).alloc _ : Fr [] w5 (mkH w5 n))).trans ⟨[w5.heap.size], fun b hb => by simp at hb; omega, HFR.out⟩))
      generalize w5.heap.size = bh at HMOM ⊢
      obtain ⟨b0, hb0⟩ : ∃ b0, b0 = (cv.slot 0).toNat := ⟨_, rfl⟩
      have hcells := HBEG.out.hn
      have hb0n : b0 + S = n := by
        have h1 := HBEG.out.hc.1
        have h2 := HS.out
        rw [hb0]
        unfold ConfV.slot
        unfold ConfV.cells at hcells
        omega
      have hm0 := moms_zero (S := S) hS1.1 (X := slotsX cv L) (hs := hsOf b0 (hadK L n n)) (fun j hj => by
        rw [slots_get HBEG.out.hc (by rw [HLL.out]; exact hcells.symm), ← hb0]
        unfold hsOf
        rw [hadK_getD (by omega)]
        exact List.mem_singleton.2 rfl) []
      have HM0 := Lib.hid hm0
      have HB0 := Lib.hid hb0
      clear hm0 hb0 hB3
      go_wp2_with fail
      go_loopw [13, 10] (fun i vM wr => ∃ k m : Nat, ∃ t : Int, ∃ M : List Int, ∃ s : TwS, ∃ H : List (List Int), ∃ vs ms : List Value, ∃ MS : List (List Int), ∃ vR vL : Value, k ≤ 60 ∧ i = .int .i64 (k : Int) ∧ (0 ≤ t ∧ t ≤ n + 21 * k) ∧ m ≤ k ∧ M.length = n ∧ H.length = n ∧ (∀ a, (H.getD a []).length ≤ 1 + 20 * k) ∧ MS.length ≤ k ∧ (∀ N ∈ MS, N.length = n) ∧ Moms S s (slotsX cv M) (hsOf b0 H) (MS.map (List.drop b0)) m ∧ FB w3.heap.size w3 wr ∧ Mom w3.heap.size wr p pm qm cv s M t vR vL bh vs H vM ms MS) (fun i _ _ => 60 - (intOf i).toNat)
      case atStart => exact ⟨0, 0, (n : Int), L, _, _, _, _, [], _, _, by omega, rfl, ⟨by omega, by omega⟩, by omega, HLL.out, length_hadK _ _ _, fun a => by
        by_cases ha : a < n
        · rw [hadK_getD ha]; simp
        · rw [List.getD_eq_getElem?_getD, List.getElem?_eq_none (by rw [length_hadK]; omega)]; simp, by simp, fun N hN => by simp at hN, HM0.out, HFBM.out, HMOM.out⟩
      case round =>
        clear HMOM HFBM HM0 HH HFT HFR HIN HH0 HF0
        obtain ⟨k, m, t, M, s, H, vs, ms, MS, vR, vL, hk, rfl, ht, hmk, hml, hHl, hHb, hMSl, hMSn, hmoms, hfb, hmom⟩ := hrel
        have HMO := Lib.hid hmoms; have HF := Lib.hid hfb; have HMM := Lib.hid hmom; have HHB := Lib.hid hHb; have HMSN := Lib.hid hMSn
        clear hmoms hfb hmom hHb hMSn
        by_cases hlt : k < 60
        · go_wp2_with fail
          rw [decide_eq_true (show (k : Int) < 60 by omega)]
          go_loopw [14] (fun v wr => ∃ a : Nat, ∃ t' : Int, ∃ M : List Int, ∃ H : List (List Int), ∃ vs : List Value, a ≤ len ∧ v = .int .i64 (a : Int) ∧ (0 ≤ t' ∧ t' ≤ n + 21 * k + a) ∧ M.length = n ∧ H.length = n ∧ (∀ b, (H.getD b []).length ≤ 1 + 20 * k + a) ∧ Moms S s (slotsX cv M) (hsOf b0 H) (MS.map (List.drop b0)) m ∧ FB w3.heap.size w3 wr ∧ Mom w3.heap.size wr p pm qm cv s M t' vR vL bh vs H u10 ms MS) (fun v _ => len - (intOf v).toNat)
          case atStart => exact ⟨0, t, M, H, vs, Nat.zero_le _, rfl, ⟨by omega, by omega⟩, hml, hHl, HHB.out, HMO.out, HF.out, HMM.out⟩
          case round =>
            clear HMO HF HMM HHB
            obtain ⟨a, t', M, H, vs, ha, rfl, ht', hml, hHl, hHb, hmoms, hfb, hmom⟩ := hrel
            have HMO := Lib.hid hmoms; have HF := Lib.hid hfb; have HMM := Lib.hid hmom; have HHB := Lib.hid hHb
            clear hmoms hfb hmom hHb
            by_cases hlt2 : a < len
            · obtain ⟨x, hx⟩ : ∃ x, l[a]? = some x := ⟨_, List.getElem?_eq_getElem (by rw [← HLEN1.out]; exact hlt2)⟩
              obtain ⟨hwh, hpl, bb, o, rfl, c0, c1, c2⟩ := (HWRS.out.fr (FB.base HBEG.out.f HF.out HBEG.out.f.size)).2 a x hx
              have hbb : bb < w3.heap.size := by
                have h1 : bb < w.heap.size := HGL.out _ rfl (by omega)
                have h2 := HBEG.out.f.size
                omega
              clear hx
              obtain ⟨wh, pl, u⟩ := x
              simp only at hwh hpl c0 c1 c2
              by_cases he : wh = (k : Int)
              · subst he
                obtain ⟨pn, rfl⟩ : ∃ pn : Nat, pl = (pn : Int) := ⟨pl.toNat, by omega⟩
                have hn0 : ¬ (n : Int) = 0 := by omega
                have hn1 : ¬ n = 0 := by omega
                obtain ⟨at', hat⟩ : ∃ x : Nat, x = pn % n := ⟨_, rfl⟩
                have hatn : at' < n := by rw [hat]; exact Nat.mod_lt _ (by omega)
                have HMOD := Lib.hid (show (pn : Int) % (n : Int) = (at' : Int) by rw [hat]; rfl)
                have HAT := Lib.hid hat
                clear hat
                go_wp2_with fail
                rw [HMOD.out]
                obtain ⟨vv, hvv, hov, cv1, cf1⟩ := HMM.out.hd.get (i := at') (by omega)
                obtain ⟨gv, capv, rfl, hIv, hcv⟩ := hov.ints
                obtain ⟨nh, hnh⟩ : ∃ nh, nh = (H.getD at' []).length := ⟨_, rfl⟩
                have hnhb : nh ≤ 10000 := by have := HHB.out at'; omega
                rw [← hnh] at cv1 hcv
                have HNH := Lib.hid hnh; have HIV := Lib.hid hIv; have HOV := Lib.hid hov; have HVV := Lib.hid hvv
                clear hnh hIv hov hvv
                rename World => wo
                go_loopw [16] (fun j wr => ∃ jj : Nat, jj ≤ nh ∧ j = .int .i64 (jj : Int) ∧ (∀ i, i < jj → (H.getD at' []).getD i 0 ≠ u) ∧ Fr [] wo wr) (fun j _ => nh - (intOf j).toNat)
                case atStart => exact ⟨0, Nat.zero_le _, rfl, fun i hi => by omega, Fr.refl _ _⟩
                case round =>
                  obtain ⟨jj, hjj, rfl, hne, fz⟩ := hrel
                  have e1 := fz.cell cv1 (by simp)
                  have e2 := fz.cell c2 (by simp)
                  have HNE := Lib.hid hne; have HFZ := Lib.hid fz
                  clear hne fz
                  by_cases hlt3 : jj < nh
                  · have hx := getElem?_nat (L := H.getD at' []) (k := jj) (by rw [← HNH.out]; exact hlt3)
                    obtain ⟨bg, og, rfl, cg⟩ := HIV.out.2 jj _ hx
                    have e3 := HFZ.out.cell cg (by simp)
                    clear hx cg
                    obtain ⟨y, hy⟩ : ∃ y, y = (H.getD at' []).getD jj 0 := ⟨_, rfl⟩
                    rw [← hy] at e3
                    have HY := Lib.hid hy
                    clear hy
                    by_cases hyu : y = u
                    · subst hyu
                      go_wp2_with fail
                      refine wp_region_held_drew (S := fun w' => w'.cell? ⟨bh, at', none⟩ = some (.slice (some ⟨bg, og, none⟩) nh capv) ∧ w'.cell? ⟨bb, o + a * 3 + 2, none⟩ = some (.int .i64 y) ∧ w'.cell? ⟨bg, og + jj, none⟩ = some (.int .i64 y)) (by kernel_rfl) ⟨e1, e2, e3⟩ (fun hHeld => ?_)
                      refine wpAnyH_take (i := 0) (oi := _) (v := ?_) rfl (by kernel_rfl) (by kernel_rfl) (by kernel_rfl) (fun _ _ _ h => h) (Or.inl ⟨by rfl, ?_⟩) (by assumption) ?_
                      rotate_left
                      · intro w hSw
                        try dsimp only at hSw
                        try simp only [List.getElem_toArray, List.getElem_cons_zero]
                        go_split_ands
                        go_simp
                        try with_reducible rfl
                      try simp only [Act.put, List.getElem_toArray, List.getElem_cons_zero, List.setIfInBounds_toArray, List.set_cons_zero, List.set_cons_succ]
                      refine wpAnyH_take (i := 1) (oi := _) (v := ?_) rfl (by kernel_rfl) (by kernel_rfl) (by kernel_rfl) (fun _ _ _ h => h) (Or.inl ⟨by rfl, ?_⟩) (by assumption) ?_
                      rotate_left
                      · intro w hSw
                        try dsimp only at hSw
                        try simp only [List.getElem_toArray, List.getElem_cons_succ, List.getElem_cons_zero]
                        go_split_ands
                        go_simp
                        try with_reducible rfl
                      try simp only [Act.put, List.getElem_toArray, List.getElem_cons_succ, List.getElem_cons_zero, List.setIfInBounds_toArray, List.set_cons_zero, List.set_cons_succ]
                      refine wpAnyH_take (i := 2) (oi := _) (v := ?_) rfl (by kernel_rfl) (by kernel_rfl) (by kernel_rfl) (fun _ _ _ h => h) (Or.inl ⟨by rfl, ?_⟩) (by assumption) ?_
                      rotate_left
                      · intro w hSw
                        try dsimp only at hSw
                        try simp only [List.getElem_toArray, List.getElem_cons_succ, List.getElem_cons_zero]
                        go_split_ands
                        go_simp
                        try with_reducible rfl
                      try simp only [Act.put, List.getElem_toArray, List.getElem_cons_succ, List.getElem_cons_zero, List.setIfInBounds_toArray, List.set_cons_zero, List.set_cons_succ]
                      refine wpAnyH_take (i := 3) (oi := _) (v := ?_) rfl (by kernel_rfl) (by kernel_rfl) (by kernel_rfl) (fun _ _ _ h => h) (Or.inl ⟨by rfl, ?_⟩) (by assumption) ?_
                      rotate_left
                      · intro w hSw
                        try dsimp only at hSw
                        try simp only [List.getElem_toArray, List.getElem_cons_succ, List.getElem_cons_zero]
                        go_split_ands
                        go_simp
                        try with_reducible rfl
                      try simp only [Act.put, List.getElem_toArray, List.getElem_cons_succ, List.getElem_cons_zero, List.setIfInBounds_toArray, List.set_cons_zero, List.set_cons_succ]
                      refine wpAnyH_take (i := 4) (oi := _) (v := ?_) rfl (by kernel_rfl) (by kernel_rfl) (by kernel_rfl) (fun _ _ _ h => h) (Or.inl ⟨by rfl, ?_⟩) (by assumption) ?_
                      rotate_left
                      · intro w hSw
                        try dsimp only at hSw
                        try simp only [List.getElem_toArray, List.getElem_cons_succ, List.getElem_cons_zero]
                        go_split_ands
                        go_simp
                        try with_reducible rfl
                      try simp only [Act.put, List.getElem_toArray, List.getElem_cons_succ, List.getElem_cons_zero, List.setIfInBounds_toArray, List.set_cons_zero, List.set_cons_succ]
                      refine wpAnyH_take (i := 5) (oi := _) (v := ?_) rfl (by kernel_rfl) (by kernel_rfl) (by kernel_rfl) (fun _ _ _ h => h) (Or.inl ⟨by rfl, ?_⟩) (by assumption) ?_
                      rotate_left
                      · intro w hSw
                        try dsimp only at hSw
                        try simp only [List.getElem_toArray, List.getElem_cons_succ, List.getElem_cons_zero]
                        go_split_ands
                        go_simp
                        try with_reducible rfl
                      try simp only [Act.put, List.getElem_toArray, List.getElem_cons_succ, List.getElem_cons_zero, List.setIfInBounds_toArray, List.set_cons_zero, List.set_cons_succ]
                      refine wpAnyH_take (i := 6) (oi := _) (v := ?_) rfl (by kernel_rfl) (by kernel_rfl) (by kernel_rfl) (fun _ _ _ h => h) (Or.inl ⟨by rfl, ?_⟩) (by assumption) ?_
                      rotate_left
                      · intro w hSw
                        try dsimp only at hSw
                        try simp only [List.getElem_toArray, List.getElem_cons_succ, List.getElem_cons_zero]
                        go_split_ands
                        go_simp
                        try with_reducible rfl
                      try simp only [Act.put, List.getElem_toArray, List.getElem_cons_succ, List.getElem_cons_zero, List.setIfInBounds_toArray, List.set_cons_zero, List.set_cons_succ]
                      refine wpAnyH_take (i := 7) (oi := _) (v := ?_) rfl (by kernel_rfl) (by kernel_rfl) (by kernel_rfl) (fun _ _ _ h => h) (Or.inl ⟨by rfl, ?_⟩) (by assumption) ?_
                      rotate_left
                      · intro w hSw
                        try dsimp only at hSw
                        try simp only [List.getElem_toArray, List.getElem_cons_succ, List.getElem_cons_zero]
                        go_split_ands
                        go_simp
                        try with_reducible rfl
                      try simp only [Act.put, List.getElem_toArray, List.getElem_cons_succ, List.getElem_cons_zero, List.setIfInBounds_toArray, List.set_cons_zero, List.set_cons_succ]
                      refine wpAnyH_take (i := 8) (oi := _) (v := ?_) rfl (by kernel_rfl) (by kernel_rfl) (by kernel_rfl) (fun _ _ _ h => h) (Or.inl ⟨by rfl, ?_⟩) (by assumption) ?_
                      rotate_left
                      · intro w hSw
                        try dsimp only at hSw
                        try simp only [List.getElem_toArray, List.getElem_cons_succ, List.getElem_cons_zero]
                        go_split_ands
                        go_simp
                        try with_reducible rfl
                      try simp only [Act.put, List.getElem_toArray, List.getElem_cons_succ, List.getElem_cons_zero, List.setIfInBounds_toArray, List.set_cons_zero, List.set_cons_succ]
                      refine wpAnyH_take (i := 9) (oi := _) (v := ?_) rfl (by kernel_rfl) (by kernel_rfl) (by kernel_rfl) (fun _ _ _ h => h) (Or.inl ⟨by rfl, ?_⟩) (by assumption) ?_
                      rotate_left
                      · intro w hSw
                        try dsimp only at hSw
                        try simp only [List.getElem_toArray, List.getElem_cons_succ, List.getElem_cons_zero]
                        go_split_ands
                        go_simp
                        try with_reducible rfl
                      try simp only [Act.put, List.getElem_toArray, List.getElem_cons_succ, List.getElem_cons_zero, List.setIfInBounds_toArray, List.set_cons_zero, List.set_cons_succ]
                      refine wpAnyH_take (i := 10) (oi := _) (v := ?_) rfl (by kernel_rfl) (by kernel_rfl) (by kernel_rfl) (fun _ _ _ h => h) (Or.inl ⟨by rfl, ?_⟩) (by assumption) ?_
                      rotate_left
                      · intro w hSw
                        try dsimp only at hSw
                        try simp only [List.getElem_toArray, List.getElem_cons_succ, List.getElem_cons_zero]
                        go_split_ands
                        go_simp
                        try with_reducible rfl
                      try simp only [Act.put, List.getElem_toArray, List.getElem_cons_succ, List.getElem_cons_zero, List.setIfInBounds_toArray, List.set_cons_zero, List.set_cons_succ]
                      refine wpAnyH_take (i := 11) (oi := _) (v := ?_) rfl (by kernel_rfl) (by kernel_rfl) (by kernel_rfl) (fun _ _ _ h => h) (Or.inl ⟨by rfl, ?_⟩) (by assumption) ?_
                      rotate_left
                      · intro w hSw
                        try dsimp only at hSw
                        try simp only [List.getElem_toArray, List.getElem_cons_succ, List.getElem_cons_zero]
                        go_split_ands
                        go_simp
                        try with_reducible rfl
                      try simp only [Act.put, List.getElem_toArray, List.getElem_cons_succ, List.getElem_cons_zero, List.setIfInBounds_toArray, List.set_cons_zero, List.set_cons_succ]
                      refine wpAnyH_take (i := 12) (oi := _) (v := ?_) rfl (by kernel_rfl) (by kernel_rfl) (by kernel_rfl) (fun _ _ _ h => h) (Or.inl ⟨by rfl, ?_⟩) (by assumption) ?_
                      rotate_left
                      · intro w hSw
                        try dsimp only at hSw
                        try simp only [List.getElem_toArray, List.getElem_cons_succ, List.getElem_cons_zero]
                        go_split_ands
                        go_simp
                        try with_reducible rfl
                      try simp only [Act.put, List.getElem_toArray, List.getElem_cons_succ, List.getElem_cons_zero, List.setIfInBounds_toArray, List.set_cons_zero, List.set_cons_succ]
                      refine wpAnyH_done (by kernel_rfl) ?_ _
                      go_wp2
                      go_ret
                      exact ⟨rfl, FB.base HBEG.out.f (HF.out.trans (FB.of HFZ.out.drew)) HBEG.out.f.size⟩
                    · go_wp2_with fail
                      refine wp_region_held_drew (S := fun w' => w'.cell? ⟨bh, at', none⟩ = some (.slice (some ⟨bg, og, none⟩) nh capv) ∧ w'.cell? ⟨bb, o + a * 3 + 2, none⟩ = some (.int .i64 u) ∧ w'.cell? ⟨bg, og + jj, none⟩ = some (.int .i64 y)) (by kernel_rfl) ⟨e1, e2, e3⟩ (fun hHeld => ?_)
                      refine wpAnyH_take (i := 0) (oi := _) (v := ?_) rfl (by kernel_rfl) (by kernel_rfl) (by kernel_rfl) (fun _ _ _ h => h) (Or.inl ⟨by rfl, ?_⟩) (by assumption) ?_
                      rotate_left
                      · intro w hSw
                        try dsimp only at hSw
                        try simp only [List.getElem_toArray, List.getElem_cons_zero]
                        go_split_ands
                        go_simp
                        try with_reducible rfl
                      try simp only [Act.put, List.getElem_toArray, List.getElem_cons_zero, List.setIfInBounds_toArray, List.set_cons_zero, List.set_cons_succ]
                      refine wpAnyH_take (i := 1) (oi := _) (v := ?_) rfl (by kernel_rfl) (by kernel_rfl) (by kernel_rfl) (fun _ _ _ h => h) (Or.inl ⟨by rfl, ?_⟩) (by assumption) ?_
                      rotate_left
                      · intro w hSw
                        try dsimp only at hSw
                        try simp only [List.getElem_toArray, List.getElem_cons_succ, List.getElem_cons_zero]
                        go_split_ands
                        go_simp
                        try with_reducible rfl
                      try simp only [Act.put, List.getElem_toArray, List.getElem_cons_succ, List.getElem_cons_zero, List.setIfInBounds_toArray, List.set_cons_zero, List.set_cons_succ]
                      refine wpAnyH_take (i := 2) (oi := _) (v := ?_) rfl (by kernel_rfl) (by kernel_rfl) (by kernel_rfl) (fun _ _ _ h => h) (Or.inl ⟨by rfl, ?_⟩) (by assumption) ?_
                      rotate_left
                      · intro w hSw
                        try dsimp only at hSw
                        try simp only [List.getElem_toArray, List.getElem_cons_succ, List.getElem_cons_zero]
                        go_split_ands
                        go_simp
                        try with_reducible rfl
                      try simp only [Act.put, List.getElem_toArray, List.getElem_cons_succ, List.getElem_cons_zero, List.setIfInBounds_toArray, List.set_cons_zero, List.set_cons_succ]
                      refine wpAnyH_take (i := 3) (oi := _) (v := ?_) rfl (by kernel_rfl) (by kernel_rfl) (by kernel_rfl) (fun _ _ _ h => h) (Or.inl ⟨by rfl, ?_⟩) (by assumption) ?_
                      rotate_left
                      · intro w hSw
                        try dsimp only at hSw
                        try simp only [List.getElem_toArray, List.getElem_cons_succ, List.getElem_cons_zero]
                        go_split_ands
                        go_simp
                        try with_reducible rfl
                      try simp only [Act.put, List.getElem_toArray, List.getElem_cons_succ, List.getElem_cons_zero, List.setIfInBounds_toArray, List.set_cons_zero, List.set_cons_succ]
                      refine wpAnyH_take (i := 4) (oi := _) (v := ?_) rfl (by kernel_rfl) (by kernel_rfl) (by kernel_rfl) (fun _ _ _ h => h) (Or.inl ⟨by rfl, ?_⟩) (by assumption) ?_
                      rotate_left
                      · intro w hSw
                        try dsimp only at hSw
                        try simp only [List.getElem_toArray, List.getElem_cons_succ, List.getElem_cons_zero]
                        go_split_ands
                        go_simp
                        try with_reducible rfl
                      try simp only [Act.put, List.getElem_toArray, List.getElem_cons_succ, List.getElem_cons_zero, List.setIfInBounds_toArray, List.set_cons_zero, List.set_cons_succ]
                      refine wpAnyH_take (i := 5) (oi := _) (v := ?_) rfl (by kernel_rfl) (by kernel_rfl) (by kernel_rfl) (fun _ _ _ h => h) (Or.inl ⟨by rfl, ?_⟩) (by assumption) ?_
                      rotate_left
                      · intro w hSw
                        try dsimp only at hSw
                        try simp only [List.getElem_toArray, List.getElem_cons_succ, List.getElem_cons_zero]
                        go_split_ands
                        go_simp
                        try with_reducible rfl
                      try simp only [Act.put, List.getElem_toArray, List.getElem_cons_succ, List.getElem_cons_zero, List.setIfInBounds_toArray, List.set_cons_zero, List.set_cons_succ]
                      refine wpAnyH_take (i := 6) (oi := _) (v := ?_) rfl (by kernel_rfl) (by kernel_rfl) (by kernel_rfl) (fun _ _ _ h => h) (Or.inl ⟨by rfl, ?_⟩) (by assumption) ?_
                      rotate_left
                      · intro w hSw
                        try dsimp only at hSw
                        try simp only [List.getElem_toArray, List.getElem_cons_succ, List.getElem_cons_zero]
                        go_split_ands
                        go_simp
                        try with_reducible rfl
                      try simp only [Act.put, List.getElem_toArray, List.getElem_cons_succ, List.getElem_cons_zero, List.setIfInBounds_toArray, List.set_cons_zero, List.set_cons_succ]
                      refine wpAnyH_take (i := 7) (oi := _) (v := ?_) rfl (by kernel_rfl) (by kernel_rfl) (by kernel_rfl) (fun _ _ _ h => h) (Or.inl ⟨by rfl, ?_⟩) (by assumption) ?_
                      rotate_left
                      · intro w hSw
                        try dsimp only at hSw
                        try simp only [List.getElem_toArray, List.getElem_cons_succ, List.getElem_cons_zero]
                        go_split_ands
                        go_simp
                        try with_reducible rfl
                      try simp only [Act.put, List.getElem_toArray, List.getElem_cons_succ, List.getElem_cons_zero, List.setIfInBounds_toArray, List.set_cons_zero, List.set_cons_succ]
                      refine wpAnyH_take (i := 8) (oi := _) (v := ?_) rfl (by kernel_rfl) (by kernel_rfl) (by kernel_rfl) (fun _ _ _ h => h) (Or.inl ⟨by rfl, ?_⟩) (by assumption) ?_
                      rotate_left
                      · intro w hSw
                        try dsimp only at hSw
                        try simp only [List.getElem_toArray, List.getElem_cons_succ, List.getElem_cons_zero]
                        go_split_ands
                        go_simp
                        try with_reducible rfl
                      try simp only [Act.put, List.getElem_toArray, List.getElem_cons_succ, List.getElem_cons_zero, List.setIfInBounds_toArray, List.set_cons_zero, List.set_cons_succ]
                      refine wpAnyH_take (i := 9) (oi := _) (v := ?_) rfl (by kernel_rfl) (by kernel_rfl) (by kernel_rfl) (fun _ _ _ h => h) (Or.inl ⟨by rfl, ?_⟩) (by assumption) ?_
                      rotate_left
                      · intro w hSw
                        try dsimp only at hSw
                        try simp only [List.getElem_toArray, List.getElem_cons_succ, List.getElem_cons_zero]
                        go_split_ands
                        go_simp
                        try with_reducible rfl
                      try simp only [Act.put, List.getElem_toArray, List.getElem_cons_succ, List.getElem_cons_zero, List.setIfInBounds_toArray, List.set_cons_zero, List.set_cons_succ]
                      refine wpAnyH_take (i := 10) (oi := _) (v := ?_) rfl (by kernel_rfl) (by kernel_rfl) (by kernel_rfl) (fun _ _ _ h => h) (Or.inl ⟨by rfl, ?_⟩) (by assumption) ?_
                      rotate_left
                      · intro w hSw
                        try dsimp only at hSw
                        try simp only [List.getElem_toArray, List.getElem_cons_succ, List.getElem_cons_zero]
                        go_split_ands
                        go_simp
                        try with_reducible rfl
                      try simp only [Act.put, List.getElem_toArray, List.getElem_cons_succ, List.getElem_cons_zero, List.setIfInBounds_toArray, List.set_cons_zero, List.set_cons_succ]
                      refine wpAnyH_take (i := 11) (oi := _) (v := ?_) rfl (by kernel_rfl) (by kernel_rfl) (by kernel_rfl) (fun _ _ _ h => h) (Or.inl ⟨by rfl, ?_⟩) (by assumption) ?_
                      rotate_left
                      · intro w hSw
                        try dsimp only at hSw
                        try simp only [List.getElem_toArray, List.getElem_cons_succ, List.getElem_cons_zero]
                        go_split_ands
                        go_simp
                        try with_reducible rfl
                      try simp only [Act.put, List.getElem_toArray, List.getElem_cons_succ, List.getElem_cons_zero, List.setIfInBounds_toArray, List.set_cons_zero, List.set_cons_succ]
                      refine wpAnyH_take (i := 12) (oi := _) (v := ?_) rfl (by kernel_rfl) (by kernel_rfl) (by kernel_rfl) (fun _ _ _ h => h) (Or.inl ⟨by rfl, ?_⟩) (by assumption) ?_
                      rotate_left
                      · intro w hSw
                        try dsimp only at hSw
                        try simp only [List.getElem_toArray, List.getElem_cons_succ, List.getElem_cons_zero]
                        go_split_ands
                        go_simp
                        try with_reducible rfl
                      try simp only [Act.put, List.getElem_toArray, List.getElem_cons_succ, List.getElem_cons_zero, List.setIfInBounds_toArray, List.set_cons_zero, List.set_cons_succ]
                      refine wpAnyH_done (by kernel_rfl) ?_ _
                      go_wp2
                      go_roundw
                      case rel => exact ⟨jj + 1, by omega, by go_num, fun i hi => by
                        by_cases e : i < jj
                        · exact HNE.out i e
                        · have e2 : i = jj := by omega
                          rw [e2, ← HY.out]; exact hyu, HFZ.out.drew⟩
                      case measure => simp [intOf]; omega
                  · have hun : u ∉ H.getD at' [] := fun hu => by
                      obtain ⟨i, hi, hiu⟩ := List.getElem_of_mem hu
                      refine HNE.out i (by have := HNH.out; omega) ?_
                      rw [List.getD_eq_getElem?_getD, List.getElem?_eq_getElem hi]; exact hiu
                    have HUN := Lib.hid hun
                    have HMZ := Lib.hid (HMM.out.fr0 HFZ.out)
                    have HFW := Lib.hid (HF.out.trans (FB.of HFZ.out))
                    have hrp1 : some bh ≠ (Value.slice gv nh capv).ownBlock := by rw [HNH.out]; exact Ne.symm (HMM.out.hd.ne at' _ HVV.out)
                    have hrp2 : some bb ≠ (Value.slice gv nh capv).ownBlock := fun e => by
                      have h1 := HMM.out.gh bb (.inr ⟨at', _, HVV.out, by rw [← HNH.out]; exact e.symm⟩)
                      omega
                    have HRP1 := Lib.hid hrp1; have HRP2 := Lib.hid hrp2
                    have hvn : vs[at']? = some (.slice gv nh capv) := by rw [HNH.out]; exact HVV.out
                    have HVN := Lib.hid hvn
                    have hon : (wr.drew.alloc (.cells #[.int .i64 u] 3)).ownsRow 0 3 1 (.slice gv nh capv) nh ((H.getD at' []).map (Value.int .i64)) := by
                      have h1 := HOV.out.fr (HFZ.out.drew.alloc (.cells #[.int .i64 u] 3)) (by simp)
                      unfold OwnI at h1
                      rw [← HNH.out] at h1
                      exact h1
                    have HON := Lib.hid hon
                    clear hun hrp1 hrp2 hvn hon
                    go_wp2_with fail
                    refine wp_region_heldZ (z := 14) (S := fun w' => w'.cell? ⟨bh, at', none⟩ = some (.slice gv nh capv) ∧ w'.cell? ⟨bb, o + a * 3 + 2, none⟩ = some (.int .i64 u)) (by kernel_rfl) ⟨e1, e2⟩ (fun hHeld => ?_)
                    refine wpAnyZ_take (i := 0) (oi := _) (v := ?_) rfl (by kernel_rfl) (by kernel_rfl) (by kernel_rfl) (by kernel_rfl) (fun _ _ _ h => h) (Or.inl ⟨by rfl, ?_⟩) (by assumption) ?_
                    rotate_left
                    · intro w hSw
                      try dsimp only at hSw
                      try simp only [List.getElem_toArray, List.getElem_cons_zero]
                      go_split_ands
                      go_simp
                      try with_reducible rfl
                    try simp only [Act.put, List.getElem_toArray, List.getElem_cons_zero, List.setIfInBounds_toArray, List.set_cons_zero, List.set_cons_succ]
                    refine wpAnyZ_take (i := 1) (oi := _) (v := ?_) rfl (by kernel_rfl) (by kernel_rfl) (by kernel_rfl) (by kernel_rfl) (fun _ _ _ h => h) (Or.inl ⟨by rfl, ?_⟩) (by assumption) ?_
                    rotate_left
                    · intro w hSw
                      try dsimp only at hSw
                      try simp only [List.getElem_toArray, List.getElem_cons_succ, List.getElem_cons_zero]
                      go_split_ands
                      go_simp
                      try with_reducible rfl
                    try simp only [Act.put, List.getElem_toArray, List.getElem_cons_succ, List.getElem_cons_zero, List.setIfInBounds_toArray, List.set_cons_zero, List.set_cons_succ]
                    refine wpAnyZ_take (i := 2) (oi := _) (v := ?_) rfl (by kernel_rfl) (by kernel_rfl) (by kernel_rfl) (by kernel_rfl) (fun _ _ _ h => h) (Or.inl ⟨by rfl, ?_⟩) (by assumption) ?_
                    rotate_left
                    · intro w hSw
                      try dsimp only at hSw
                      try simp only [List.getElem_toArray, List.getElem_cons_succ, List.getElem_cons_zero]
                      go_split_ands
                      go_simp
                      try with_reducible rfl
                    try simp only [Act.put, List.getElem_toArray, List.getElem_cons_succ, List.getElem_cons_zero, List.setIfInBounds_toArray, List.set_cons_zero, List.set_cons_succ]
                    refine wpAnyZ_take (i := 3) (oi := _) (v := ?_) rfl (by kernel_rfl) (by kernel_rfl) (by kernel_rfl) (by kernel_rfl) (fun _ _ _ h => h) (Or.inl ⟨by rfl, ?_⟩) (by assumption) ?_
                    rotate_left
                    · intro w hSw
                      try dsimp only at hSw
                      try simp only [List.getElem_toArray, List.getElem_cons_succ, List.getElem_cons_zero]
                      go_split_ands
                      go_simp
                      try with_reducible rfl
                    try simp only [Act.put, List.getElem_toArray, List.getElem_cons_succ, List.getElem_cons_zero, List.setIfInBounds_toArray, List.set_cons_zero, List.set_cons_succ]
                    refine wpAnyZ_take (i := 4) (oi := _) (v := ?_) rfl (by kernel_rfl) (by kernel_rfl) (by kernel_rfl) (by kernel_rfl) (fun _ _ _ h => h) (Or.inl ⟨by rfl, ?_⟩) (by assumption) ?_
                    rotate_left
                    · intro w hSw
                      try dsimp only at hSw
                      try simp only [List.getElem_toArray, List.getElem_cons_succ, List.getElem_cons_zero]
                      go_split_ands
                      go_simp
                      try with_reducible rfl
                    try simp only [Act.put, List.getElem_toArray, List.getElem_cons_succ, List.getElem_cons_zero, List.setIfInBounds_toArray, List.set_cons_zero, List.set_cons_succ]
                    refine wpAnyZ_take (i := 5) (oi := _) (v := ?_) rfl (by kernel_rfl) (by kernel_rfl) (by kernel_rfl) (by kernel_rfl) (fun _ _ _ h => h) (Or.inl ⟨by rfl, ?_⟩) (by assumption) ?_
                    rotate_left
                    · intro w hSw
                      try dsimp only at hSw
                      try simp only [List.getElem_toArray, List.getElem_cons_succ, List.getElem_cons_zero]
                      go_split_ands
                      go_simp
                      try with_reducible rfl
                    try simp only [Act.put, List.getElem_toArray, List.getElem_cons_succ, List.getElem_cons_zero, List.setIfInBounds_toArray, List.set_cons_zero, List.set_cons_succ]
                    refine wpAnyZ_take (i := 6) (oi := _) (v := ?_) rfl (by kernel_rfl) (by kernel_rfl) (by kernel_rfl) (by kernel_rfl) (fun _ _ _ h => h) (Or.inl ⟨by rfl, ?_⟩) (by assumption) ?_
                    rotate_left
                    · intro w hSw
                      try dsimp only at hSw
                      try simp only [List.getElem_toArray, List.getElem_cons_succ, List.getElem_cons_zero]
                      go_split_ands
                      go_simp
                      try with_reducible rfl
                    try simp only [Act.put, List.getElem_toArray, List.getElem_cons_succ, List.getElem_cons_zero, List.setIfInBounds_toArray, List.set_cons_zero, List.set_cons_succ]
                    refine wpAnyZ_take (i := 7) (oi := _) (v := ?_) rfl (by kernel_rfl) (by kernel_rfl) (by kernel_rfl) (by kernel_rfl) (fun _ _ _ h => h) (Or.inl ⟨by rfl, ?_⟩) (by assumption) ?_
                    rotate_left
                    · intro w hSw
                      try dsimp only at hSw
                      try simp only [List.getElem_toArray, List.getElem_cons_succ, List.getElem_cons_zero]
                      go_split_ands
                      go_simp
                      try with_reducible rfl
                    try simp only [Act.put, List.getElem_toArray, List.getElem_cons_succ, List.getElem_cons_zero, List.setIfInBounds_toArray, List.set_cons_zero, List.set_cons_succ]
                    refine wpAnyZ_take (i := 8) (oi := _) (v := ?_) rfl (by kernel_rfl) (by kernel_rfl) (by kernel_rfl) (by kernel_rfl) (fun _ _ _ h => h) (Or.inl ⟨by rfl, ?_⟩) (by assumption) ?_
                    rotate_left
                    · intro w hSw
                      try dsimp only at hSw
                      try simp only [List.getElem_toArray, List.getElem_cons_succ, List.getElem_cons_zero]
                      go_split_ands
                      go_simp
                      try with_reducible rfl
                    try simp only [Act.put, List.getElem_toArray, List.getElem_cons_succ, List.getElem_cons_zero, List.setIfInBounds_toArray, List.set_cons_zero, List.set_cons_succ]
                    refine wpAnyZ_take (i := 9) (oi := _) (v := ?_) rfl (by kernel_rfl) (by kernel_rfl) (by kernel_rfl) (by kernel_rfl) (fun _ _ _ h => h) (Or.inl ⟨by rfl, ?_⟩) (by assumption) ?_
                    rotate_left
                    · intro w hSw
                      try dsimp only at hSw
                      try simp only [List.getElem_toArray, List.getElem_cons_succ, List.getElem_cons_zero]
                      go_split_ands
                      go_simp
                      try with_reducible rfl
                    try simp only [Act.put, List.getElem_toArray, List.getElem_cons_succ, List.getElem_cons_zero, List.setIfInBounds_toArray, List.set_cons_zero, List.set_cons_succ]
                    refine wpAnyZ_take (i := 10) (oi := _) (v := ?_) rfl (by kernel_rfl) (by kernel_rfl) (by kernel_rfl) (by kernel_rfl) (fun _ _ _ h => h) (Or.inl ⟨by rfl, ?_⟩) (by assumption) ?_
                    rotate_left
                    · intro w hSw
                      try dsimp only at hSw
                      try simp only [List.getElem_toArray, List.getElem_cons_succ, List.getElem_cons_zero]
                      go_split_ands
                      go_simp
                      try with_reducible rfl
                    try simp only [Act.put, List.getElem_toArray, List.getElem_cons_succ, List.getElem_cons_zero, List.setIfInBounds_toArray, List.set_cons_zero, List.set_cons_succ]
                    refine wpAnyZ_one (i := 11) (o := _) (by kernel_rfl) rfl (fun K hK => ?_)
                    simp only [List.getElem_toArray, List.getElem_cons_succ, List.getElem_cons_zero]
                    go_simp
                    refine hK.out _ _ ⟨((Fr.refl [] wr).drew.alloc (.cells #[.int .i64 u] 3)).cell e1 (by simp), ((Fr.refl [] wr).drew.alloc (.cells #[.int .i64 u] 3)).cell e2 (by simp)⟩ (fun hHeld => ?_)
                    clear hK K
                    try simp only [Act.put, List.getElem_toArray, List.getElem_cons_succ, List.getElem_cons_zero, List.setIfInBounds_toArray, List.set_cons_zero, List.set_cons_succ]
                    refine wpAnyZ_one (i := 12) (o := _) (by kernel_rfl) rfl (fun K hK => ?_)
                    simp only [List.getElem_toArray, List.getElem_cons_succ, List.getElem_cons_zero]
                    rw [if_pos (by rfl)]
                    refine wp_append_at _ _ _ 32 rfl 0 3 i0 (.int .i64 0) 1 8 Try.underlying32 hi hz0 hz1 hz2 rfl (by decide) _ _ _ rfl HON.out ⟨wr.heap.size, 0, none⟩ 1 1 [.int .i64 u] rfl rfl (cell_one_new wr.drew _ _) (fun u hu => by obtain rfl := List.mem_singleton.1 hu; rfl) (by unfold maxLen; omega) (by omega) (Nat.zero_le _) ?_
                    intro v7 w7 hown7 hgrow hat7
                    obtain ⟨g7, c7, rfl⟩ := owns_slice hown7
                    refine hK.out _ _ ⟨hgrow.cell (((Fr.refl [] wr).drew.alloc (.cells #[.int .i64 u] 3)).cell e1 (by simp)) HRP1.out, hgrow.cell (((Fr.refl [] wr).drew.alloc (.cells #[.int .i64 u] 3)).cell e2 (by simp)) HRP2.out⟩ (fun hHeld => ?_)
                    clear hK K
                    try simp only [Act.put, List.getElem_toArray, List.getElem_cons_succ, List.getElem_cons_zero, List.setIfInBounds_toArray, List.set_cons_zero, List.set_cons_succ]
                    refine wpAnyZ_take (i := 13) (oi := _) (v := ?_) rfl (by kernel_rfl) (by kernel_rfl) (by kernel_rfl) (by kernel_rfl) (fun _ _ _ h => h) (Or.inl ⟨by rfl, ?_⟩) (by assumption) ?_
                    rotate_left
                    · intro w hSw
                      try dsimp only at hSw
                      try simp only [List.getElem_toArray, List.getElem_cons_succ, List.getElem_cons_zero]
                      go_split_ands
                      go_simp
                      try with_reducible rfl
                    try simp only [Act.put, List.getElem_toArray, List.getElem_cons_succ, List.getElem_cons_zero, List.setIfInBounds_toArray, List.set_cons_zero, List.set_cons_succ]
                    refine wpAnyZ_last (o := _) (by kernel_rfl) rfl (fun K hK => ?_)
                    simp only [List.getElem_toArray, List.getElem_cons_succ, List.getElem_cons_zero]
                    have h7b := had_app_at HMZ.out.hd HVN.out hgrow
                    have h7v : vs.toArray[at']? = some (.slice gv nh capv) := by rw [List.getElem?_toArray]; exact HVN.out
                    have h7c := cell_of h7b h7v
                    have h7f := frozen_of (i := at') h7b
                    clear h7b h7v
                    go_simp
                    refine hK.out _ _ ?_
                    clear hK K
                    try simp only [Act.put, List.getElem_toArray, List.getElem_cons_succ, List.getElem_cons_zero, List.setIfInBounds_toArray, List.set_cons_zero, List.set_cons_succ]
                    refine wpAnyZ_done (by kernel_rfl) ?_ _
                    have happ := had_app HMZ.out.hd HVN.out hgrow hown7 HNH.out hat7
                    obtain ⟨hmp, hfp⟩ := HMZ.out.put HVN.out happ.1 happ.2.2 happ.2.1
                    have e2b := hfp.cell e2 hbb
                    have HMP := Lib.hid hmp; have HFP := Lib.hid (HFW.out.trans hfp)
                    clear happ hown7 hgrow hat7 hHeld h7c h7f hmp hfp e1 e2
                    generalize w7.setCell ⟨bh, at', none⟩ (.slice g7 (nh + 1) c7) = w9 at HMP HFP e2b ⊢
                    have hin : isIn M (at' : Int) = true := isIn_yes (by omega) (by omega)
                    have hst := store_any w9 pm qm M t' at' u HMP.out.tw.m (by omega) (by omega)
                    rw [show storeL M (at' : Int) u = M.set at' u by unfold storeL; rw [if_pos hin]; rfl, show tch M (at' : Int) = 1 by unfold tch; rw [if_pos hin]] at hst
                    have HST := Lib.hid hst
                    clear hst hin
                    go_wp2_with fail
                    refine HST.out.mono ?_
                    rintro en w10 ⟨rfl, hm10, f10⟩
                    obtain ⟨hms, hfs⟩ := HMP.out.store f10 hm10
                    have HMS := Lib.hid hms; have HFS := Lib.hid (HFP.out.trans hfs)
                    have HMW := Lib.hid (moms_put HMO.out HBEG.out.hc (by rw [hml]; exact hcells.symm) HB0.out HS.out HUN.out (by omega))
                    have HHB2 := Lib.hid (had_bound (u := u) HHB.out (show at' < H.length by omega))
                    clear hms hfs hm10 f10
                    go_wp2
                    go_roundw
                    case rel => exact ⟨a + 1, t' + 1, M.set at' u, H.set at' (H.getD at' [] ++ [u]), _, by omega, by go_num, ⟨by omega, by omega⟩, by rw [List.length_set]; exact hml, by rw [List.length_set]; exact hHl, HHB2.out, HMW.out, HFS.out, HMS.out⟩
                    case measure => simp [intOf]; omega
              · go_wp2
                go_roundw
                case rel => exact ⟨a + 1, t', M, H, vs, by omega, by go_num, ⟨by omega, by omega⟩, hml, hHl, fun b => by have := HHB.out b; omega, HMO.out, HF.out, HMM.out⟩
                case measure => simp [intOf]; omega
            · have hX := slotsX_drop HBEG.out.hc (show (M.length : Int) = cv.cells by rw [hml]; exact hcells.symm)
              rw [← HB0.out] at hX
              have hXl := length_slotsX cv M
              have hms := (HMO.out.more (M.drop b0)).step (x := loadV M (cv.slot s.r.length)) (by rw [hXl]; exact HS.out.symm) (by rw [← hX]; exact List.mem_append_right _ (List.mem_singleton.2 rfl)) (by rw [slotsX_at cv M (by have := HMO.out.hr; have := HS.out; omega)])
              rw [show MS.map (List.drop b0) ++ [M.drop b0] = (MS ++ [M]).map (List.drop b0) by simp] at hms
              have HMS := Lib.hid hms
              have HW := Lib.hid (words_any wr pm qm M t' HMM.out.tw.m (by omega))
              have HML := Lib.hid hml
              have hmsl : ms.length ≤ 60 := by rw [HMM.out.mo.len]; omega
              have HMSL := Lib.hid HMM.out.mo.len
              have HMl : M.length ≤ 16 := by omega
              clear hX hXl hms hml
              go_wp2_with fail
              refine HW.out.mono ?_
              rintro en w6 ⟨g6, c6, rfl, hrow6, f6⟩
              have HRW := Lib.hid hrow6; have HF6 := Lib.hid f6
              have hom : (w6.alloc (.cells #[.slice (some ⟨g6, 0, none⟩) M.length c6] 32)).ownsRow 0 32 1 u10 ms.length ms := ownsRow_keep HMM.out.mo.o (f6.alloc _) (by simp)
              have HOM := Lib.hid hom
              clear hrow6 f6 hom HW
              go_wp2_with (first | (at_builtin; refine wpList_append_own_at _ rfl _ _ 43 rfl 0 32 i1 (.slice none 0 0) 1 24 Try.underlying43 hj hy0 hy1 hy2 rfl (by decide) u10 ms.length ms rfl HOM.out ⟨w6.heap.size, 0, none⟩ 1 1 [.slice (some ⟨g6, 0, none⟩) M.length c6] rfl rfl (cell_one_new w6 _ _) (fun u hu => by obtain rfl := List.mem_singleton.1 hu; rfl) (by unfold maxLen; omega) (by omega) (Nat.zero_le _) ?_) | fail)
              intro vM' w7 hown7 hgrow7 hnil7 hat7
              obtain ⟨hmp, hfp⟩ := mom_push HMM.out HF6.out HRW.out hgrow7 hown7 (by rw [World.size_alloc]; exact hat7)
              have HMP := Lib.hid hmp; have HFP := Lib.hid (HF.out.trans hfp)
              have hst := tstep_any w3.heap.size w7 p pm qm cv vR vL s M t' HBEG.out.hc hmp.tw (by omega) (by omega) (by rw [HMO.out.hn]; omega) (by rw [HMO.out.hn]; omega) (by rw [HML.out]; exact hcells.symm) (by have := HMO.out.hr; have := HS.out; omega)
              rw [← HS.out, HMO.out.hd, if_neg (by simp)] at hst
              have HST := Lib.hid hst
              have hmsl2 : (ms ++ [Value.slice (some ⟨g6, 0, none⟩) M.length c6]).length = ms.length + 1 := by simp
              generalize hmsE : ms ++ [Value.slice (some ⟨g6, 0, none⟩) M.length c6] = ms2 at HMP hmsl2
              clear hst hown7 hgrow7 hnil7 hat7 hmp hfp HOM HRW HF6 HMM HF hmsE
              have HML2 := Lib.hid hmsl2
              clear hmsl2
              rcases HMS.out with ⟨hd, m', hms', hm'⟩ | ⟨hd, hin, hll⟩
              · have HMS2 := Lib.hid hms'
                clear hms'
                go_wp2_with fail
                refine HST.out.mono ?_
                rintro en w8 ⟨vR', vL', rfl, h8, f8, fB8, hf8⟩
                rw [hd]
                have HM8 := Lib.hid (HMP.out.step h8 f8 hf8); have HF8 := Lib.hid (HFP.out.trans fB8)
                have HHB3 := Lib.hid (show ∀ b, (H.getD b []).length ≤ 1 + 20 * (k + 1) from fun b => by have := HHB.out b; omega)
                have HMN := Lib.hid (show ∀ N ∈ MS ++ [M], N.length = n from fun N hN => by
                  rcases List.mem_append.1 hN with h1 | h1
                  · exact HMSN.out N h1
                  · rw [List.mem_singleton.1 h1]; exact HML.out)
                clear h8 f8 fB8 hf8 hd HST HMP HFP
                go_wp2
                go_roundw
                case rel => exact ⟨k + 1, m', t' + 1, M, _, H, vs, ms2, MS ++ [M], vR', vL', by omega, by go_num, ⟨by omega, by omega⟩, by omega, HML.out, hHl, HHB3.out, by rw [List.length_append, List.length_singleton]; omega, HMN.out, HMS2.out, HF8.out, HM8.out⟩
                case measure => simp [intOf]; omega
              · go_wp2_with fail
                refine HST.out.mono ?_
                rintro en w8 ⟨vR', vL', rfl, h8, f8, fB8, hf8⟩
                rw [hd]
                have hm8 := HMP.out.step h8 f8 hf8
                have hwo := twords_any w8 p cv vR' vL' _ _ _ _ hm8.tw.tw (fun _ e => by rw [e] at hll; simp at hll; omega) (by omega)
                rw [hd, if_pos rfl] at hwo
                have HWO := Lib.hid hwo
                have HM8 := Lib.hid hm8; have HF8 := Lib.hid (HFP.out.trans fB8)
                generalize TwS.step S (loadV M (cv.slot s.r.length)) s = s2 at hin hll HWO HM8 hd
                generalize s2.l = X at hin hll HWO
                have HIN2 := Lib.hid hin; have HLL2 := Lib.hid hll
                clear h8 f8 fB8 hf8 hd HST HMP HFP hm8 hwo hin hll HMS
                go_wp2_with fail
                refine HWO.out.mono ?_
                rintro en w9 ⟨v9, rfl, hv9, hn9, f9⟩
                obtain ⟨g9, c9, rfl, hI9, -⟩ := hv9.ints
                have HI9 := Lib.hid hI9
                have HM9 := Lib.hid (HM8.out.fr0 f9); have HF9 := Lib.hid (HF8.out.trans (FB.of f9))
                clear hv9 hn9 f9 hI9 HM8 HF8 HWO
                obtain ⟨k0, hk0, hk0e⟩ := List.getElem_of_mem HIN2.out
                have hk0l : k0 < MS.length + 1 := by simpa using hk0
                obtain ⟨gM, cM, rfl, hcM, hcells9⟩ := mom_row HM9.out.mo.o (by rw [HML2.out]; omega)
                obtain ⟨N, hN⟩ : ∃ N, N = ms2.length := ⟨_, rfl⟩
                have hNk : k0 < N := by rw [hN, HML2.out, HMSL.out]; exact hk0l
                have hN60 : N ≤ 61 := by rw [hN, HML2.out]; omega
                rw [← hN] at hcM ⊢
                have HN := Lib.hid hN; have HC9 := Lib.hid hcells9; have HK0 := Lib.hid hk0e
                have HK1 := Lib.hid (show ∀ Mj, (MS ++ [M])[k0]? = some Mj → Mj.drop b0 = X from fun Mj h => by
                  have h1 := hk0e
                  rw [List.getElem_map] at h1
                  rw [← (List.getElem?_eq_some_iff.1 h).2]
                  exact h1)
                have hb0f : cv.slot 0 = (b0 : Int) := by
                  have h1 := HBEG.out.hc.1
                  rw [HB0.out]
                  unfold ConfV.slot
                  omega
                have hsl0 := fun W : World => rslot_any W cv 0 HBEG.out.hc (by omega) (by omega)
                rw [hb0f] at hsl0
                unfold ConfV.val at hsl0
                have HSL := Lib.hid hsl0
                clear hN hcells9 hk0e hb0f hsl0 HK0
                go_wp2_with fail
                go_loopw [18] (fun j wr => ∃ jj : Nat, jj ≤ k0 ∧ j = .int .i64 (jj : Int) ∧ Fr [] w9 wr) (fun j _ => k0 + 1 - (intOf j).toNat)
                case atStart => exact ⟨0, Nat.zero_le _, rfl, Fr.refl _ _⟩
                case round =>
                  obtain ⟨jj, hjj, rfl, fz⟩ := hrel
                  have hfz := HF9.out.trans (FB.of fz)
                  have a0 := hfz.cell HBEG.out.cf.c0 HBEG.out.bl; have a1 := hfz.cell HBEG.out.cf.c1 HBEG.out.bl; have a2 := hfz.cell HBEG.out.cf.c2 HBEG.out.bl; have a3 := hfz.cell HBEG.out.cf.c3 HBEG.out.bl; have a4 := hfz.cell HBEG.out.cf.c4 HBEG.out.bl
                  have hjN : jj < ms2.length := by rw [← HN.out]; omega
                  obtain ⟨vj, hvj⟩ : ∃ vj, ms2[jj]? = some vj := ⟨_, List.getElem?_eq_getElem hjN⟩
                  obtain ⟨Mj, hMj⟩ : ∃ Mj, (MS ++ [M])[jj]? = some Mj := ⟨_, List.getElem?_eq_getElem (by rw [← HM9.out.mo.len]; exact hjN)⟩
                  obtain ⟨gj, cj, rfl, hIj, -, hcj⟩ := HM9.out.mo.i jj vj Mj hvj hMj
                  have hMjl : Mj.length = n := by
                    rcases List.mem_append.1 (List.mem_of_getElem? hMj) with h1 | h1
                    · exact HMSN.out Mj h1
                    · rw [List.mem_singleton.1 h1]; exact HML.out
                  have hcell := HC9.out jj _ hvj
                  rw [hMjl] at hcell hcj
                  have hcw := fz.cell hcell (by simp)
                  have HIJ := Lib.hid ((hIj.fr fz (by simp)).drop b0)
                  have HLJ := Lib.hid (show n - b0 = (Mj.drop b0).length by rw [List.length_drop, hMjl])
                  have HI9b := Lib.hid (HI9.out.fr fz (by simp))
                  have HMJ := Lib.hid hMj; have HFZ := Lib.hid hfz; have HFZ2 := Lib.hid fz
                  have hcj1 : ¬ cj = b0 := by omega
                  have hb0n1 : b0 ≤ n := by omega
                  have hb0n2 : b0 ≤ cj := by omega
                  have hjjN : (jj : Int) < (N : Int) := by omega
                  clear hjN hvj hMj hIj hMjl hcell hfz fz
                  go_wp2_with fail
                  refine (HSL.out wr).mono ?_
                  rintro en wz ⟨rfl, fs⟩
                  have hcz := fs.cell hcw (by simp)
                  have HIJ2 := Lib.hid (HIJ.out.fr fs (by simp)); have HI9c := Lib.hid (HI9b.out.fr fs (by simp))
                  have HFS := Lib.hid fs
                  clear hcw a0 a1 a2 a3 a4 fs
                  go_wp2_with fail
                  rw [Nat.zero_add] at HIJ2
                  refine (ints_len wz (some ⟨gj, b0, none⟩) g9 (cj - b0) c9 (n - b0) X.length (Mj.drop b0) X HLJ.out rfl HIJ2.out HI9c.out).mono ?_
                  rintro en wy ⟨rfl, fy⟩
                  have HFY := Lib.hid fy
                  clear fy
                  by_cases heq : Mj.drop b0 = X
                  · rw [decide_eq_true heq]
                    go_wp2
                    go_ret
                    exact ⟨rfl, FB.base HBEG.out.f (HFZ.out.trans (FB.of (HFS.out.trans HFY.out))) HBEG.out.f.size⟩
                  · rw [decide_eq_false heq]
                    have hne : jj ≠ k0 := fun e => heq (HK1.out Mj (e ▸ HMJ.out))
                    have HFA := Lib.hid (HFZ2.out.trans (HFS.out.trans HFY.out))
                    clear heq
                    go_wp2
                    go_roundw
                    case rel => exact ⟨jj + 1, by omega, by go_num, HFA.out⟩
                    case measure => simp [intOf]; omega
        · go_wp2
          go_ret
          exact ⟨rfl, FB.base HBEG.out.f HF.out HBEG.out.f.size⟩

end Go.Proofs.Ytnjoefanafjniaa
