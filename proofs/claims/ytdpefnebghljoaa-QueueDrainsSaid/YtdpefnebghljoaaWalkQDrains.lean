/- The walk of QueueDrains. -/
import Derived.Test.YtdpefnebghljoaaQuO
namespace Go.Proofs.Ytdpefnebghljoaa
open Go.RowKit

set_option maxHeartbeats 8000000 in
set_option maxRecDepth 100000 in
theorem drains_walk (w : World) (a b c d e : Int) (g : Option Addr) (cap : Nat) (l : List Int) (who : Int) (ha : 0 ≤ a ∧ a ≤ 255) (hb : 0 ≤ b ∧ b ≤ 255) (hc : 0 ≤ c ∧ c ≤ 255) (hd : 0 ≤ d ∧ d ≤ 255) (he : 0 ≤ e ∧ e ≤ 255) (hl : U8At w g l) (hw0 : 0 ≤ who) (hw1 : who ≤ 255) :
    Calls Try.prog 6 #[.agg #[.int .u8 a, .int .u8 b, .int .u8 c, .int .u8 d, .int .u8 e], .slice g l.length cap, .int .u8 who] w fun e w' => e = .returned (.bool true) ∧ Fr [] w w' := by
  obtain ⟨i0, hi, hz0, hz1, hz2⟩ := info_parts info_int
  have HCONF := Lib.hid (fun W : World => rconf_any W a b c d e ha hb hc hd he)
  have HL := Lib.hid hl
  have hl63 := hl.1
  obtain ⟨len, hlen⟩ : ∃ n, n = l.length := ⟨_, rfl⟩
  rw [← hlen] at hl63 ⊢
  have HLEN := Lib.hid hlen
  clear hl hlen ha hb hc hd he
  go_enter Try.func6, Try.ntmps6
  go_wp2_with fail
  have F0 := (Fr.refl [] w).alloc (.cells #[.int .u8 a, .int .u8 b, .int .u8 c, .int .u8 d, .int .u8 e] 44)
  have hbk := heap_alloc_new w (.cells #[.int .u8 a, .int .u8 b, .int .u8 c, .int .u8 d, .int .u8 e] 44)
  refine (awake_any _).mono ?_
  rintro en w1 ⟨rfl, f1⟩
  have hb1 := f1.at hbk (by simp)
  have x0 := cell_of (i := 0) hb1 rfl
  have x1 := cell_of (i := 1) hb1 rfl
  have x2 := cell_of (i := 2) hb1 rfl
  have x3 := cell_of (i := 3) hb1 rfl
  have x4 := cell_of (i := 4) hb1 rfl
  have F1 := Lib.hid (F0.trans f1)
  clear hbk hb1 F0 f1
  by_cases hlong : (8 : Int) < (len : Int)
  · go_wp2
    go_ret
    exact ⟨rfl, F1.out⟩
  · go_wp2_with fail
    refine (HCONF.out _).mono ?_
    rintro en w2 ⟨cv, rfl, hsm, f2⟩
    obtain ⟨wo, sl, st, wa, us⟩ := cv
    have hft := hsm.fits
    have hsm1 := hsm.1
    simp only at hsm1
    have HSM := Lib.hid hsm
    have HFT := Lib.hid hft
    have F2 := Lib.hid (F1.out.trans f2)
    clear x0 x1 x2 x3 x4 hsm hft f2 HCONF
    unfold ConfV.val
    simp only
    have hbx := heap_alloc_new w2 (.cells #[.int .i64 wo, .int .i64 sl, .int .i64 st, .int .i64 wa, .int .i64 us] 25)
    have F2b := Lib.hid (F2.out.alloc (.cells #[.int .i64 wo, .int .i64 sl, .int .i64 st, .int .i64 wa, .int .i64 us] 25))
    have HLA := Lib.hid (HL.out.fr F2b.out)
    have q0 := cell_of (i := 0) hbx rfl
    have HBX := Lib.hid hbx
    obtain ⟨k, hk⟩ : ∃ k, k = who % wo := ⟨_, rfl⟩
    have hk0 : 0 ≤ k := by rw [hk]; exact Int.emod_nonneg _ (by omega)
    have hk1 : k < wo := by rw [hk]; exact Int.emod_lt_of_pos _ (by omega)
    have hkt : who % wo = k := hk.symm
    have HKT := Lib.hid hkt
    have hwo0 : ¬ wo = 0 := by omega
    clear hk hkt hbx
    go_wp2_with fail
    rw [HKT.out]
    generalize w2.alloc (.cells #[.int .i64 wo, .int .i64 sl, .int .i64 st, .int .i64 wa, .int .i64 us] 25) = w3 at HBX F2b HLA q0 ⊢
    generalize w2.heap.size = b6 at HBX q0 ⊢
    have hlined := lined_any w3 ⟨wo, sl, st, wa, us⟩ g cap l HFT.out HLA.out (by rw [← HLEN.out]; omega)
    rw [← HLEN.out] at hlined
    refine hlined.mono ?_
    rintro en w4 ⟨v4, rfl, hrow4, f4⟩
    obtain ⟨g2, c2, rfl, hI4⟩ := row_ints hrow4
    obtain ⟨hln, hln2⟩ := linedL_ln (wo := wo) (by omega) (by omega) l
    have hle := linedL_len wo l
    rw [← HLEN.out] at hle
    have hgb : ∀ a, g2 = some a → w3.heap.size ≤ a.block ∧ a.block < w4.heap.size := by intro a ha; subst ha; exact hrow4.lt a.block rfl
    obtain ⟨Q, hQ⟩ : ∃ Q, Q = linedL wo l := ⟨_, rfl⟩
    rw [show (linedL (ConfV.mk wo sl st wa us).wo l).length = Q.length by rw [hQ]]
    have HI4 := Lib.hid (show IntsAt w4 g2 Q by rw [hQ]; exact hI4)
    have HLNQ := Lib.hid (show Ln Q by rw [hQ]; exact hln)
    have HQW := Lib.hid (show ∀ x ∈ Q, 0 ≤ x ∧ x < wo by rw [hQ]; exact hln2)
    have HQL := Lib.hid (show Q.length ≤ 8 by rw [hQ]; omega)
    have HBX4 := Lib.hid (f4.at HBX.out (by simp)); have F4 := Lib.hid (F2b.out.trans f4)
    have HGB := Lib.hid hgb
    clear hI4 hln hln2 hle hQ hrow4 hlined f4 HBX F2b HLA q0 hgb HKT
    have q0 := cell_of (i := 0) HBX4.out rfl
    have q1 := cell_of (i := 1) HBX4.out rfl
    have q2 := cell_of (i := 2) HBX4.out rfl
    have q3 := cell_of (i := 3) HBX4.out rfl
    have q4 := cell_of (i := 4) HBX4.out rfl
    go_wp2_with fail
    have hs4 := F4.out.size
    refine (qlaid_any w4 ⟨wo, sl, st, wa, us⟩ 1 g2 c2 Q HFT.out HLNQ.out HI4.out).mono ?_
    rintro en w6 ⟨pm, qm, t1, rfl, hpm, hqm, ht1, hm6, f6⟩
    have HBX6 := Lib.hid (f6.at HBX4.out (by simp)); have HI6 := Lib.hid (HI4.out.fr f6 (by simp)); have F6 := Lib.hid (F4.out.trans f6)
    have HM6 := Lib.hid hm6
    have hs6 := f6.size; have hpml := hm6.plt; have hqml := hm6.qlt
    clear f6 hm6 q0 q1 q2 q3 q4
    have q0 := cell_of (i := 0) HBX6.out rfl; have q1 := cell_of (i := 1) HBX6.out rfl; have q2 := cell_of (i := 2) HBX6.out rfl; have q3 := cell_of (i := 3) HBX6.out rfl; have q4 := cell_of (i := 4) HBX6.out rfl
    go_wp2_with fail
    refine (drain_any w6 ⟨wo, sl, st, wa, us⟩).mono ?_
    rintro en w7 ⟨p, rfl, hp, hq7, f7⟩
    have HBX7 := Lib.hid (f7.at HBX6.out (by simp)); have HI7 := Lib.hid (HI6.out.fr f7 (by simp)); have F7 := Lib.hid (F6.out.trans f7)
    have HM7 := Lib.hid (HM6.out.fr f7 (by simp) (by simp))
    have HQ7 := Lib.hid hq7
    have hs7 := f7.size; have hpl := heap_lt (show w7.heap[p]? = some _ from hq7)
    clear f7 hq7 q0 q1 q2 q3 q4
    have q0 := cell_of (i := 0) HBX7.out rfl; have q1 := cell_of (i := 1) HBX7.out rfl; have q2 := cell_of (i := 2) HBX7.out rfl; have q3 := cell_of (i := 3) HBX7.out rfl; have q4 := cell_of (i := 4) HBX7.out rfl
    go_wp2_with fail
    refine (enter_any w7 ⟨wo, sl, st, wa, us⟩ k).mono ?_
    rintro en w8 ⟨px, rfl, hpx, hq8, f8⟩
    have HBX8 := Lib.hid (f8.at HBX7.out (by simp)); have HI8 := Lib.hid (HI7.out.fr f8 (by simp)); have F8 := Lib.hid (F7.out.trans f8)
    have HM8 := Lib.hid (HM7.out.fr f8 (by simp) (by simp))
    have HQ8 := Lib.hid (HQ7.out.fr f8 (by simp)); have HX8 := Lib.hid hq8
    have hs8 := f8.size
    have HNE := Lib.hid (show (p ≠ pm ∧ p ≠ qm) ∧ (px ≠ pm ∧ px ≠ qm) ∧ p ≠ px from by omega)
    have HG2 := Lib.hid (show ∀ a, g2 = some a → a.block ∉ [p, px, pm, qm] from fun a ha => by have := HGB.out a ha; simp; omega)
    have hb6 := heap_lt HBX4.out
    have HB6 := Lib.hid (show b6 ∉ [p, px, pm, qm] from by simp; omega)
    have HNW := Lib.hid (show w.heap.size ≤ p ∧ w.heap.size ≤ px ∧ w.heap.size ≤ pm ∧ w.heap.size ≤ qm from by omega)
    obtain ⟨hok, hmq⟩ := laid_ok HFT.out 1 HLNQ.out
    have hml := length_laidM ⟨wo, sl, st, wa, us⟩ 1 Q
    obtain ⟨N, hN⟩ : ∃ N : Nat, N = (ConfV.cells ⟨wo, sl, st, wa, us⟩).toNat := ⟨_, rfl⟩
    rw [← hN] at hml
    have HLN := Lib.hid (show 3 + 2 * wo ≤ (N : Int) ∧ 2 ≤ N from by
      have h1 := HFT.out.2.1
      simp only at h1
      simp only [ConfV.cells] at hN
      omega)
    have HM0 := Lib.hid (show ∃ M, MemAt 83 w8 pm qm M t1 ∧ MOk M ∧ M.length = N ∧ DrI wo Q 0 ⟨0, [], 0, .head, 0, 0⟩ M from
      ⟨_, HM8.out, hok, hml, [], Q, rfl, fun i h0 h1 => by rw [laid_2 _ _ _ (by omega)]; rfl, laid_0 HFT.out 1 Q, Ln.nil, .inl ⟨rfl, rfl, hmq⟩⟩)
    clear hs4 hs6 hs7 hs8 hb6 hpl hpml hqml hpm hqm hp hpx hok hmq hml hN f8 hq8 HM8 HM7 HM6 HQ7 q0 q1 q2 q3 q4 HI4 HI6 HI7 HBX6 HBX7
    go_wp2_with fail
    go_loopw [14] (fun i wr => ∃ (j : Nat) (t : Int) (M : List Int) (s : QuS), j ≤ 40 ∧ i = .int .i64 (j : Int) ∧ (0 ≤ t ∧ t ≤ 2 + j) ∧ QuAt wr p ⟨wo, sl, st, wa, us⟩ s ∧ MemAt 83 wr pm qm M t ∧ MOk M ∧ M.length = N ∧ DrI wo Q j s M ∧ Fr [p, pm, qm] w8 wr) (fun i _ => 40 - (intOf i).toNat)
    case atStart =>
      obtain ⟨M, h1, h2, h4, h3⟩ := HM0.out
      exact ⟨0, t1, M, _, by omega, rfl, ⟨by omega, by omega⟩, HQ8.out, h1, h2, h4, h3, Fr.refl _ _⟩
    case round =>
      obtain ⟨j, t, M, s, hj, rfl, ht, hq, hm, hmo, hml, hdr, hf⟩ := hrel
      by_cases hlt : j < 40
      · have hlt' : (j : Int) < 40 := by omega
        obtain ⟨g1, g2', g3⟩ := dr_step (c := ⟨wo, sl, st, wa, us⟩) hdr rfl hsm1.1 HQW.out HLNQ.out hmo (by rw [hml]; exact HLN.out.1)
        have HST := Lib.hid (qstep_fn wr p pm qm ⟨wo, sl, st, wa, us⟩ s M t hq hm (by omega) (by omega) HNE.out.1 HFT.out (hdr.ok _ rfl HQW.out) hmo (by rw [hml]; exact HLN.out.1))
        have HF := Lib.hid hf
        rw [hml] at g3
        have HG := Lib.hid (And.intro g1 (And.intro g2' g3))
        clear hq hm hf hdr hmo hml g1 g2' g3
        go_wp2_with fail
        refine HST.out.mono ?_
        rintro en w12 ⟨rfl, hq, hm, hf⟩
        have HQ9 := Lib.hid hq; have HM9 := Lib.hid hm; have HF9 := Lib.hid (HF.out.trans hf)
        clear hq hm hf HST
        have ht9 : 0 ≤ qT s ∧ qT s ≤ 1 := qT_1 s
        go_wp2
        go_roundw
        case rel => exact ⟨j + 1, _, _, _, by omega, by go_num, ⟨by omega, by omega⟩, HQ9.out, HM9.out, HG.out.2.1, HG.out.2.2, HG.out.1, HF9.out⟩
        case measure => simp [intOf]; omega
      · obtain rfl : j = 40 := by omega
        rw [show ((40 : Nat) : Int) = 40 from rfl] at ht ⊢
        obtain ⟨hn, he, hQc, h0, htold⟩ := hdr.end HQL.out
        have HL1 := Lib.hid (show loadV M 1 = 0 by rw [hmo.2.2, hQc]; rfl)
        have HL0 := Lib.hid h0; have HTO := Lib.hid htold; have HMO := Lib.hid hmo; have HML := Lib.hid hml; have HQC := Lib.hid hQc
        have HF := Lib.hid hf; have HMr := Lib.hid hm
        have hran := answer_any wr p ⟨wo, sl, st, wa, us⟩ s hq
        rw [hn, he, show QSt.done.fn.isNone = true from rfl] at hran
        have HAN := Lib.hid hran
        clear hf hm hq hdr hmo hml hQc hn he hran hlt hj h0 htold
        go_wp2_with fail
        refine HAN.out.mono ?_
        rintro en w9 ⟨rfl, f9⟩
        have HLD := Lib.hid (load_any w9 pm qm M t 1 (HMr.out.fr f9 (by simp) (by simp)) (by omega) (by omega))
        have F9 := Lib.hid (HF.out.trans (f9.mono (by simp)))
        clear f9 HAN
        go_wp2_with fail
        refine HLD.out.mono ?_
        rintro en w10 ⟨rfl, hm10, f10⟩
        rw [HL1.out]
        have htc := tch_0 M 1
        obtain ⟨t10, ht10⟩ : ∃ t10, t10 = t + tch M 1 := ⟨_, rfl⟩
        rw [← ht10] at hm10
        have HT10 := Lib.hid (show 0 ≤ t10 ∧ t10 ≤ 50 from by omega)
        have HM10 := Lib.hid hm10
        have F10 := Lib.hid (F9.out.trans (f10.mono (S' := [p, pm, qm]) (by simp +contextual)))
        have HBX10 := Lib.hid (F10.out.at HBX8.out (by have := HB6.out; simp at this ⊢; omega))
        have HX10 := Lib.hid (HX8.out.fr F10.out (by have := HNE.out; simp; omega))
        have HI10 := Lib.hid (HI8.out.fr F10.out (fun a ha => by have := HG2.out a ha; simp at this ⊢; omega))
        clear hm10 f10 HLD htc ht10 F9 HMr HF
        go_wp2_with fail
        go_loopw [17] (fun i wz => ∃ (j : Nat) (t : Int), (j : Int) ≤ wo ∧ i = .int .i64 (j : Int) ∧ (0 ≤ t ∧ t ≤ 50 + 2 * j) ∧ MemAt 83 wz pm qm M t ∧ Fr [pm, qm] w10 wz) (fun i _ => wo.toNat - (intOf i).toNat)
        case atStart => exact ⟨0, t10, by omega, rfl, by have := HT10.out; omega, HM10.out, Fr.refl _ _⟩
        case round =>
          obtain ⟨j, t, hj, rfl, ht, hm, hf⟩ := hrel
          have HBXr := Lib.hid (hf.at HBX10.out (by have := HB6.out; simp at this ⊢; omega))
          have q0 := cell_of (i := 0) HBXr.out rfl; have q1 := cell_of (i := 1) HBXr.out rfl; have q2 := cell_of (i := 2) HBXr.out rfl; have q3 := cell_of (i := 3) HBXr.out rfl; have q4 := cell_of (i := 4) HBXr.out rfl
          by_cases hlt : (j : Int) < wo
          · have HHAS := Lib.hid (ref_has_any wr g2 c2 Q (j : Int) (HI10.out.fr hf (fun a ha => by have := HG2.out a ha; simp at this ⊢; omega)))
            have HTJ := Lib.hid (HTO.out (j : Int) (by omega) hlt)
            have HF := Lib.hid hf; have HMr := Lib.hid hm
            clear hf hm
            go_wp2_with fail
            refine HHAS.out.mono ?_
            rintro en w11 ⟨rfl, f11⟩
            have HF11 := Lib.hid (HF.out.trans (f11.mono (by simp)))
            have HM11 := Lib.hid (HMr.out.fr f11 (by simp) (by simp))
            have q0 := f11.cell q0 (by simp); have q1 := f11.cell q1 (by simp); have q2 := f11.cell q2 (by simp); have q3 := f11.cell q3 (by simp); have q4 := f11.cell q4 (by simp)
            have HG11 := Lib.hid (fun W : World => rgrant_any W ⟨wo, sl, st, wa, us⟩ (j : Int) HFT.out (by omega) hlt)
            have HBN := Lib.hid (show b6 ∉ [pm, qm] from by have := HB6.out; simp at this ⊢; omega)
            clear f11
            by_cases hin : (j : Int) ∈ Q
            · rw [decide_eq_true hin]
              have HTJ1 := Lib.hid (show loadV M (3 + wo + j) = -1 by rw [HTJ.out, if_pos hin])
              clear hin
              go_wp2_with fail
              refine (HG11.out w11).mono ?_
              rintro en w12 ⟨rfl, f12⟩
              have HLD12 := Lib.hid (load_any w12 pm qm M t (3 + wo + (j : Int)) (HM11.out.fr f12 (by simp) (by simp)) (by omega) (by omega))
              have HF12 := Lib.hid (HF11.out.trans (f12.mono (by simp)))
              have q0 := f12.cell q0 (by simp); have q1 := f12.cell q1 (by simp); have q2 := f12.cell q2 (by simp); have q3 := f12.cell q3 (by simp); have q4 := f12.cell q4 (by simp)
              clear f12
              go_wp2_with fail
              refine HLD12.out.mono ?_
              rintro en w13 ⟨rfl, hm13, f13⟩
              rw [HTJ1.out]
              have htc13 := tch_0 M (3 + wo + (j : Int))
              obtain ⟨t13, ht13⟩ : ∃ t', t' = t + tch M (3 + wo + (j : Int)) := ⟨_, rfl⟩
              rw [← ht13] at hm13
              have hb13 : 0 ≤ t13 ∧ t13 ≤ t + 1 := by omega
              have HM13 := Lib.hid hm13; have HF13 := Lib.hid (HF12.out.trans f13)
              have q0 := f13.cell q0 HBN.out; have q1 := f13.cell q1 HBN.out; have q2 := f13.cell q2 HBN.out; have q3 := f13.cell q3 HBN.out; have q4 := f13.cell q4 HBN.out
              clear hm13 f13 HLD12 ht13 htc13
              go_wp2
              go_roundw
              case rel => exact ⟨j + 1, t13, by omega, by go_num, by omega, HM13.out, HF13.out⟩
              case measure => simp [intOf]; omega
            · rw [decide_eq_false hin]
              have HTJ1 := Lib.hid (show loadV M (3 + wo + j) = 0 by rw [HTJ.out, if_neg hin])
              clear hin
              go_wp2_with fail
              refine (HG11.out w11).mono ?_
              rintro en w12 ⟨rfl, f12⟩
              have HLD12 := Lib.hid (load_any w12 pm qm M t (3 + wo + (j : Int)) (HM11.out.fr f12 (by simp) (by simp)) (by omega) (by omega))
              have HF12 := Lib.hid (HF11.out.trans (f12.mono (by simp)))
              have q0 := f12.cell q0 (by simp); have q1 := f12.cell q1 (by simp); have q2 := f12.cell q2 (by simp); have q3 := f12.cell q3 (by simp); have q4 := f12.cell q4 (by simp)
              clear f12
              go_wp2_with fail
              refine HLD12.out.mono ?_
              rintro en w13 ⟨rfl, hm13, f13⟩
              rw [HTJ1.out]
              have htc13 := tch_0 M (3 + wo + (j : Int))
              obtain ⟨t13, ht13⟩ : ∃ t', t' = t + tch M (3 + wo + (j : Int)) := ⟨_, rfl⟩
              rw [← ht13] at hm13
              have hb13 : 0 ≤ t13 ∧ t13 ≤ t + 1 := by omega
              have HM13 := Lib.hid hm13; have HF13 := Lib.hid (HF12.out.trans f13)
              have q0 := f13.cell q0 HBN.out; have q1 := f13.cell q1 HBN.out; have q2 := f13.cell q2 HBN.out; have q3 := f13.cell q3 HBN.out; have q4 := f13.cell q4 HBN.out
              clear hm13 f13 HLD12 ht13 htc13
              go_wp2_with fail
              refine (HG11.out w13).mono ?_
              rintro en w14 ⟨rfl, f14⟩
              have HLD14 := Lib.hid (load_any w14 pm qm M t13 (3 + wo + (j : Int)) (HM13.out.fr f14 (by simp) (by simp)) (by omega) (by omega))
              have HF14 := Lib.hid (HF13.out.trans (f14.mono (by simp)))
              have q0 := f14.cell q0 (by simp); have q1 := f14.cell q1 (by simp); have q2 := f14.cell q2 (by simp); have q3 := f14.cell q3 (by simp); have q4 := f14.cell q4 (by simp)
              clear f14
              go_wp2_with fail
              refine HLD14.out.mono ?_
              rintro en w15 ⟨rfl, hm15, f15⟩
              rw [HTJ1.out]
              have htc15 := tch_0 M (3 + wo + (j : Int))
              obtain ⟨t15, ht15⟩ : ∃ t', t' = t13 + tch M (3 + wo + (j : Int)) := ⟨_, rfl⟩
              rw [← ht15] at hm15
              have hb15 : 0 ≤ t15 ∧ t15 ≤ t13 + 1 := by omega
              have HM15 := Lib.hid hm15; have HF15 := Lib.hid (HF14.out.trans f15)
              have q0 := f15.cell q0 HBN.out; have q1 := f15.cell q1 HBN.out; have q2 := f15.cell q2 HBN.out; have q3 := f15.cell q3 HBN.out; have q4 := f15.cell q4 HBN.out
              clear hm15 f15 HLD14 ht15 htc15
              go_wp2
              go_roundw
              case rel => exact ⟨j + 1, t15, by omega, by go_num, by omega, HM15.out, HF15.out⟩
              case measure => simp [intOf]; omega
          · have hjw : (j : Int) = wo := by omega
            have HXr := Lib.hid (HX10.out.fr hf (by have := HNE.out; simp; omega))
            have HMr := Lib.hid hm; have HFr := Lib.hid hf
            have HC0 := Lib.hid (show CoI wa k 0 ⟨k, [], 0, .come, 0, 0⟩ (mQ M) from .inl ⟨rfl, rfl, HQC.out⟩)
            have htw : 0 ≤ t ∧ t ≤ 80 := by omega
            have hwo8 := HFT.out.1
            have HK := Lib.hid (show 0 ≤ k ∧ k ≤ 14 by simp only at hwo8; omega)
            rw [hjw] at hlt ⊢
            have hnlt : ¬ wo < wo := by omega
            clear hf hm hj hlt hjw ht q0 q1 q2 q3 q4
            have q0 := cell_of (i := 0) HBXr.out rfl
            go_wp2_with fail
            go_loopw [19] (fun i wz => ∃ (j : Nat) (t : Int) (M : List Int) (s : QuS), j ≤ 9 ∧ i = .int .i64 (j : Int) ∧ (0 ≤ t ∧ t ≤ 80 + j) ∧ QuAt wz px ⟨wo, sl, st, wa, us⟩ s ∧ MemAt 83 wz pm qm M t ∧ MOk M ∧ M.length = N ∧ loadV M 0 = 1 ∧ CoI wa k j s (mQ M) ∧ Fr [px, pm, qm] wr wz) (fun i _ => 9 - (intOf i).toNat)
            case atStart => exact ⟨0, t, M, _, by omega, rfl, by omega, HXr.out, HMr.out, HMO.out, HML.out, HL0.out, HC0.out, Fr.refl _ _⟩
            case round =>
              obtain ⟨j, t, M, s, hj, rfl, ht, hq, hm, hmo, hml, h0, hco, hf⟩ := hrel
              by_cases hlt : j < 9
              · have hlt' : (j : Int) < 9 := by omega
                obtain ⟨g1, g2', g3, g4⟩ := co_step (c := ⟨wo, sl, st, wa, us⟩) hco hmo HK.out.1 HK.out.2 h0
                have HST := Lib.hid (qstep_fn wr px pm qm ⟨wo, sl, st, wa, us⟩ s M t hq hm (by omega) (by omega) HNE.out.2.1 HFT.out (hco.ok _ HK.out.1 HK.out.2) hmo (by rw [hml]; exact HLN.out.1))
                have HF := Lib.hid hf
                rw [hml] at g3
                have HG := Lib.hid (And.intro g1 (And.intro g2' (And.intro g3 g4)))
                clear hq hm hf hco hmo hml g1 g2' g3 g4 h0
                go_wp2_with fail
                refine HST.out.mono ?_
                rintro en w12 ⟨rfl, hq, hm, hf⟩
                have HQ9 := Lib.hid hq; have HM9 := Lib.hid hm; have HF9 := Lib.hid (HF.out.trans hf)
                clear hq hm hf HST
                have ht9 : 0 ≤ qT s ∧ qT s ≤ 1 := qT_1 s
                go_wp2
                go_roundw
                case rel => exact ⟨j + 1, _, _, _, by omega, by go_num, ⟨by omega, by omega⟩, HQ9.out, HM9.out, HG.out.2.1, HG.out.2.2.1, HG.out.2.2.2, HG.out.1, HF9.out⟩
                case measure => simp [intOf]; omega
              · obtain rfl : j = 9 := by omega
                rw [show ((9 : Nat) : Int) = 9 from rfl] at ht ⊢
                obtain ⟨hn, hQc, hfin⟩ := hco.end
                have HL1 := Lib.hid (show loadV M 1 = 0 by rw [hmo.2.2, hQc]; rfl)
                have HF := Lib.hid (HFr.out.mono (S' := [px, pm, qm]) (by simp +contextual) |>.trans hf); have HMr := Lib.hid hm
                have HBX := Lib.hid (hf.at HBXr.out (by have := HB6.out; simp at this ⊢; omega))
                have q3 := cell_of (i := 3) HBX.out rfl
                have hran := answer_any wr px ⟨wo, sl, st, wa, us⟩ s hq
                rw [hn, show QSt.done.fn.isNone = true from rfl] at hran
                rcases hfin with ⟨hwa, he⟩ | ⟨hwa, he⟩
                · rw [he] at hran
                  have HAN := Lib.hid hran
                  obtain rfl : wa = 0 := by have := HFT.out.2.2.2.1; simp only at this; omega
                  clear hf hm hq hco hmo hQc hn he hran hlt hj h0 q0
                  go_wp2_with fail
                  refine HAN.out.mono ?_
                  rintro en w13 ⟨rfl, f13⟩
                  have q3 := f13.cell q3 (by simp)
                  have HEND := Lib.hid (show Fr [] w w13 from by
                    have hn := HNW.out
                    have x1 := F8.out.then F10.out (fun x hx => by simp at hx; rcases hx with rfl | rfl | rfl <;> exact .inr (by omega))
                    exact (x1.then HF.out (fun x hx => by simp at hx; rcases hx with rfl | rfl | rfl <;> exact .inr (by omega))).trans f13)
                  clear f13 HAN
                  go_wp2
                  go_ret
                  exact ⟨rfl, HEND.out⟩
                · rw [he] at hran
                  have HAN := Lib.hid hran
                  have hwa0 : ¬ wa = 0 := by omega
                  clear hf hm hq hco hmo hQc hn he hran hlt hj h0 q0
                  go_wp2_with fail
                  refine HAN.out.mono ?_
                  rintro en w13 ⟨rfl, f13⟩
                  have q3 := f13.cell q3 (by simp)
                  have HLD := Lib.hid (load_any w13 pm qm M t 1 (HMr.out.fr f13 (by simp) (by simp)) (by omega) (by omega))
                  have HF13 := Lib.hid (HF.out.trans (f13.mono (by simp)))
                  clear f13 HAN
                  go_wp2_with fail
                  refine HLD.out.mono ?_
                  rintro en w14 ⟨rfl, hm14, f14⟩
                  rw [HL1.out]
                  have HEND := Lib.hid (show Fr [] w w14 from by
                    have hn := HNW.out
                    have x1 := F8.out.then F10.out (fun x hx => by simp at hx; rcases hx with rfl | rfl | rfl <;> exact .inr (by omega))
                    exact (x1.then HF13.out (fun x hx => by simp at hx; rcases hx with rfl | rfl | rfl <;> exact .inr (by omega))).then2 f14 (by omega) (by omega))
                  clear hm14 f14 HLD
                  go_wp2
                  go_ret
                  exact ⟨rfl, HEND.out⟩

end Go.Proofs.Ytdpefnebghljoaa
