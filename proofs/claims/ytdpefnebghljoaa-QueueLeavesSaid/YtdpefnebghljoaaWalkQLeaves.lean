/- The walk of QueueLeaves. -/
import Derived.Test.YtdpefnebghljoaaQuN
namespace Go.Proofs.Ytdpefnebghljoaa
open Go.RowKit

set_option maxHeartbeats 8000000 in
set_option maxRecDepth 100000 in
theorem leaves_walk (w : World) (a b c d e : Int) (g : Option Addr) (cap : Nat) (l : List Int) (who wn : Int) (ha : 0 ≤ a ∧ a ≤ 255) (hb : 0 ≤ b ∧ b ≤ 255) (hc : 0 ≤ c ∧ c ≤ 255) (hd : 0 ≤ d ∧ d ≤ 255) (he : 0 ≤ e ∧ e ≤ 255) (hl : U8At w g l) (hw0 : 0 ≤ who) (hw1 : who ≤ 255) (hn0 : 0 ≤ wn) (hn1 : wn ≤ 255) :
    Calls Try.prog 4 #[.agg #[.int .u8 a, .int .u8 b, .int .u8 c, .int .u8 d, .int .u8 e], .slice g l.length cap, .int .u8 who, .int .u8 wn] w fun e w' => e = .returned (.bool true) ∧ Fr [] w w' := by
  obtain ⟨i0, hi, hz0, hz1, hz2⟩ := info_parts info_int
  have HCONF := Lib.hid (fun W : World => rconf_any W a b c d e ha hb hc hd he)
  have HL := Lib.hid hl
  have hl63 := hl.1
  obtain ⟨len, hlen⟩ : ∃ n, n = l.length := ⟨_, rfl⟩
  rw [← hlen] at hl63 ⊢
  have HLEN := Lib.hid hlen
  clear hl hlen ha hb hc hd he
  go_enter Try.func4, Try.ntmps4
  go_wp2_with fail
  have F0 := (Fr.refl [] w).alloc (.cells #[.int .u8 a, .int .u8 b, .int .u8 c, .int .u8 d, .int .u8 e] 44)
  have hbk := heap_alloc_new w (.cells #[.int .u8 a, .int .u8 b, .int .u8 c, .int .u8 d, .int .u8 e] 44)
  refine (awake_any _).mono ?_
  rintro en w1 ⟨rfl, f1⟩
  have hb1 := f1.at hbk (by simp)
  have x0 := cell_of (i := 0) hb1 rfl
  have x1 := cell_of (i := 1) hb1 rfl
  have x2 := cell_of (i := 2) hb1 rfl
  have x3 := cell_of (i := 3) hb1 rfl
  have x4 := cell_of (i := 4) hb1 rfl
  have F1 := Lib.hid (F0.trans f1)
  clear hbk hb1 F0 f1
  by_cases hlong : (8 : Int) < (len : Int)
  · go_wp2
    go_ret
    exact ⟨rfl, F1.out⟩
  · go_wp2_with fail
    refine (HCONF.out _).mono ?_
    rintro en w2 ⟨cv, rfl, hsm, f2⟩
    obtain ⟨wo, sl, st, wa, us⟩ := cv
    have hft := hsm.fits
    have hsm1 := hsm.1
    simp only at hsm1
    have HSM := Lib.hid hsm
    have HFT := Lib.hid hft
    have F2 := Lib.hid (F1.out.trans f2)
    clear x0 x1 x2 x3 x4 hsm hft f2 HCONF
    unfold ConfV.val
    simp only
    have hbx := heap_alloc_new w2 (.cells #[.int .i64 wo, .int .i64 sl, .int .i64 st, .int .i64 wa, .int .i64 us] 25)
    have F2b := Lib.hid (F2.out.alloc (.cells #[.int .i64 wo, .int .i64 sl, .int .i64 st, .int .i64 wa, .int .i64 us] 25))
    have HLA := Lib.hid (HL.out.fr F2b.out)
    have q0 := cell_of (i := 0) hbx rfl
    have HBX := Lib.hid hbx
    obtain ⟨k, hk⟩ : ∃ k, k = who % wo := ⟨_, rfl⟩
    have hk0 : 0 ≤ k := by rw [hk]; exact Int.emod_nonneg _ (by omega)
    have hk1 : k < wo := by rw [hk]; exact Int.emod_lt_of_pos _ (by omega)
    have hkt : who % wo = k := hk.symm
    have HKT := Lib.hid hkt
    have hwo0 : ¬ wo = 0 := by omega
    clear hk hkt hbx
    go_wp2_with fail
    rw [HKT.out]
    generalize w2.alloc (.cells #[.int .i64 wo, .int .i64 sl, .int .i64 st, .int .i64 wa, .int .i64 us] 25) = w3 at HBX F2b HLA q0 ⊢
    generalize w2.heap.size = b6 at HBX q0 ⊢
    have hlined := lined_any w3 ⟨wo, sl, st, wa, us⟩ g cap l HFT.out HLA.out (by rw [← HLEN.out]; omega)
    rw [← HLEN.out] at hlined
    refine hlined.mono ?_
    rintro en w4 ⟨v4, rfl, hrow4, f4⟩
    obtain ⟨g2, c2, rfl, hI4⟩ := row_ints hrow4
    obtain ⟨hln, hln2⟩ := linedL_ln (wo := wo) (by omega) (by omega) l
    have hle := linedL_len wo l
    rw [← HLEN.out] at hle
    have hgb : ∀ a, g2 = some a → w3.heap.size ≤ a.block ∧ a.block < w4.heap.size := by intro a ha; subst ha; exact hrow4.lt a.block rfl
    obtain ⟨Q, hQ⟩ : ∃ Q, Q = linedL wo l := ⟨_, rfl⟩
    rw [show (linedL (ConfV.mk wo sl st wa us).wo l).length = Q.length by rw [hQ]]
    have HI4 := Lib.hid (show IntsAt w4 g2 Q by rw [hQ]; exact hI4)
    have HLNQ := Lib.hid (show Ln Q by rw [hQ]; exact hln)
    have HQW := Lib.hid (show ∀ x ∈ Q, 0 ≤ x ∧ x < wo by rw [hQ]; exact hln2)
    have HQL := Lib.hid (show Q.length ≤ 8 by rw [hQ]; omega)
    have HBX4 := Lib.hid (f4.at HBX.out (by simp)); have F4 := Lib.hid (F2b.out.trans f4)
    have HGB := Lib.hid hgb
    clear hI4 hln hln2 hle hQ hrow4 hlined f4 HBX F2b HLA q0 hgb HKT
    have q0 := cell_of (i := 0) HBX4.out rfl
    have q1 := cell_of (i := 1) HBX4.out rfl
    have q2 := cell_of (i := 2) HBX4.out rfl
    have q3 := cell_of (i := 3) HBX4.out rfl
    have q4 := cell_of (i := 4) HBX4.out rfl
    go_wp2_with fail
    refine (ref_has_any w4 g2 c2 Q k HI4.out).mono ?_
    rintro en w5 ⟨rfl, f5⟩
    have HBX5 := Lib.hid (f5.at HBX4.out (by simp)); have HI5 := Lib.hid (HI4.out.fr f5 (by simp)); have F5 := Lib.hid (F4.out.trans f5)
    have hs5 := f5.size
    clear f5 q0 q1 q2 q3 q4
    have q0 := cell_of (i := 0) HBX5.out rfl; have q1 := cell_of (i := 1) HBX5.out rfl; have q2 := cell_of (i := 2) HBX5.out rfl; have q3 := cell_of (i := 3) HBX5.out rfl; have q4 := cell_of (i := 4) HBX5.out rfl
    go_wp2_with fail
    refine (qlaid_any w5 ⟨wo, sl, st, wa, us⟩ 0 g2 c2 Q HFT.out HLNQ.out HI5.out).mono ?_
    rintro en w6 ⟨pm, qm, t1, rfl, hpm, hqm, ht1, hm6, f6⟩
    have HBX6 := Lib.hid (f6.at HBX5.out (by simp)); have HI6 := Lib.hid (HI5.out.fr f6 (by simp)); have F6 := Lib.hid (F5.out.trans f6)
    have HM6 := Lib.hid hm6
    have hs6 := f6.size; have hpml := hm6.plt; have hqml := hm6.qlt
    clear f6 hm6 q0 q1 q2 q3 q4
    have q0 := cell_of (i := 0) HBX6.out rfl; have q1 := cell_of (i := 1) HBX6.out rfl; have q2 := cell_of (i := 2) HBX6.out rfl; have q3 := cell_of (i := 3) HBX6.out rfl; have q4 := cell_of (i := 4) HBX6.out rfl
    go_wp2_with fail
    refine (leave_any w6 ⟨wo, sl, st, wa, us⟩ k).mono ?_
    rintro en w7 ⟨p, rfl, hp, hq7, f7⟩
    have HI7 := Lib.hid (HI6.out.fr f7 (by simp)); have F7 := Lib.hid (F6.out.trans f7)
    have HM7 := Lib.hid (HM6.out.fr f7 (by simp) (by simp))
    have HQ7 := Lib.hid hq7
    have hs7 := f7.size; have hpl := heap_lt (show w7.heap[p]? = some _ from hq7)
    clear f7 hq7 q0 q1 q2 q3 q4
    have HDR := Lib.hid (ref_drop_own w7 g2 c2 Q k (by have := HQL.out; omega) HI7.out)
    go_wp2_with fail
    refine HDR.out.mono ?_
    rintro en w8 ⟨v8, rfl, hown, f8⟩
    obtain ⟨g8, c8, rfl, hI8⟩ := row_ints hown
    have hg8 : ∀ a, g8 = some a → w7.heap.size ≤ a.block := by intro a ha; subst ha; exact (hown.lt a.block rfl).1
    have HI8 := Lib.hid hI8
    obtain ⟨R, hR⟩ : ∃ R, R = rm Q k := ⟨_, rfl⟩
    rw [← hR] at HI8 ⊢
    have HR := Lib.hid hR
    have HLR := Lib.hid (show Ln R by rw [hR]; exact HLNQ.out.rm k)
    have HNE := Lib.hid (show p ≠ pm ∧ p ≠ qm from by omega)
    have HG8 := Lib.hid (show ∀ a, g8 = some a → a.block ∉ [p, pm, qm] from fun a ha => by have := hg8 a ha; simp; omega)
    have hs0 := F5.out.size; have hs00 := F6.out.size
    have HNW := Lib.hid (show w.heap.size ≤ p ∧ w.heap.size ≤ pm ∧ w.heap.size ≤ qm from by omega)
    have HQ8 := Lib.hid (HQ7.out.fr f8 (by simp)); have HM8 := Lib.hid (HM7.out.fr f8 (by simp) (by simp)); have F8 := Lib.hid (F7.out.trans f8)
    obtain ⟨hok, hmq⟩ := laid_ok HFT.out 0 HLNQ.out
    have hml := length_laidM ⟨wo, sl, st, wa, us⟩ 0 Q
    obtain ⟨N, hN⟩ : ∃ N : Nat, N = (ConfV.cells ⟨wo, sl, st, wa, us⟩).toNat := ⟨_, rfl⟩
    rw [← hN] at hml
    have HLN := Lib.hid (show 3 + 2 * wo ≤ (N : Int) ∧ 2 ≤ N from by
      have h1 := HFT.out.2.1
      simp only at h1
      simp only [ConfV.cells] at hN
      omega)
    have HM0 := Lib.hid (show ∃ M, MemAt 83 w8 pm qm M t1 ∧ MOk M ∧ mQ M = Q ∧ M.length = N from ⟨_, HM8.out, hok, hmq, hml⟩)
    clear hown hI8 hg8 hR hs0 hs00 hs5 hs6 hs7 hpl hpml hqml hpm hqm hp hok hmq hml hN f8 HM8 HM7 HM6 HQ7
    go_wp2_with fail
    go_loopw [13, 17] (fun bv i wr => ∃ (j : Nat) (t : Int) (M : List Int) (s : QuS) (b : Bool), j ≤ 9 ∧ i = .int .i64 (j : Int) ∧ bv = .bool b ∧ (0 ≤ t ∧ t ≤ 2 + 2 * j) ∧ QuAt wr p ⟨wo, sl, st, wa, us⟩ s ∧ MemAt 83 wr pm qm M t ∧ MOk M ∧ M.length = N ∧ LvI k Q wn j s (mQ M) b ∧ Fr [p, pm, qm] w8 wr) (fun _ i _ => 9 - (intOf i).toNat)
    case atStart =>
      obtain ⟨M, h1, h2, h3, h4⟩ := HM0.out
      exact ⟨0, t1, M, _, _, by omega, rfl, rfl, ⟨by omega, by omega⟩, HQ8.out, h1, h2, h4, .inl ⟨rfl, rfl, h3, rfl⟩, Fr.refl _ _⟩
    case round =>
      obtain ⟨j, t, M, s, b, hj, rfl, rfl, ht, hq, hm, hmo, hml, hlv, hf⟩ := hrel
      by_cases hlt : j < 9
      · have hlt' : (j : Int) < 9 := by omega
        by_cases hw : (j : Int) = wn
        · subst hw
          by_cases h2 : (j : Int) < 2
          · have hlok := hlv.ok HLNQ.out ⟨wo, sl, st, wa, us⟩
            have HF := Lib.hid hf; have HLV := Lib.hid hlv; have HQr := Lib.hid hq; have HMr := Lib.hid hm; have HOK := Lib.hid hlok; have HMO := Lib.hid hmo; have HML := Lib.hid hml
            have HWD := Lib.hid (ref_word_any wr g8 c8 R HLR.out ((HI8.out.fr hf (fun a ha => HG8.out a ha))))
            clear hf hlv hq hm hlok hmo hml
            go_wp2_with fail
            refine HWD.out.mono ?_
            rintro en w9 ⟨rfl, f9⟩
            have HSR := Lib.hid (store_any w9 pm qm M t 1 (wd R : Int) (HMr.out.fr f9 (by simp) (by simp)) (by omega) (by omega))
            have HF9 := Lib.hid (HF.out.trans (f9.mono (by simp)))
            have HQ9 := Lib.hid (HQr.out.fr f9 (by simp))
            clear f9 HWD
            go_wp2_with fail
            refine HSR.out.mono ?_
            rintro en w10 ⟨rfl, hm10, f10⟩
            have hMM : storeL M 1 (wd R : Int) = M.set 1 (wd R : Int) := by unfold storeL; rw [if_pos (isIn_yes (by omega) (by rw [HML.out]; have := HLN.out.2; omega))]; rfl
            rw [hMM] at hm10
            have htc := tch_0 M 1
            obtain ⟨hmo2, hmq2⟩ := MOk.set (M := M) HMO.out.1 HLR.out
            obtain ⟨g1, g2'⟩ := lv_taken ⟨wo, sl, st, wa, us⟩ HLV.out rfl (by omega) hmo2 HLNQ.out (by rw [hmq2, HR.out])
            have HG := Lib.hid (And.intro g1 g2'); have HMO2 := Lib.hid hmo2
            have HST := Lib.hid (qstep_fn w10 p pm qm ⟨wo, sl, st, wa, us⟩ s (M.set 1 (wd R : Int)) (t + tch M 1) (HQ9.out.fr f10 (by have := HNE.out; simp; omega)) hm10 (by omega) (by omega) HNE.out HFT.out HOK.out hmo2 (by rw [List.length_set, HML.out]; exact HLN.out.1))
            have HF10 := Lib.hid (HF9.out.trans (f10.mono (S' := [p, pm, qm]) (by simp +contextual)))
            clear hm10 f10 hMM hmo2 hmq2 g1 g2' HSR HF HF9
            go_wp2_with fail
            refine HST.out.mono ?_
            rintro en w12 ⟨rfl, hq, hm, hf⟩
            have HQ9 := Lib.hid hq; have HM9 := Lib.hid hm; have HF9 := Lib.hid (HF10.out.trans hf)
            clear hq hm hf HST
            have ht9 : 0 ≤ qT s ∧ qT s ≤ 1 := qT_1 s
            go_wp2
            go_roundw
            case rel => exact ⟨j + 1, _, _, _, false, by omega, by go_num, rfl, ⟨by omega, by omega⟩, HQ9.out, HM9.out, by rw [HG.out.2]; exact HMO2.out, by rw [HG.out.2, List.length_set]; exact HML.out, HG.out.1, HF9.out⟩
            case measure => simp [intOf]; omega
          · have hjj : (j : Int) = (j : Int) := rfl
            clear hjj
            obtain ⟨g1, g2', g3⟩ := lv_not ⟨wo, sl, st, wa, us⟩ hlv (by omega) hmo HLNQ.out
            have HST := Lib.hid (qstep_fn wr p pm qm ⟨wo, sl, st, wa, us⟩ s M t hq hm (by omega) (by omega) HNE.out HFT.out (hlv.ok HLNQ.out _) hmo (by rw [hml]; exact HLN.out.1))
            have HF := Lib.hid hf
            rw [hml] at g3
            have HG := Lib.hid (And.intro g1 (And.intro g2' g3))
            clear hq hm hf hlv hmo hml g1 g2' g3
            go_wp2_with fail
            refine HST.out.mono ?_
            rintro en w12 ⟨rfl, hq, hm, hf⟩
            have HQ9 := Lib.hid hq; have HM9 := Lib.hid hm; have HF9 := Lib.hid (HF.out.trans hf)
            clear hq hm hf HST
            have ht9 : 0 ≤ qT s ∧ qT s ≤ 1 := qT_1 s
            go_wp2
            go_roundw
            case rel => exact ⟨j + 1, _, _, _, b, by omega, by go_num, rfl, ⟨by omega, by omega⟩, HQ9.out, HM9.out, HG.out.2.1, HG.out.2.2, HG.out.1, HF9.out⟩
            case measure => simp [intOf]; omega
        · skip
          obtain ⟨g1, g2', g3⟩ := lv_not ⟨wo, sl, st, wa, us⟩ hlv (by omega) hmo HLNQ.out
          have HST := Lib.hid (qstep_fn wr p pm qm ⟨wo, sl, st, wa, us⟩ s M t hq hm (by omega) (by omega) HNE.out HFT.out (hlv.ok HLNQ.out _) hmo (by rw [hml]; exact HLN.out.1))
          have HF := Lib.hid hf
          rw [hml] at g3
          have HG := Lib.hid (And.intro g1 (And.intro g2' g3))
          clear hq hm hf hlv hmo hml g1 g2' g3
          go_wp2_with fail
          refine HST.out.mono ?_
          rintro en w12 ⟨rfl, hq, hm, hf⟩
          have HQ9 := Lib.hid hq; have HM9 := Lib.hid hm; have HF9 := Lib.hid (HF.out.trans hf)
          clear hq hm hf HST
          have ht9 : 0 ≤ qT s ∧ qT s ≤ 1 := qT_1 s
          go_wp2
          go_roundw
          case rel => exact ⟨j + 1, _, _, _, b, by omega, by go_num, rfl, ⟨by omega, by omega⟩, HQ9.out, HM9.out, HG.out.2.1, HG.out.2.2, HG.out.1, HF9.out⟩
          case measure => simp [intOf]; omega
      · obtain rfl : j = 9 := by omega
        rw [show ((9 : Nat) : Int) = 9 from rfl] at ht ⊢
        obtain ⟨hn, hQc, hb⟩ := hlv.end
        have HL1 := Lib.hid (show loadV M 1 = (wd R : Int) by rw [hmo.2.2, hQc, HR.out])
        have HF := Lib.hid hf; have HMr := Lib.hid hm
        have hran := answer_any wr p ⟨wo, sl, st, wa, us⟩ s hq
        rw [hn, show QSt.done.fn.isNone = true from rfl] at hran
        rcases hb with ⟨he, rfl⟩ | ⟨he, rfl⟩
        · rw [he] at hran
          have HAN := Lib.hid hran
          clear hf hm hq hlv hmo hml hQc hn he hran hlt hj
          go_wp2_with fail
          refine HAN.out.mono ?_
          rintro en w9 ⟨rfl, f9⟩
          have HLD := Lib.hid (load_any w9 pm qm M t 1 (HMr.out.fr f9 (by simp) (by simp)) (by omega) (by omega))
          have F9 := Lib.hid (HF.out.trans (f9.mono (by simp)))
          clear f9 HAN
          go_wp2_with fail
          refine HLD.out.mono ?_
          rintro en w10 ⟨rfl, hm10, f10⟩
          rw [HL1.out]
          have HLI := Lib.hid (ref_list_any w10 (wd R : Int) (by have := wd_lt HLR.out; omega))
          have F10 := Lib.hid (F9.out.trans (f10.mono (S' := [p, pm, qm]) (by simp +contextual)))
          clear hm10 f10 HLD
          go_wp2_with fail
          refine HLI.out.mono ?_
          rintro en w11 ⟨g11, c11, rfl, hI11, f11, -⟩
          rw [refLi_wd HLR.out] at hI11 ⊢
          have hnt := ints_any w11 g11 g8 c11 c8 R R hI11 (HI8.out.fr (F10.out.trans (f11.mono (by simp))) (fun a ha => HG8.out a ha))
          rw [decide_eq_true rfl] at hnt
          have HNT := Lib.hid hnt
          have F11 := Lib.hid (F10.out.trans (f11.mono (by simp)))
          clear hI11 f11 hnt HLI
          go_wp2_with fail
          refine HNT.out.mono ?_
          rintro en w12 ⟨rfl, f12⟩
          have HEND := Lib.hid (show Fr [] w w12 from by
            have hn := HNW.out
            exact (F8.out.then F11.out (fun x hx => by simp at hx; rcases hx with rfl | rfl | rfl <;> exact .inr (by omega))).trans f12)
          clear f12 HNT
          go_wp2
          go_ret
          exact ⟨rfl, HEND.out⟩
        · rw [he] at hran
          have HAN := Lib.hid hran
          clear hf hm hq hlv hmo hml hQc hn he hran hlt hj
          go_wp2_with fail
          refine HAN.out.mono ?_
          rintro en w9 ⟨rfl, f9⟩
          have HLD := Lib.hid (load_any w9 pm qm M t 1 (HMr.out.fr f9 (by simp) (by simp)) (by omega) (by omega))
          have F9 := Lib.hid (HF.out.trans (f9.mono (by simp)))
          clear f9 HAN
          go_wp2_with fail
          refine HLD.out.mono ?_
          rintro en w10 ⟨rfl, hm10, f10⟩
          rw [HL1.out]
          have HLI := Lib.hid (ref_list_any w10 (wd R : Int) (by have := wd_lt HLR.out; omega))
          have F10 := Lib.hid (F9.out.trans (f10.mono (S' := [p, pm, qm]) (by simp +contextual)))
          clear hm10 f10 HLD
          go_wp2_with fail
          refine HLI.out.mono ?_
          rintro en w11 ⟨g11, c11, rfl, hI11, f11, -⟩
          rw [refLi_wd HLR.out] at hI11 ⊢
          have hnt := ints_any w11 g11 g8 c11 c8 R R hI11 (HI8.out.fr (F10.out.trans (f11.mono (by simp))) (fun a ha => HG8.out a ha))
          rw [decide_eq_true rfl] at hnt
          have HNT := Lib.hid hnt
          have F11 := Lib.hid (F10.out.trans (f11.mono (by simp)))
          clear hI11 f11 hnt HLI
          go_wp2_with fail
          refine HNT.out.mono ?_
          rintro en w12 ⟨rfl, f12⟩
          have HEND := Lib.hid (show Fr [] w w12 from by
            have hn := HNW.out
            exact (F8.out.then F11.out (fun x hx => by simp at hx; rcases hx with rfl | rfl | rfl <;> exact .inr (by omega))).trans f12)
          clear f12 HNT
          go_wp2
          go_ret
          exact ⟨rfl, HEND.out⟩

end Go.Proofs.Ytdpefnebghljoaa
