/- The walk of QueueAgain. -/
import Derived.Test.YtdpefnebghljoaaQuL
namespace Go.Proofs.Ytdpefnebghljoaa
open Go.RowKit

def conf8 : ConfV := ⟨8, 1, 0, 8, 1⟩
theorem conf8_fits : conf8.fits := by unfold ConfV.fits conf8; simp

theorem rm_lt {L : List Int} {x : Int} (h : x ∈ L) : (rm L x).length < L.length := by
  unfold rm
  rcases Nat.lt_or_ge (L.filter fun y => decide (y ≠ x)).length L.length with h1 | h1
  · exact h1
  · have := List.length_filter_eq_length_iff.1 (Nat.le_antisymm (List.length_filter_le _ _) h1) x h
    simp at this

set_option maxHeartbeats 8000000 in
set_option maxRecDepth 100000 in
theorem again_walk (w : World) (g : Option Addr) (cap : Nat) (l : List Int) (who : Int) (hl : U8At w g l) (hw0 : 0 ≤ who) (hw1 : who ≤ 255) :
    Calls Try.prog 5 #[.slice g l.length cap, .int .u8 who] w fun e w' => e = .returned (.bool true) ∧ Fr [] w w' := by
  obtain ⟨i0, hi, hz0, hz1, hz2⟩ := info_parts info_int
  have HL := Lib.hid hl
  have hl63 := hl.1
  obtain ⟨len, hlen⟩ : ∃ n, n = l.length := ⟨_, rfl⟩
  rw [← hlen] at hl63 ⊢
  have HLEN := Lib.hid hlen
  clear hl hlen
  go_enter Try.func5, Try.ntmps5
  go_wp2_with fail
  refine (awake_any _).mono ?_
  rintro en w1 ⟨rfl, f1⟩
  have F1 := Lib.hid f1
  clear f1
  by_cases hlong : (8 : Int) < (len : Int)
  · go_wp2
    go_ret
    exact ⟨rfl, F1.out⟩
  · obtain ⟨k, hk⟩ : ∃ k, k = who % 8 := ⟨_, rfl⟩
    have hk8 : 0 ≤ k ∧ k < 8 := by omega
    have HLI := Lib.hid (fun W : World => lined_any W conf8 g cap l conf8_fits)
    have hwk : who % 8 = k := hk.symm
    have HWK := Lib.hid hwk
    clear hk hwk
    go_wp2_with fail
    rw [HWK.out]
    have F1b := Lib.hid (F1.out.alloc (.cells #[.int .i64 8, .int .i64 1, .int .i64 0, .int .i64 8, .int .i64 1] 25))
    have hbx := heap_alloc_new w1 (.cells #[.int .i64 8, .int .i64 1, .int .i64 0, .int .i64 8, .int .i64 1] 25)
    have hlined := HLI.out (w1.alloc (.cells #[.int .i64 8, .int .i64 1, .int .i64 0, .int .i64 8, .int .i64 1] 25)) (HL.out.fr F1b.out) (by rw [← HLEN.out]; omega)
    rw [← HLEN.out] at hlined
    refine hlined.mono ?_
    rintro en w2 ⟨v2, rfl, hrow2, f2⟩
    obtain ⟨g2, c2, rfl, hI2⟩ := row_ints hrow2
    obtain ⟨hln, hln2⟩ := linedL_ln (wo := 8) (by omega) (by omega) l
    have hle := linedL_len 8 l
    rw [← HLEN.out] at hle
    have hbx2 := f2.at hbx (by simp)
    generalize w1.heap.size = b6 at hbx2 ⊢
    obtain ⟨Q, hQ⟩ : ∃ Q, Q = linedL 8 l := ⟨_, rfl⟩
    have hI2 : IntsAt w2 g2 Q := by rw [hQ]; exact hI2
    have hlnQ : Ln Q := by rw [hQ]; exact hln
    rw [show (linedL conf8.wo l).length = Q.length by rw [hQ]; rfl]
    have HI2 := Lib.hid hI2; have HLNQ := Lib.hid hlnQ; have HQL := Lib.hid (show Q.length ≤ 8 by rw [hQ]; omega)
    have HBX := Lib.hid hbx2; have F2 := Lib.hid (F1b.out.trans f2)
    clear hI2 hlnQ hbx2 f2 hbx hlined hrow2 hln hln2 hle hQ F1b
    go_wp2_with fail
    refine (ref_has_any w2 g2 c2 Q k HI2.out).mono ?_
    rintro en w3 ⟨rfl, f3⟩
    have a0 := cell_of (i := 0) (f3.at HBX.out (by simp)) rfl
    have a1 := cell_of (i := 1) (f3.at HBX.out (by simp)) rfl
    have a2 := cell_of (i := 2) (f3.at HBX.out (by simp)) rfl
    have a3 := cell_of (i := 3) (f3.at HBX.out (by simp)) rfl
    have a4 := cell_of (i := 4) (f3.at HBX.out (by simp)) rfl
    have HBX3 := Lib.hid (f3.at HBX.out (by simp)); have HI3 := Lib.hid (HI2.out.fr f3 (by simp)); have F3 := Lib.hid (F2.out.trans f3)
    have hs3 := f3.size
    clear f3
    go_wp2_with fail
    refine (qlaid_any w3 conf8 0 g2 c2 Q conf8_fits HLNQ.out HI3.out).mono ?_
    rintro en w4 ⟨pm, qm, t1, rfl, hpm, hqm, ht1, hm4, f4⟩
    have HBX4 := Lib.hid (f4.at HBX3.out (by simp)); have HI4 := Lib.hid (HI3.out.fr f4 (by simp)); have F4 := Lib.hid (F3.out.trans f4)
    have HM4 := Lib.hid hm4
    have hb3 := heap_lt HBX3.out
    have hs4 := f4.size; have hpml := hm4.plt; have hqml := hm4.qlt
    clear a0 a1 a2 a3 a4 f4 hm4
    by_cases hin : k ∈ Q
    · rw [decide_eq_true hin]
      have HIN := Lib.hid hin
      clear hin
      have e0 := cell_of (i := 0) HBX4.out rfl
      have e1 := cell_of (i := 1) HBX4.out rfl
      have e2 := cell_of (i := 2) HBX4.out rfl
      have e3 := cell_of (i := 3) HBX4.out rfl
      have e4 := cell_of (i := 4) HBX4.out rfl
      go_wp2_with fail
      refine (enter_any w4 conf8 k).mono ?_
      rintro en w5 ⟨pa, rfl, hpa, hqa, f5⟩
      have e0 := f5.cell e0 (by simp); have e1 := f5.cell e1 (by simp); have e2 := f5.cell e2 (by simp); have e3 := f5.cell e3 (by simp); have e4 := f5.cell e4 (by simp)
      go_wp2_with fail
      refine (leave_any w5 conf8 k).mono ?_
      rintro en w6 ⟨pb, rfl, hpb, hqb, f6⟩
      have e0 := f6.cell e0 (by simp); have e1 := f6.cell e1 (by simp); have e2 := f6.cell e2 (by simp); have e3 := f6.cell e3 (by simp); have e4 := f6.cell e4 (by simp)
      go_wp2_with fail
      refine (enter_any w6 conf8 k).mono ?_
      rintro en w7 ⟨pd, rfl, hpd, hqd, f7⟩
      obtain ⟨M, hM⟩ : ∃ M, M = laidM conf8 0 Q := ⟨_, rfl⟩
      have hMl : M.length = 20 := by rw [hM, length_laidM]; rfl
      have HM7 := Lib.hid (show MemAt 83 w7 pm qm M t1 by rw [hM]; exact ((HM4.out.fr f5 (by simp) (by simp)).fr f6 (by simp) (by simp)).fr f7 (by simp) (by simp))
      have hl1 : loadV M 1 = (wd Q : Int) := by rw [hM]; exact laid_1 conf8_fits 0 Q
      have HQA := Lib.hid ((hqa.fr f6 (by simp)).fr f7 (by simp)); have HQB := Lib.hid (hqb.fr f7 (by simp)); have HQD := Lib.hid hqd
      have F7 := Lib.hid (((F4.out.trans f5).trans f6).trans f7)
      have hs5 := f5.size; have hs6 := f6.size; have hs7 := f7.size
      have hpal := heap_lt (show w5.heap[pa]? = some _ from hqa); have hpbl := heap_lt (show w6.heap[pb]? = some _ from hqb); have hpdl := heap_lt (show w7.heap[pd]? = some _ from hqd)
      have HNE := Lib.hid (show (pa ≠ pm ∧ pa ≠ qm) ∧ (pb ≠ pm ∧ pb ≠ qm) ∧ (pd ≠ pm ∧ pd ≠ qm) ∧ pa ≠ pb ∧ pa ≠ pd ∧ pb ≠ pd from by omega)
      have hs0 := F3.out.size; have hs00 := F4.out.size
      have HNW := Lib.hid (show w.heap.size ≤ pa ∧ w.heap.size ≤ pb ∧ w.heap.size ≤ pd ∧ w.heap.size ≤ pm ∧ w.heap.size ≤ qm from by omega)
      have HG2 := Lib.hid (show ∀ a, g2 = some a → a.block ∉ [pa, pb, pd, pm, qm] from by
        intro a ha
        obtain ⟨b, o, hb, hc⟩ := HI2.out.base (List.ne_nil_of_mem HIN.out)
        have hlt := World.block_lt_of_cell? w2 _ (hc 0 _ (List.getElem?_eq_getElem (List.length_pos_of_mem HIN.out)))
        rw [hb] at ha
        injection ha with ha
        subst ha
        simp only at hlt
        simp
        omega)
      have HI7 := Lib.hid (((HI4.out.fr f5 (by simp)).fr f6 (by simp)).fr f7 (by simp))
      have HL1 := Lib.hid hl1
      have HML := Lib.hid hMl
      have HL0 := Lib.hid (show loadV M 0 = 0 by rw [hM]; exact laid_0 conf8_fits 0 Q)
      clear hs0 hs00 hqa hqb hqd f5 f6 f7 hM hMl hl1 e0 e1 e2 e3 e4 hs3 hs4 hs5 hs6 hs7 hpal hpbl hpdl hpml hqml hb3 hpm hqm hpa hpb hpd
      go_wp2_with fail
      go_loopw [14] (fun i wr => ∃ (j : Nat) (t : Int), j ≤ 9 ∧ i = .int .i64 (j : Int) ∧ (0 ≤ t ∧ t ≤ 2 + j) ∧ QuAt wr pa conf8 (againS k Q j) ∧ MemAt 83 wr pm qm M t ∧ Fr [pa, pm, qm] w7 wr) (fun i _ => 9 - (intOf i).toNat)
      case atStart => exact ⟨0, t1, by omega, rfl, ⟨by omega, by omega⟩, HQA.out, HM7.out, Fr.refl _ _⟩
      case round =>
        obtain ⟨j, t, hj, rfl, ht, hq, hm, hf⟩ := hrel
        by_cases hlt : j < 9
        · have hlt' : (j : Int) < 9 := by omega
          have HST := Lib.hid (again_step wr pa pm qm conf8 k Q M j t hq hm (by omega) (by omega) HNE.out.1 HLNQ.out HL1.out (.inr HIN.out))
          have HF := Lib.hid hf
          clear hq hm hf
          go_wp2_with fail
          refine HST.out.mono ?_
          rintro en w8 ⟨t', ht', rfl, hq, hm, hf⟩
          have HQ8 := Lib.hid hq; have HM8 := Lib.hid hm; have HF8 := Lib.hid (HF.out.trans hf)
          clear hq hm hf HST
          go_wp2
          go_roundw
          case rel => exact ⟨j + 1, t', by omega, by go_num, ⟨by omega, by omega⟩, HQ8.out, HM8.out, HF8.out⟩
          case measure => simp [intOf]; omega
        · obtain rfl : j = 9 := by omega
          have HQA9 := Lib.hid hq
          have HFR1 := Lib.hid hf
          have HIr := Lib.hid (HI7.out.fr hf (fun a ha => by have := HG2.out a ha; simp at this ⊢; omega))
          have HQB9 := Lib.hid (HQB.out.fr hf (by have := HNE.out; simp; omega))
          have HQD9 := Lib.hid (HQD.out.fr hf (by have := HNE.out; simp; omega))
          have HLD := Lib.hid (load_any wr pm qm M t 1 hm (by omega) (by omega))
          have HTT := Lib.hid (tch_0 M 1)
          obtain ⟨t8, ht8⟩ : ∃ t8, t8 = t + tch M 1 := ⟨_, rfl⟩
          rw [← ht8] at HLD
          have HT8 := Lib.hid (show 0 ≤ t8 ∧ t8 ≤ 12 from by have := HTT.out; omega)
          rw [show againS k Q 9 = ⟨k, Q, 0, .done, 0, 7⟩ from rfl] at HQA9
          clear hq hm hf HQA HQB HQD HM7 ht8 ht hlt hj HTT
          go_wp2_with fail
          refine HLD.out.mono ?_
          rintro en w8 ⟨rfl, hm8, f8⟩
          rw [HL1.out]
          have HI8 := Lib.hid (HIr.out.fr f8 (fun a ha => by have := HG2.out a ha; simp at this ⊢; omega))
          have HQA8 := Lib.hid (HQA9.out.fr f8 (by have := HNE.out; simp; omega))
          have HQB8 := Lib.hid (HQB9.out.fr f8 (by have := HNE.out; simp; omega))
          have HQD8 := Lib.hid (HQD9.out.fr f8 (by have := HNE.out; simp; omega))
          have HFR8 := Lib.hid (HFR1.out.trans (f8.mono (S' := [pa, pm, qm]) (by simp +contextual)))
          have HM8 := Lib.hid hm8
          have HLI8 := Lib.hid (ref_list_any w8 (wd Q : Int) (by have := wd_lt HLNQ.out; omega))
          clear hm8 f8 HQA9 HQB9 HQD9 HIr HFR1 HLD
          go_wp2_with fail
          refine HLI8.out.mono ?_
          rintro en w9 ⟨g9, c9, rfl, hI9, f9, -⟩
          rw [refLi_wd HLNQ.out] at hI9 ⊢
          have hnt := ints_any w9 g9 g2 c9 c2 Q Q hI9 (HI8.out.fr f9 (by simp))
          rw [decide_eq_true rfl] at hnt
          have HNT := Lib.hid hnt
          have F9 := Lib.hid f9
          clear hI9 f9 HLI8 hnt
          go_wp2_with fail
          refine HNT.out.mono ?_
          rintro en w10 ⟨rfl, f10⟩
          have F810 := Lib.hid (F9.out.trans f10)
          have HI10 := Lib.hid (HI8.out.fr F810.out (by simp))
          have HQA10 := Lib.hid (HQA8.out.fr F810.out (by simp))
          have HQB10 := Lib.hid (HQB8.out.fr F810.out (by simp))
          have HQD10 := Lib.hid (HQD8.out.fr F810.out (by simp))
          have HM10 := Lib.hid (HM8.out.fr F810.out (by simp) (by simp))
          have HFR10 := Lib.hid (HFR8.out.trans (F810.out.mono (by simp)))
          clear f10 HNT F9 HI8 HQA8 HQB8 HQD8 HM8 HFR8
          go_wp2_with fail
          go_loopw [16] (fun i wr => ∃ (j : Nat) (t : Int), j ≤ 9 ∧ i = .int .i64 (j : Int) ∧ (0 ≤ t ∧ t ≤ 12 + j) ∧ QuAt wr pb conf8 (leaveS k Q j) ∧ MemAt 83 wr pm qm (leaveM k Q M j) t ∧ Fr [pb, pm, qm] w10 wr) (fun i _ => 9 - (intOf i).toNat)
          case atStart => exact ⟨0, t8, by omega, rfl, ⟨HT8.out.1, by have := HT8.out; omega⟩, HQB10.out, HM10.out, Fr.refl _ _⟩
          case round =>
            obtain ⟨j, t, hj, rfl, ht, hq, hm, hf⟩ := hrel
            by_cases hlt : j < 9
            · have hlt' : (j : Int) < 9 := by omega
              have HST := Lib.hid (leave_step wr pb pm qm conf8 k Q M j t hq hm (by omega) (by omega) HNE.out.2.1 HLNQ.out HL1.out (by rw [HML.out]; omega) HIN.out)
              have HF := Lib.hid hf
              clear hq hm hf
              go_wp2_with fail
              refine HST.out.mono ?_
              rintro en w11 ⟨t', ht', rfl, hq, hm, hf⟩
              have HQ8 := Lib.hid hq; have HM8 := Lib.hid hm; have HF8 := Lib.hid (HF.out.trans hf)
              clear hq hm hf HST
              go_wp2
              go_roundw
              case rel => exact ⟨j + 1, t', by omega, by go_num, ⟨by omega, by omega⟩, HQ8.out, HM8.out, HF8.out⟩
              case measure => simp [intOf]; omega
            · obtain rfl : j = 9 := by omega
              rw [show ((9 : Nat) : Int) = 9 from rfl] at ht ⊢
              obtain ⟨M2, hM2⟩ : ∃ M2, M2 = M.set 1 (wd (rm Q k) : Int) := ⟨_, rfl⟩
              rw [show leaveM k Q M 9 = M.set 1 (wd (rm Q k) : Int) from rfl, ← hM2] at hm
              rw [show leaveS k Q 9 = ⟨k, Q, 0, .done, 4, 4⟩ from rfl] at hq
              have hlM : 2 ≤ M.length := by rw [HML.out]; omega
              have HM2L := Lib.hid (show loadV M2 1 = (wd (rm Q k) : Int) by rw [hM2]; exact loadq_set hlM)
              have HM20 := Lib.hid (show loadV M2 0 = 0 by rw [hM2, loadq_set0 hlM]; exact HL0.out)
              have HM2N := Lib.hid (show 2 ≤ M2.length by rw [hM2, List.length_set]; exact hlM)
              have HRL := Lib.hid (show (rm Q k).length < 8 from by
                have h1 : (rm Q k).length < Q.length := rm_lt HIN.out
                have h2 := HQL.out
                omega)
              have HOK := Lib.hid (show Ln (rm Q k ++ [k]) from (ln_snoc (HLNQ.out.rm k)).2 ⟨hk8.1, by omega, not_mem_rm _ _⟩)
              have HQB11 := Lib.hid hq; have HM11 := Lib.hid hm
              have HI11 := Lib.hid (HI10.out.fr hf (fun a ha => by have := HG2.out a ha; simp at this ⊢; omega))
              have HQA11 := Lib.hid (HQA10.out.fr hf (by have := HNE.out; simp; omega))
              have HQD11 := Lib.hid (HQD10.out.fr hf (by have := HNE.out; simp; omega))
              have HFR11 := Lib.hid hf
              clear hq hm hf hM2 hlM HQA10 HQB10 HQD10 HM10 HI10 hlt hj
              go_wp2_with fail
              go_loopw [17] (fun i wz => ∃ (j : Nat) (t : Int), j ≤ 9 ∧ i = .int .i64 (j : Int) ∧ (0 ≤ t ∧ t ≤ 21 + j) ∧ QuAt wz pd conf8 (comeS k (rm Q k) j) ∧ MemAt 83 wz pm qm (comeM k (rm Q k) M2 j) t ∧ Fr [pd, pm, qm] wr wz) (fun i _ => 9 - (intOf i).toNat)
              case atStart => exact ⟨0, t, by omega, rfl, ⟨by omega, by omega⟩, HQD11.out, HM11.out, Fr.refl _ _⟩
              case round =>
                obtain ⟨j, t, hj, rfl, ht, hq, hm, hf⟩ := hrel
                by_cases hlt : j < 9
                · have hlt' : (j : Int) < 9 := by omega
                  have HST := Lib.hid (come_step wr pd pm qm conf8 k (rm Q k) M2 j t hq hm (by omega) (by omega) HNE.out.2.2.1 (HLNQ.out.rm k) HM2L.out HM2N.out (not_mem_rm _ _) (by have := HRL.out; show _ < (8 : Int); omega) HOK.out HM20.out)
                  have HF := Lib.hid hf
                  clear hq hm hf
                  go_wp2_with fail
                  refine HST.out.mono ?_
                  rintro en w12 ⟨t', ht', rfl, hq, hm, hf⟩
                  have HQ8 := Lib.hid hq; have HM8 := Lib.hid hm; have HF8 := Lib.hid (HF.out.trans hf)
                  clear hq hm hf HST
                  go_wp2
                  go_roundw
                  case rel => exact ⟨j + 1, t', by omega, by go_num, ⟨by omega, by omega⟩, HQ8.out, HM8.out, HF8.out⟩
                  case measure => simp [intOf]; omega
                · obtain rfl : j = 9 := by omega
                  rw [show ((9 : Nat) : Int) = 9 from rfl] at ht ⊢
                  obtain ⟨M3, hM3⟩ : ∃ M3, M3 = M2.set 1 (wd (rm Q k ++ [k]) : Int) := ⟨_, rfl⟩
                  rw [show comeM k (rm Q k) M2 9 = M2.set 1 (wd (rm Q k ++ [k]) : Int) from rfl, ← hM3] at hm
                  rw [show comeS k (rm Q k) 9 = ⟨k, rm Q k, 0, .done, 0, 0⟩ from rfl] at hq
                  obtain ⟨R, hR⟩ : ∃ R, R = rm Q k ++ [k] := ⟨_, rfl⟩
                  have HM3L := Lib.hid (show loadV M3 1 = (wd R : Int) by rw [hM3, hR]; exact loadq_set HM2N.out)
                  have HOR := Lib.hid (show Ln R by rw [hR]; exact HOK.out)
                  have HRE := Lib.hid hR
                  clear hR
                  have HT13 := Lib.hid (show 0 ≤ t ∧ t ≤ 30 from by omega)
                  have HQD13 := Lib.hid hq; have HM13 := Lib.hid hm
                  have HI13 := Lib.hid (HI11.out.fr hf (fun a ha => by have := HG2.out a ha; simp at this ⊢; omega))
                  have HQA13 := Lib.hid (HQA11.out.fr hf (by have := HNE.out; simp; omega))
                  have HQB13 := Lib.hid (HQB11.out.fr hf (by have := HNE.out; simp; omega))
                  have HFR13 := Lib.hid hf
                  clear hq hm hf hM3 HQA11 HQB11 HQD11 HM11 HI11 hlt hj ht
                  have HAN := Lib.hid (answer_any wr pa conf8 _ HQA13.out)
                  have HANB := Lib.hid (fun (W : World) (f : Fr [] wr W) => answer_any W pb conf8 _ (HQB13.out.fr f (by simp)))
                  have HAND := Lib.hid (fun (W : World) (f : Fr [] wr W) => answer_any W pd conf8 _ (HQD13.out.fr f (by simp)))
                  have HDR := Lib.hid (fun (W : World) (f : Fr [] wr W) => ref_drop_own W g2 c2 Q k (by have := HQL.out; omega) (HI13.out.fr f (by simp)))
                  clear HQA13 HQB13 HQD13
                  go_wp2_with fail
                  refine HAN.out.mono ?_
                  rintro en w14 ⟨rfl, f14⟩
                  have F14 := Lib.hid f14
                  clear f14
                  go_wp2_with fail
                  refine (HANB.out w14 F14.out).mono ?_
                  rintro en w15 ⟨rfl, f15⟩
                  have F15 := Lib.hid (F14.out.trans f15)
                  clear f15
                  go_wp2_with fail
                  refine (HAND.out w15 F15.out).mono ?_
                  rintro en w16 ⟨rfl, f16⟩
                  have F16 := Lib.hid (F15.out.trans f16)
                  clear f16
                  go_wp2_with fail
                  refine (HDR.out w16 F16.out).mono ?_
                  rintro en w17 ⟨v17, rfl, hown, f17⟩
                  have F17 := Lib.hid f17
                  have hrl := HRL.out
                  clear f17
                  have hs17 := F17.out.size
                  go_wp2_with (first
                    | (at_builtin; refine wpList_append_own _ rfl _ _ 26 rfl w16.heap.size 3 i0 (.int .i64 0) 1 8 Try.underlying26 hi hz0 hz1 hz2 rfl (by decide) _ (rm Q k).length _ rfl (hown.alloc _) ⟨w17.heap.size, 0, none⟩ 1 1 [.int .i64 k] rfl rfl (cell_one_new _ _ _) (by simp [Value.oneCell']) (by unfold maxLen; omega) (by omega) (by simp; omega) ?_)
                    | go_in)
                  intro v' w18 hown' hgrow _
                  have F18 := Lib.hid (F16.out.trans (grown_step F17.out hown (Nat.le_refl _) hgrow))
                  obtain ⟨g18, c18, rfl, hI18⟩ := row_ints (L := R) (by rw [HRE.out]; simpa using hown')
                  have HI18 := Lib.hid hI18
                  have hs16 := F16.out.size
                  have hpm13 := HM13.out.plt; have hqm13 := HM13.out.qlt
                  have HGN := Lib.hid (show ∀ a, g18 = some a → pm < a.block ∧ qm < a.block from by intro a ha; subst ha; have := (hown'.lt a.block rfl).1; omega)
                  have HLD := Lib.hid (load_any w18 pm qm M3 t 1 (HM13.out.fr F18.out (by simp) (by simp)) HT13.out.1 (by have := HT13.out; omega))
                  clear hown hown' hgrow hI18 F17 hrl
                  go_wp2_with fail
                  refine HLD.out.mono ?_
                  rintro en w19 ⟨rfl, hm19, f19⟩
                  rw [HM3L.out]
                  have HLI := Lib.hid (ref_list_any w19 (wd (R) : Int) (by have := wd_lt HOR.out; omega))
                  have HF19 := Lib.hid f19
                  clear hm19 f19
                  go_wp2_with fail
                  refine HLI.out.mono ?_
                  rintro en w20 ⟨g20, c20, rfl, hI20, f20, -⟩
                  rw [refLi_wd HOR.out] at hI20 ⊢
                  have hnt := ints_any w20 g20 g18 c20 c18 (R) (R) hI20 ((HI18.out.fr HF19.out (fun a ha => by have := HGN.out a ha; simp; omega)).fr f20 (by simp))
                  rw [decide_eq_true rfl] at hnt
                  have HNT := Lib.hid hnt
                  have HF20 := Lib.hid f20
                  clear hI20 f20 hnt HLI
                  go_wp2_with fail
                  refine HNT.out.mono ?_
                  rintro en w21 ⟨rfl, f21⟩
                  have HFE := Lib.hid (HF20.out.trans f21)
                  have HEND := Lib.hid (show Fr [] w w21 from by
                    have hn := HNW.out
                    have x1 := F7.out.then HFR10.out (fun x hx => by simp at hx; rcases hx with rfl | rfl | rfl <;> exact .inr (by omega))
                    have x2 := x1.then HFR11.out (fun x hx => by simp at hx; rcases hx with rfl | rfl | rfl <;> exact .inr (by omega))
                    have x3 := x2.then HFR13.out (fun x hx => by simp at hx; rcases hx with rfl | rfl | rfl <;> exact .inr (by omega))
                    exact ((x3.trans F18.out).then2 HF19.out (by omega) (by omega)).trans HFE.out)
                  clear f21 HNT
                  go_wp2
                  go_ret
                  exact ⟨rfl, HEND.out⟩
    · rw [decide_eq_false hin]
      go_wp2
      go_ret
      exact ⟨rfl, F4.out⟩

end Go.Proofs.Ytdpefnebghljoaa
