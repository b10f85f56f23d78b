/- The walk of TwiceLate. -/
import Derived.Test.YtnjoefanafjniaaTwWr
namespace Go.Proofs.Ytnjoefanafjniaa
open Go.RowKit

set_option maxHeartbeats 8000000 in
set_option maxRecDepth 100000 in
theorem late_walk (w : World) (g : GivV) (gt : Option Addr) (cap : Nat) (l : List WrV) (hg : g.right w) (hl : WrsAt w gt l) :
    Calls Try.prog 3 #[g.val, .slice gt l.length cap] w fun e w' => e = .returned (.bool true) ∧ Fr [] w w' := by
  have HWRS := Lib.hid hl
  have hl63 := hl.1
  obtain ⟨len, hlen⟩ : ∃ n, n = l.length := ⟨_, rfl⟩
  rw [← hlen] at hl63 ⊢
  have HLEN1 := Lib.hid hlen
  clear hl hlen
  have HG := Lib.hid hg
  have hmade := fun (W : World) (f : Fr [] w W) => made_any W g (hg.fr f)
  obtain ⟨a, b, c, d, e, gs, ns, cs, gf, nf, cf, gp, np, cp⟩ := g
  unfold GivV.val at hmade ⊢
  simp only at hmade
  have HMADE := Lib.hid hmade
  clear hg hmade
  go_enter Try.func3, Try.ntmps3
  go_wp2_with fail
  have F0 := (Fr.refl [] w).alloc (.cells #[.int .u8 a, .int .u8 b, .int .u8 c, .int .u8 d, .int .u8 e, .slice gs ns cs, .slice gf nf cf, .slice gp np cp] 27)
  have hbk := heap_alloc_new w (.cells #[.int .u8 a, .int .u8 b, .int .u8 c, .int .u8 d, .int .u8 e, .slice gs ns cs, .slice gf nf cf, .slice gp np cp] 27)
  refine (awake_any _).mono ?_
  rintro en w1 ⟨rfl, f1⟩
  have hb1 := f1.at hbk (by simp)
  have x0 := cell_of (i := 0) hb1 rfl
  have x1 := cell_of (i := 1) hb1 rfl
  have x2 := cell_of (i := 2) hb1 rfl
  have x3 := cell_of (i := 3) hb1 rfl
  have x4 := cell_of (i := 4) hb1 rfl
  have x5 := cell_of (i := 5) hb1 rfl
  have x6 := cell_of (i := 6) hb1 rfl
  have x7 := cell_of (i := 7) hb1 rfl
  have F1 := Lib.hid (F0.trans f1)
  clear hbk hb1 F0 f1
  by_cases hlong : (20 : Int) < (len : Int)
  · go_wp2
    go_ret
    exact ⟨rfl, F1.out⟩
  go_wp2_with fail
  refine (HMADE.out _ F1.out).mono ?_
  rintro en w2 ⟨cv, q, n, rfl, hsm, hn, hq, hrow, f2⟩
  obtain ⟨L, hbeg⟩ := begun_of F1.out hsm hn hq hrow f2
  have HBEG := Lib.hid hbeg
  have c0 := hbeg.cf.c0; have c1 := hbeg.cf.c1; have c2 := hbeg.cf.c2; have c3 := hbeg.cf.c3; have c4 := hbeg.cf.c4
  have hnl := hbeg.n100
  clear hbeg hsm hn hq hrow f2 x0 x1 x2 x3 x4 x5 x6 x7
  have hsl := HBEG.out.hc.2.1
  unfold ConfV.val
  go_wp2_with fail
  have hIb := HBEG.out.hI
  have hLL := HBEG.out.hL
  generalize w2.alloc (.cells #[.int .i64 cv.wo, .int .i64 cv.sl, .int .i64 cv.st, .int .i64 cv.wa, .int .i64 cv.us] 31) = w3 at HBEG c0 c1 c2 c3 c4 hIb ⊢
  generalize w2.heap.size = b4 at HBEG c0 c1 c2 c3 c4 ⊢
  have hlaid := laid_any w3 cv n (some ⟨q, 0, none⟩) n L HBEG.out.hc HBEG.out.hn (by omega) hIb
  rw [hLL] at hlaid
  unfold ConfV.val at hlaid
  refine hlaid.mono ?_
  rintro en w4 ⟨pm, qm, rfl, hpm, hqm, hm, f4⟩
  have d0 := f4.cell c0 (by simp); have d1 := f4.cell c1 (by simp); have d2 := f4.cell c2 (by simp); have d3 := f4.cell c3 (by simp); have d4 := f4.cell c4 (by simp)
  clear c0 c1 c2 c3 c4 hlaid hIb
  go_wp2_with fail
  refine (tnew_any w4 cv).mono ?_
  rintro en w5 ⟨p, rfl, hp, ht, f5⟩
  have hin := begun_in HBEG.out hpm hqm hm f4 hp ht f5
  have HIN := Lib.hid hin
  have HFB := Lib.hid (FB.of (B := w3.heap.size) (f4.trans f5))
  obtain ⟨S, hS⟩ : ∃ S, S = cv.sl.toNat := ⟨_, rfl⟩
  clear d0 d1 d2 d3 d4 hpm hqm hm hp ht hin f4 f5 hLL
  have HLL := Lib.hid HBEG.out.hL
  have HIN0 := Lib.hid (show TwIn w3.heap.size w5 p pm qm cv ⟨[], [], 0, false⟩ L (n : Int) (.slice none 0 0) (.slice none 0 0) from HIN.out)
  have hlate : Late S ⟨[], [], 0, false⟩ (slotsX cv L) 0 (befW ((0 : Nat) : Int) l) := by
    rw [show befW ((0 : Nat) : Int) l = 0 from befW_zero (l := l) (fun x hx => by
      obtain ⟨j, hj, e⟩ := List.getElem_of_mem hx
      exact ((HWRS.out.2 j x (by rw [List.getElem?_eq_getElem hj, e])).1).1)]
    exact late_zero (by omega) (slotsX cv L)
  have HLATE := Lib.hid hlate
  have hgl : ∀ a, gt = some a → len ≠ 0 → a.block < w.heap.size := fun a ha h0 => by
    obtain ⟨x, hx⟩ : ∃ x, l[0]? = some x := ⟨_, List.getElem?_eq_getElem (by rw [← HLEN1.out]; omega)⟩
    obtain ⟨-, -, b, o, hb, c0, -⟩ := HWRS.out.2 0 x hx
    rw [ha] at hb
    injection hb with hb
    subst hb
    exact World.block_lt_of_cell? w _ c0
  have HGL := Lib.hid hgl
  clear HIN hlate hgl
  go_wp2_with fail
  go_loopw [10] (fun i wr => ∃ k m : Nat, ∃ t : Int, ∃ M : List Int, ∃ s : TwS, k ≤ 300 ∧ i = .int .i64 (k : Int) ∧ 0 ≤ t ∧ t ≤ n + 21 * k ∧ M.length = n ∧ k = m * S + s.r.length ∧ Late S s (slotsX cv M) m (befW k l) ∧ FB w3.heap.size w3 wr ∧ ∃ vR vL, TwIn w3.heap.size wr p pm qm cv s M t vR vL) (fun i _ => 300 - (intOf i).toNat)
  case atStart => exact ⟨0, 0, (n : Int), L, _, by omega, rfl, by omega, by omega, HLL.out, by simp, HLATE.out, HFB.out, _, _, HIN0.out⟩
  case round =>
    obtain ⟨k, m, t, M, s, hk, rfl, ht0, ht1, hml, hkm, hlate, hfb, vR, vL, hin⟩ := hrel
    have HIN := Lib.hid hin; have HLT := Lib.hid hlate; have HF := Lib.hid hfb
    have hm2 := hlate.m_le
    have hb2 := befW_le (k : Int) l
    have hr2 := hlate.hr
    rw [← HLEN1.out] at hb2
    have hk110 : k < 110 := by
      have h1 : m * S ≤ 21 * 5 := Nat.mul_le_mul (by omega) (by omega)
      omega
    have hlt : (k : Int) < 300 := by omega
    have hW := writes_any wr pm qm M t gt cap l k hin.m ht0 (by omega) (HWRS.out.fr (FB.base HBEG.out.f hfb HBEG.out.f.size)) (by rw [← HLEN1.out]; omega) (by omega) (fun a ha h0 => by
      have h2 := hin.ge pm (.inr (.inl rfl))
      have h3 := hin.ge qm (.inr (.inr (.inl rfl)))
      have h4 := HBEG.out.f.size
      have h5 := HGL.out a ha (by rw [HLEN1.out]; exact h0)
      omega) ⟨by omega, by omega⟩
    rw [← HLEN1.out] at hW
    have HW := Lib.hid hW
    have HKM := Lib.hid hkm
    clear hin hlate hfb hm2 hr2 hW hkm
    go_wp2_with fail
    refine HW.out.mono ?_
    rintro en w6 ⟨rfl, t', ht2, ht3, hm6, f6⟩
    have hin6 := HIN.out.mem f6 hm6
    have hF6 := HF.out.trans (HIN.out.memFB f6)
    have hlen6 : ((wrL k l M).length : Int) = cv.cells := by rw [length_wrL, hml]; exact HBEG.out.hn.symm
    have hlate6 := late_writes HBEG.out.hc (k : Int) l (by rw [hml]; exact HBEG.out.hn.symm) HLT.out
    rw [← befW_next] at hlate6
    have hX := slotsX_at cv (wrL k l M) (k := s.r.length) (by have := HLT.out.hr; omega)
    have hst := tstep_any w3.heap.size w6 p pm qm cv vR vL s (wrL k l M) t' HBEG.out.hc hin6 (by omega) (by omega) (by rw [HLT.out.hn]; omega) (by rw [HLT.out.hn]; have := HLT.out.m_le; omega) hlen6 (by have := HLT.out.hr; omega)
    rw [HLT.out.hd, if_neg (by simp), ← hS] at hst
    have hcase := hlate6.step hX.symm
    have HST := Lib.hid hst; have HF6 := Lib.hid hF6
    clear hst hm6 f6 hin6 hF6 HIN HF HW hX hlate6
    rcases hcase with ⟨hd, m', hlate', hkm'⟩ | ⟨hd, hm1, hn1, hm2⟩
    · have HL7 := Lib.hid hlate'; have HK7 := Lib.hid hkm'
      clear hlate' hkm'
      go_wp2_with fail
      refine HST.out.mono ?_
      rintro en w7 ⟨vR', vL', rfl, h7, -, fB7, -⟩
      rw [hd]
      have HI7 := Lib.hid h7; have HF7 := Lib.hid (HF6.out.trans fB7)
      clear h7 fB7 hd HST HF6
      go_wp2
      go_roundw
      case rel => exact ⟨k + 1, m', t' + 1, wrL k l M, _, by omega, by go_num, by omega, by omega, by rw [length_wrL, hml], by rw [HK7.out, ← HKM.out], HL7.out, HF7.out, _, _, HI7.out⟩
      case measure => simp [intOf]; omega
    · have hb3 := befW_le ((k : Int) + 1) l
      rw [← HLEN1.out] at hb3
      go_wp2_with fail
      refine HST.out.mono ?_
      rintro en w7 ⟨vR', vL', rfl, h7, -, fB7, -⟩
      rw [hd]
      have htw := h7.tw
      rw [hn1] at htw
      have HTR := Lib.hid (trounds_any w7 p cv vR' vL' _ _ _ _ htw)
      have HF7 := Lib.hid (HF6.out.trans fB7)
      have hc1 : (2 : Int) ≤ ((m + 1 : Nat) : Int) := by omega
      have hc2 : ((m + 1 : Nat) : Int) ≤ 2 + (len : Int) := by omega
      clear h7 fB7 htw hn1 HST HF6
      go_wp2_with fail
      refine HTR.out.mono ?_
      rintro en w8 ⟨rfl, rfl⟩
      go_wp2_with fail
      refine HTR.out.mono ?_
      rintro en w9 ⟨rfl, rfl⟩
      go_wp2
      go_ret
      refine ⟨?_, FB.base HBEG.out.f HF7.out HBEG.out.f.size⟩
      show Ending.returned (.bool (decide ((m : Int) + 1 ≤ 2 + (len : Int)))) = _
      rw [decide_eq_true (by omega)]

end Go.Proofs.Ytnjoefanafjniaa
