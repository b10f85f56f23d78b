/- The walk of TwicePlays. -/
import Derived.Test.YtnjoefanafjniaaTwPl
namespace Go.Proofs.Ytnjoefanafjniaa
open Go.RowKit

set_option maxHeartbeats 8000000 in
set_option maxRecDepth 100000 in
theorem plays_walk (w : World) (g : GivV) (gt : Option Addr) (cap : Nat) (l : List WrV) (st : Int) (hg : g.right w) (hl : WrsAt w gt l) (hst0 : 0 ≤ st) (hst1 : st ≤ 255) :
    Calls Try.prog 7 #[g.val, .slice gt l.length cap, .int .u8 st] w fun e w' => e = .returned (.bool true) ∧ Fr [] w w' := by
  have HWRS := Lib.hid hl
  have hl63 := hl.1
  obtain ⟨len, hlen⟩ : ∃ n, n = l.length := ⟨_, rfl⟩
  rw [← hlen] at hl63 ⊢
  have HLEN1 := Lib.hid hlen
  clear hl hlen
  have HG := Lib.hid hg
  have hmade := fun (W : World) (f : Fr [] w W) => made_any W g (hg.fr f)
  obtain ⟨a, b, c, d, e, gs, ns, cs, gf, nf, cf, gp, np, cp⟩ := g
  unfold GivV.val at hmade ⊢
  simp only at hmade
  have HMADE := Lib.hid hmade
  clear hg hmade
  go_enter Try.func7, Try.ntmps7
  go_wp2_with fail
  have F0 := (Fr.refl [] w).alloc (.cells #[.int .u8 a, .int .u8 b, .int .u8 c, .int .u8 d, .int .u8 e, .slice gs ns cs, .slice gf nf cf, .slice gp np cp] 27)
  have hbk := heap_alloc_new w (.cells #[.int .u8 a, .int .u8 b, .int .u8 c, .int .u8 d, .int .u8 e, .slice gs ns cs, .slice gf nf cf, .slice gp np cp] 27)
  refine (awake_any _).mono ?_
  rintro en w1 ⟨rfl, f1⟩
  have hb1 := f1.at hbk (by simp)
  have x0 := cell_of (i := 0) hb1 rfl
  have x1 := cell_of (i := 1) hb1 rfl
  have x2 := cell_of (i := 2) hb1 rfl
  have x3 := cell_of (i := 3) hb1 rfl
  have x4 := cell_of (i := 4) hb1 rfl
  have x5 := cell_of (i := 5) hb1 rfl
  have x6 := cell_of (i := 6) hb1 rfl
  have x7 := cell_of (i := 7) hb1 rfl
  have F1 := Lib.hid (F0.trans f1)
  clear hbk hb1 F0 f1
  by_cases hlong : (20 : Int) < (len : Int)
  · go_wp2
    go_ret
    exact ⟨rfl, F1.out⟩
  go_wp2_with fail
  refine (HMADE.out _ F1.out).mono ?_
  rintro en w2 ⟨cv, q, n, rfl, hsm, hn, hq, hrow, f2⟩
  obtain ⟨L, hbeg⟩ := begun_of F1.out hsm hn hq hrow f2
  have HBEG := Lib.hid hbeg
  have c0 := hbeg.cf.c0; have c1 := hbeg.cf.c1; have c2 := hbeg.cf.c2; have c3 := hbeg.cf.c3; have c4 := hbeg.cf.c4
  have hnl := hbeg.n100
  clear hbeg hsm hn hq hrow f2 x0 x1 x2 x3 x4 x5 x6 x7
  have hsl := HBEG.out.hc.2.1
  unfold ConfV.val
  go_wp2_with fail
  have hIb := HBEG.out.hI
  have hLL := HBEG.out.hL
  generalize w2.alloc (.cells #[.int .i64 cv.wo, .int .i64 cv.sl, .int .i64 cv.st, .int .i64 cv.wa, .int .i64 cv.us] 31) = w3 at HBEG c0 c1 c2 c3 c4 hIb ⊢
  generalize w2.heap.size = b4 at HBEG c0 c1 c2 c3 c4 ⊢
  have hlaid := laid_any w3 cv n (some ⟨q, 0, none⟩) n L HBEG.out.hc HBEG.out.hn (by omega) hIb
  rw [hLL] at hlaid
  unfold ConfV.val at hlaid
  refine hlaid.mono ?_
  rintro en w4 ⟨pm, qm, rfl, hpm, hqm, hm, f4⟩
  have d0 := f4.cell c0 (by simp); have d1 := f4.cell c1 (by simp); have d2 := f4.cell c2 (by simp); have d3 := f4.cell c3 (by simp); have d4 := f4.cell c4 (by simp)
  clear c0 c1 c2 c3 c4 hlaid hIb
  go_wp2_with fail
  refine (tnew_any w4 cv).mono ?_
  rintro en w5 ⟨p, rfl, hp, ht, f5⟩
  have hin := begun_in HBEG.out hpm hqm hm f4 hp ht f5
  have HIN := Lib.hid hin
  have HFB := Lib.hid (FB.of (B := w3.heap.size) (f4.trans f5))
  obtain ⟨S, hS⟩ : ∃ S, S = cv.sl.toNat := ⟨_, rfl⟩
  clear d0 d1 d2 d3 d4 hpm hqm hm hp ht hin f4 f5 hLL
  have HLL := Lib.hid HBEG.out.hL
  have HIN0 := Lib.hid (show TwIn w3.heap.size w5 p pm qm cv ⟨[], [], 0, false⟩ L (n : Int) (.slice none 0 0) (.slice none 0 0) from HIN.out)
  have HI5 := Lib.hid (HFB.out.ints HBEG.out.hI (fun a ha => by injection ha with ha; subst ha; exact HBEG.out.ql))
  have e0 := HFB.out.cell HBEG.out.cf.c0 HBEG.out.bl; have e1 := HFB.out.cell HBEG.out.cf.c1 HBEG.out.bl; have e2 := HFB.out.cell HBEG.out.cf.c2 HBEG.out.bl; have e3 := HFB.out.cell HBEG.out.cf.c3 HBEG.out.bl; have e4 := HFB.out.cell HBEG.out.cf.c4 HBEG.out.bl
  obtain ⟨i0, hi, hz0, hz1, hz2⟩ := info_parts int_info
  have hgl : ∀ a, gt = some a → len ≠ 0 → a.block < w.heap.size := fun a ha h0 => by
    obtain ⟨x, hx⟩ : ∃ x, l[0]? = some x := ⟨_, List.getElem?_eq_getElem (by rw [← HLEN1.out]; omega)⟩
    obtain ⟨-, -, b, o, hb, c0, -⟩ := HWRS.out.2 0 x hx
    rw [ha] at hb
    injection hb with hb
    subst hb
    exact World.block_lt_of_cell? w _ c0
  have HGL := Lib.hid hgl
  have hnn : n ≤ 16 := hnl.1
  clear HIN hgl
  go_wp2_with (first | (at_builtin; refine wpList_append_more rfl _ _ 32 rfl 3 i0 _ 1 8 Try.underlying32 hi hz0 hz1 hz2 rfl (by decide) w5.heap.size _ 0 [] rfl (own_empty w5 _ 1) (some ⟨q, 0, none⟩) n n (L.map (Value.int .i64)) rfl (by rw [List.length_map, HLL.out, Nat.mul_one]) (fun hm => (HI5.out.fr ((Fr.refl [] w5).alloc _) (by simp)).news (by rw [HLL.out]; exact hm)) (ints_one L) (by unfold maxLen; omega) (by omega) (by simp) w5 (Nat.le_refl _) ((Fr.refl [] w5).alloc _) ?_) | fail)
  intro v7 w7 hv7 f7
  obtain ⟨hown7, g7, c7, rfl, hc7⟩ := hv7
  have hm7 : MemAt 55 (w7.alloc (.cells #[.slice (some ⟨g7, 0, none⟩) n c7, .int .i64 0] 55)) w7.heap.size g7 L 0 := by
    have h0 := memAt_owned 55 w7 w5.heap.size g7 c7 L 0 (by rw [HLL.out]; exact hown7)
    rwa [HLL.out] at h0
  have hg7 : w5.heap.size ≤ g7 := ownsRow_base hown7
  have d0 := f7.cell e0 (by simp); have d1 := f7.cell e1 (by simp); have d2 := f7.cell e2 (by simp); have d3 := f7.cell e3 (by simp); have d4 := f7.cell e4 (by simp)
  have HM7 := Lib.hid hm7; have HF7 := Lib.hid f7
  clear hown7 hm7 f7 e0 e1 e2 e3 e4
  have y0 := ((Fr.refl [] w7).alloc (.cells #[.slice (some ⟨g7, 0, none⟩) n c7, .int .i64 0] 55)).cell d0 (by simp)
  have y1 := ((Fr.refl [] w7).alloc (.cells #[.slice (some ⟨g7, 0, none⟩) n c7, .int .i64 0] 55)).cell d1 (by simp)
  have y2 := ((Fr.refl [] w7).alloc (.cells #[.slice (some ⟨g7, 0, none⟩) n c7, .int .i64 0] 55)).cell d2 (by simp)
  have y3 := ((Fr.refl [] w7).alloc (.cells #[.slice (some ⟨g7, 0, none⟩) n c7, .int .i64 0] 55)).cell d3 (by simp)
  have y4 := ((Fr.refl [] w7).alloc (.cells #[.slice (some ⟨g7, 0, none⟩) n c7, .int .i64 0] 55)).cell d4 (by simp)
  clear d0 d1 d2 d3 d4
  have hp0 : Play w3.heap.size ((w7.alloc (.cells #[.slice (some ⟨g7, 0, none⟩) n c7, .int .i64 0] 55)).alloc (.cells #[.int .i64 cv.wo, .int .i64 cv.sl, .int .i64 cv.st, .int .i64 cv.wa, .int .i64 cv.us, .slice none 0 0] 58)) p pm qm (w7.heap.size + 1) w7.heap.size g7 cv ⟨[], [], 0, false⟩ [] L (n : Int) 0 (.slice none 0 0) (.slice none 0 0) (.slice none 0 0) := by
    have h5 := HF7.out.size
    have h6 := HM7.out.ne
    have h7 := HM7.out.qlt
    rw [World.size_alloc] at h7
    have h8 := HFB.out.size
    have fr7 : Fr [] w5 ((w7.alloc (.cells #[.slice (some ⟨g7, 0, none⟩) n c7, .int .i64 0] 55)).alloc (.cells #[.int .i64 cv.wo, .int .i64 cv.sl, .int .i64 cv.st, .int .i64 cv.wa, .int .i64 cv.us, .slice none 0 0] 58)) := (HF7.out.alloc _).alloc _
    refine ⟨HIN0.out.fr0 fr7, ⟨⟨heap_new_at' (by simp), World.ownsRow_nil _ _ _ _, by simp [Value.ownBlock]⟩, HM7.out.fr ((Fr.refl [] _).alloc _) (by simp) (by simp), ⟨by omega, by omega⟩, by simp [Value.ownBlock], ?_⟩, fun b hb hr => ?_⟩
    · rintro b (e | e | e | e)
      · omega
      · omega
      · omega
      · simp [Value.ownBlock] at e
    · have h9 := HIN0.out.lt hb
      rcases hr with e | e | e | e
      · omega
      · omega
      · omega
      · simp [Value.ownBlock] at e
  have HP0 := Lib.hid hp0
  have HFB8 := Lib.hid (HFB.out.trans (FB.of ((HF7.out.alloc (.cells #[.slice (some ⟨g7, 0, none⟩) n c7, .int .i64 0] 55)).alloc (.cells #[.int .i64 cv.wo, .int .i64 cv.sl, .int .i64 cv.st, .int .i64 cv.wa, .int .i64 cv.us, .slice none 0 0] 58))))
  have HT := Lib.hid (touched_any _ pm qm L n hp0.a.m)
  clear hp0 hg7
  go_wp2_with fail
  refine HT.out.mono ?_
  rintro en w8 ⟨rfl, h8⟩
  subst h8
  clear HT y0 y1 y2 y3 y4
  generalize ((w7.alloc (.cells #[.slice (some ⟨g7, 0, none⟩) n c7, .int .i64 0] 55)).alloc (.cells #[.int .i64 cv.wo, .int .i64 cv.sl, .int .i64 cv.st, .int .i64 cv.wa, .int .i64 cv.us, .slice none 0 0] 58)) = w8 at HP0 HFB8 ⊢
  generalize w7.heap.size + 1 = ph at HP0 ⊢
  generalize w7.heap.size = pr at HP0 ⊢
  have HS := Lib.hid hS
  have hS1 : 1 ≤ S ∧ S ≤ 5 := by omega
  clear hS
  obtain ⟨m61, hm61⟩ : ∃ m61 : Nat, m61 = (st % 61).toNat := ⟨_, rfl⟩
  have hm60 : m61 ≤ 60 := by omega
  go_wp2_with fail
  go_loopw [15] (fun i wr => ∃ k m : Nat, ∃ t tr : Int, ∃ M Sn : List Int, ∃ s : TwS, ∃ vR vL v : Value, k ≤ m61 ∧ i = .int .i64 (k : Int) ∧ (0 ≤ tr ∧ tr ≤ k ∧ n + tr ≤ t ∧ t ≤ n + 21 * k) ∧ m ≤ k ∧ Sn.length ≤ k ∧ M.length = n ∧ Both S s Sn m ∧ FB w3.heap.size w3 wr ∧ Play w3.heap.size wr p pm qm ph pr g7 cv s Sn M t tr vR vL v) (fun i _ => m61 - (intOf i).toNat)
  case atStart => exact ⟨0, 0, (n : Int), 0, L, [], _, _, _, _, by omega, rfl, ⟨by omega, by omega, by omega, by omega⟩, by omega, by simp, HLL.out, both_zero (by omega), HFB8.out, HP0.out⟩
  case round =>
    obtain ⟨k, m, t, tr, M, Sn, s, vR, vL, v, hk, rfl, htt, hmk, hsn, hml, hboth, hfb, hplay⟩ := hrel
    have HPL := Lib.hid hplay; have HBO := Lib.hid hboth; have HF := Lib.hid hfb
    clear hplay hboth hfb
    by_cases hlt : k < m61
    · have hwrs := fun (W : World) (f : FB w3.heap.size w3 W) => HWRS.out.fr (FB.base HBEG.out.f f HBEG.out.f.size)
      have hgb : ∀ b, w3.heap.size ≤ b → ∀ a, gt = some a → l.length ≠ 0 → a.block ≠ b := fun b hb a ha h0 => by
        have h4 := HBEG.out.f.size
        have h5 := HGL.out a ha (by rw [HLEN1.out]; exact h0)
        omega
      have hW := writes_any wr pm qm M t gt cap l k HPL.out.a.m (by omega) (by omega) (hwrs wr HF.out) (by rw [← HLEN1.out]; omega) (by omega) (fun a ha h0 => ⟨hgb pm (HPL.out.a.ge pm (.inr (.inl rfl))) a ha h0, hgb qm (HPL.out.a.ge qm (.inr (.inr (.inl rfl)))) a ha h0⟩) ⟨by omega, by omega⟩
      rw [← HLEN1.out] at hW
      have HW := Lib.hid hW; have HWRS2 := Lib.hid hwrs; have HGB := Lib.hid hgb
      clear hW hwrs hgb
      go_wp2_with fail
      refine HW.out.mono ?_
      rintro en wa ⟨rfl, t', ht2, ht3, hma, fa⟩
      have hRW := rwrites_any wa pr g7 M tr gt cap l k (HPL.out.mid fa) (HWRS2.out wa (HF.out.trans (HPL.out.a.memFB fa))) (by rw [← HLEN1.out]; omega) (by omega) (fun a ha h0 => HGB.out g7 (HPL.out.b.ge g7 (.inr (.inr (.inl rfl)))) a ha h0) ⟨by omega, by omega⟩
      rw [← HLEN1.out] at hRW
      have HRW := Lib.hid hRW; have HMA := Lib.hid hma; have HFA := Lib.hid fa
      clear hRW hma fa HW
      go_wp2_with fail
      refine HRW.out.mono ?_
      rintro en wb ⟨rfl, hmb, fb⟩
      obtain ⟨hpb, hfbb⟩ := HPL.out.mem HFA.out HMA.out fb hmb
      have hml' : (wrL k l M).length = n := by rw [length_wrL, hml]
      have hcells := HBEG.out.hn
      generalize wrL k l M = M2 at hpb hml'
      have hst := tstep_any w3.heap.size wb p pm qm cv vR vL s M2 t' HBEG.out.hc hpb.a (by omega) (by omega) (by rw [HBO.out.hn]; omega) (by rw [HBO.out.hn]; omega) (by rw [hml']; exact hcells.symm) (by have := HBO.out.hrl; have := HS.out; omega)
      rw [← HS.out] at hst
      have HST := Lib.hid hst; have HPB := Lib.hid hpb; have HFBB := Lib.hid (HF.out.trans hfbb)
      obtain ⟨m2, hboth2, hm2⟩ := HBO.out.step (loadV M2 (cv.slot s.r.length))
      have hnx := HBO.out.next
      have hdd := HBO.out.hd
      have hsn2 := seeL_len S (loadV M2 (cv.slot s.r.length)) Sn
      clear hst hpb hfbb HRW HMA HFA HPL HF HWRS2 HGB hmb fb
      go_wp2_with fail
      refine HST.out.mono ?_
      rintro en wc ⟨vR', vL', rfl, hc1, hc2, hc3, hc4⟩
      have hpc := HPB.out.step hc1 hc2 hc4
      have hrst := rstep_any wc ph pr g7 cv v Sn M2 tr HBEG.out.hc hpc.b.r (by omega) hpc.b.m (by omega) (by omega) (by rw [hml']; exact hcells.symm) hpc.b.hpr hpc.b.hv
      rw [← HS.out, hnx, ← hdd] at hrst
      have HRST := Lib.hid hrst; have HPC := Lib.hid hpc; have HFC := Lib.hid (HFBB.out.trans hc3)
      clear hrst hpc hc1 hc2 hc3 hc4 HST HPB HFBB
      go_wp2_with fail
      refine HRST.out.mono ?_
      intro en wd hrp
      obtain ⟨rfl, ⟨v', hpd⟩, hfd⟩ := HPC.out.rstep hrp
      have htr : ((if s.d = true then t' else t' + 1) = t' ∧ (if s.d = true then tr else tr + 1) = tr) ∨ ((if s.d = true then t' else t' + 1) = t' + 1 ∧ (if s.d = true then tr else tr + 1) = tr + 1) := by
        cases s.d
        · exact .inr ⟨rfl, rfl⟩
        · exact .inl ⟨rfl, rfl⟩
      have hd2 := hboth2.hd
      rw [← hd2]
      generalize (if s.d = true then t' else t' + 1) = t2 at hpd htr
      generalize (if s.d = true then tr else tr + 1) = tr2 at hpd htr
      generalize TwS.step S (loadV M2 (cv.slot s.r.length)) s = s2 at hpd hboth2 hd2 ⊢
      generalize seeL S (loadV M2 (cv.slot s.r.length)) Sn = Sn2 at hpd hboth2 hd2 hsn2
      have hwords := hboth2.words
      have HPD := Lib.hid hpd; have HBO2 := Lib.hid hboth2; have HFD := Lib.hid (HFC.out.trans hfd)
      have hro := fun (W : World) (f : Fr [] wd W) => trounds_any W p cv vR' vL' s2.r s2.l s2.n s2.d (HPD.out.fr0 f).a.tw
      rw [hboth2.hn] at hro
      have hrr := fun (W : World) (f : Fr [] wd W) => rrounds_any W ph cv v' Sn2 HBEG.out.hc (HPD.out.fr0 f).b.r (by omega)
      rw [← HS.out, hboth2.rounds] at hrr
      have hwo := fun (W : World) (f : Fr [] wd W) => twords_any W p cv vR' vL' s2.r s2.l s2.n s2.d (HPD.out.fr0 f).a.tw (fun h => HBO2.out.some (by omega) h) (by have := HBO2.out.hll; omega)
      rw [hwords] at hwo
      have hwr := fun (W : World) (f : Fr [] wd W) => rwords_any W ph cv v' Sn2 HBEG.out.hc (HPD.out.fr0 f).b.r (by omega)
      rw [← HS.out] at hwr
      generalize (if doneB S Sn2 = true then List.drop (Sn2.length - S) Sn2 else []) = X at hwo hwr
      have HTO := Lib.hid (fun (W : World) (f : Fr [] wd W) => touched_any W pm qm M2 t2 (HPD.out.fr0 f).a.m)
      have HRO := Lib.hid hro; have HRR := Lib.hid hrr; have HWO := Lib.hid hwo; have HWR := Lib.hid hwr
      have q1 := hpd.b.m.slot1
      obtain ⟨z, hz⟩ : ∃ z, z = t2 - n := ⟨_, rfl⟩
      have HSUB := Lib.hid (show IntKind.i64.wrap (t2 - (n : Int)) = z by rw [IntKind.wrap_i64]; omega)
      have hzt : ¬ z < tr2 := by omega
      obtain ⟨bd, hbd⟩ : ∃ bd, bd = s2.d := ⟨_, rfl⟩
      rw [← hbd]
      have HBD := Lib.hid hbd
      clear hro hrr hwo hwr hpd hboth2 hd2 hwords hz hrp hfd HPC HRST HFC hdd hnx hbd
      go_wp2_with fail
      refine wp_region_held_drew (S := fun w' => w'.cell? ⟨pr, 1, none⟩ = some (.int .i64 tr2)) (by kernel_rfl) q1 (fun hHeld => ?_)
      refine wpAnyH_take (i := 0) (oi := _) (v := ?_) rfl (by kernel_rfl) (by kernel_rfl) (by kernel_rfl) (fun _ _ _ h => h) (Or.inl ⟨by rfl, ?_⟩) (by assumption) ?_
      rotate_left
      · intro w hSw
        try dsimp only at hSw
        try simp only [List.getElem_toArray, List.getElem_cons_zero]
        go_split_ands
        go_simp
        try with_reducible rfl
      try simp only [Act.put, List.getElem_toArray, List.getElem_cons_zero, List.setIfInBounds_toArray, List.set_cons_zero, List.set_cons_succ]
      refine wpAnyH_take (i := 1) (oi := _) (v := ?_) rfl (by kernel_rfl) (by kernel_rfl) (by kernel_rfl) (fun _ _ _ h => h) (Or.inl ⟨by rfl, ?_⟩) (by assumption) ?_
      rotate_left
      · intro w hSw
        try dsimp only at hSw
        try simp only [List.getElem_toArray, List.getElem_cons_succ, List.getElem_cons_zero]
        go_split_ands
        go_simp
        try with_reducible rfl
      try simp only [Act.put, List.getElem_toArray, List.getElem_cons_succ, List.getElem_cons_zero, List.setIfInBounds_toArray, List.set_cons_zero, List.set_cons_succ]
      refine wpAnyH_take (i := 2) (oi := _) (v := ?_) rfl (by kernel_rfl) (by kernel_rfl) (by kernel_rfl) (fun _ _ _ h => h) (Or.inl ⟨by rfl, ?_⟩) (by assumption) ?_
      rotate_left
      · intro w hSw
        try dsimp only at hSw
        try simp only [List.getElem_toArray, List.getElem_cons_succ, List.getElem_cons_zero]
        go_split_ands
        go_simp
        try with_reducible rfl
      try simp only [Act.put, List.getElem_toArray, List.getElem_cons_succ, List.getElem_cons_zero, List.setIfInBounds_toArray, List.set_cons_zero, List.set_cons_succ]
      refine wpAnyH_take (i := 3) (oi := _) (v := ?_) rfl (by kernel_rfl) (by kernel_rfl) (by kernel_rfl) (fun _ _ _ h => h) (Or.inl ⟨by rfl, ?_⟩) (by assumption) ?_
      rotate_left
      · intro w hSw
        try dsimp only at hSw
        try simp only [List.getElem_toArray, List.getElem_cons_succ, List.getElem_cons_zero]
        go_split_ands
        go_simp
        try with_reducible rfl
      try simp only [Act.put, List.getElem_toArray, List.getElem_cons_succ, List.getElem_cons_zero, List.setIfInBounds_toArray, List.set_cons_zero, List.set_cons_succ]
      refine wpAnyH_take (i := 4) (oi := _) (v := ?_) rfl (by kernel_rfl) (by kernel_rfl) (by kernel_rfl) (fun _ _ _ h => h) (Or.inl ⟨by rfl, ?_⟩) (by assumption) ?_
      rotate_left
      · intro w hSw
        try dsimp only at hSw
        try simp only [List.getElem_toArray, List.getElem_cons_succ, List.getElem_cons_zero]
        go_split_ands
        go_simp
        try with_reducible rfl
      try simp only [Act.put, List.getElem_toArray, List.getElem_cons_succ, List.getElem_cons_zero, List.setIfInBounds_toArray, List.set_cons_zero, List.set_cons_succ]
      refine wpAnyH_take (i := 6) (oi := _) (v := ?_) rfl (by kernel_rfl) (by kernel_rfl) (by kernel_rfl) (fun _ _ _ h => h) (Or.inl ⟨by rfl, ?_⟩) (by assumption) ?_
      rotate_left
      · intro w hSw
        try dsimp only at hSw
        try simp only [List.getElem_toArray, List.getElem_cons_succ, List.getElem_cons_zero]
        go_split_ands
        go_simp
        try with_reducible rfl
      try simp only [Act.put, List.getElem_toArray, List.getElem_cons_succ, List.getElem_cons_zero, List.setIfInBounds_toArray, List.set_cons_zero, List.set_cons_succ]
      refine wpAnyH_ready (rs := [5]) (by kernel_rfl) (by simp) ?_
      refine AllReadyH.cons (o := _) rfl (fun K hK => ?_) AllReadyH.nil
      simp only [List.getElem_toArray, List.getElem_cons_succ, List.getElem_cons_zero]
      go_simp
      refine (HRO.out wd.drew (Fr.refl [] wd).drew).mono ?_
      rintro en w8 ⟨rfl, rfl⟩
      go_wp2_with fail
      refine hK.out _ _ q1 (fun hHeld => ?_)
      clear hK K
      try simp only [Act.put, List.getElem_toArray, List.getElem_cons_succ, List.getElem_cons_zero, List.setIfInBounds_toArray, List.set_cons_zero, List.set_cons_succ]
      refine wpAnyH_ready (rs := [7]) (by kernel_rfl) (by simp) ?_
      refine AllReadyH.cons (o := _) rfl (fun K hK => ?_) AllReadyH.nil
      simp only [List.getElem_toArray, List.getElem_cons_succ, List.getElem_cons_zero]
      go_simp
      refine (HRR.out wd.drew (Fr.refl [] wd).drew).mono ?_
      rintro en w9 ⟨rfl, f9⟩
      have F9 := (Fr.refl [] wd).drew.trans f9
      go_wp2_with fail
      refine hK.out _ _ (F9.cell q1 (by simp)) (fun hHeld => ?_)
      clear hK K
      try simp only [Act.put, List.getElem_toArray, List.getElem_cons_succ, List.getElem_cons_zero, List.setIfInBounds_toArray, List.set_cons_zero, List.set_cons_succ]
      refine wpAnyH_take (i := 8) (oi := _) (v := ?_) rfl (by kernel_rfl) (by kernel_rfl) (by kernel_rfl) (fun _ _ _ h => h) (Or.inl ⟨by rfl, ?_⟩) (by assumption) ?_
      rotate_left
      · intro w hSw
        try dsimp only at hSw
        try simp only [List.getElem_toArray, List.getElem_cons_succ, List.getElem_cons_zero]
        go_split_ands
        go_simp
        try with_reducible rfl
      try simp only [Act.put, List.getElem_toArray, List.getElem_cons_succ, List.getElem_cons_zero, List.setIfInBounds_toArray, List.set_cons_zero, List.set_cons_succ]
      refine wpAnyH_take (i := 9) (oi := _) (v := ?_) rfl (by kernel_rfl) (by kernel_rfl) (by kernel_rfl) (fun _ _ _ h => h) (Or.inl ⟨by rfl, ?_⟩) (by assumption) ?_
      rotate_left
      · intro w hSw
        try dsimp only at hSw
        try simp only [List.getElem_toArray, List.getElem_cons_succ, List.getElem_cons_zero]
        go_split_ands
        go_simp
        try with_reducible rfl
      try simp only [Act.put, List.getElem_toArray, List.getElem_cons_succ, List.getElem_cons_zero, List.setIfInBounds_toArray, List.set_cons_zero, List.set_cons_succ]
      refine wpAnyH_take (i := 10) (oi := _) (v := ?_) rfl (by kernel_rfl) (by kernel_rfl) (by kernel_rfl) (fun _ _ _ h => h) (Or.inl ⟨by rfl, ?_⟩) (by assumption) ?_
      rotate_left
      · intro w hSw
        try dsimp only at hSw
        try simp only [List.getElem_toArray, List.getElem_cons_succ, List.getElem_cons_zero]
        go_split_ands
        go_simp
        try with_reducible rfl
      try simp only [Act.put, List.getElem_toArray, List.getElem_cons_succ, List.getElem_cons_zero, List.setIfInBounds_toArray, List.set_cons_zero, List.set_cons_succ]
      refine wpAnyH_take (i := 11) (oi := _) (v := ?_) rfl (by kernel_rfl) (by kernel_rfl) (by kernel_rfl) (fun _ _ _ h => h) (Or.inl ⟨by rfl, ?_⟩) (by assumption) ?_
      rotate_left
      · intro w hSw
        try dsimp only at hSw
        try simp only [List.getElem_toArray, List.getElem_cons_succ, List.getElem_cons_zero]
        go_split_ands
        go_simp
        try with_reducible rfl
      try simp only [Act.put, List.getElem_toArray, List.getElem_cons_succ, List.getElem_cons_zero, List.setIfInBounds_toArray, List.set_cons_zero, List.set_cons_succ]
      refine wpAnyH_take (i := 13) (oi := _) (v := ?_) rfl (by kernel_rfl) (by kernel_rfl) (by kernel_rfl) (fun _ _ _ h => h) (Or.inl ⟨by rfl, ?_⟩) (by assumption) ?_
      rotate_left
      · intro w hSw
        try dsimp only at hSw
        try simp only [List.getElem_toArray, List.getElem_cons_succ, List.getElem_cons_zero]
        go_split_ands
        go_simp
        try with_reducible rfl
      try simp only [Act.put, List.getElem_toArray, List.getElem_cons_succ, List.getElem_cons_zero, List.setIfInBounds_toArray, List.set_cons_zero, List.set_cons_succ]
      refine wpAnyH_ready (rs := [12]) (by kernel_rfl) (by simp) ?_
      refine AllReadyH.cons (o := _) rfl (fun K hK => ?_) AllReadyH.nil
      simp only [List.getElem_toArray, List.getElem_cons_succ, List.getElem_cons_zero]
      go_simp
      refine (HWO.out w9 F9).mono ?_
      rintro en w10 ⟨v10, rfl, hv10, hn10, f10⟩
      obtain ⟨g10, c10, rfl, hI10, -⟩ := hv10.ints
      have F10 := F9.trans f10
      have HI10 := Lib.hid hI10
      clear hv10 hn10 hI10
      go_wp2_with fail
      refine hK.out _ _ (F10.cell q1 (by simp)) (fun hHeld => ?_)
      clear hK K
      try simp only [Act.put, List.getElem_toArray, List.getElem_cons_succ, List.getElem_cons_zero, List.setIfInBounds_toArray, List.set_cons_zero, List.set_cons_succ]
      refine wpAnyH_ready (rs := [14]) (by kernel_rfl) (by simp) ?_
      refine AllReadyH.cons (o := _) rfl (fun K hK => ?_) AllReadyH.nil
      simp only [List.getElem_toArray, List.getElem_cons_succ, List.getElem_cons_zero]
      go_simp
      refine (HWR.out w10 F10).mono ?_
      rintro en w11 ⟨g11, c11, rfl, hI11, f11⟩
      have F11 := F10.trans f11
      have HI11 := Lib.hid hI11
      have HI10b := Lib.hid (HI10.out.fr f11 (by simp))
      clear hI11
      go_wp2_with fail
      refine hK.out _ _ (F11.cell q1 (by simp)) (fun hHeld => ?_)
      clear hK K
      try simp only [Act.put, List.getElem_toArray, List.getElem_cons_succ, List.getElem_cons_zero, List.setIfInBounds_toArray, List.set_cons_zero, List.set_cons_succ]
      refine wpAnyH_ready (rs := [15]) (by kernel_rfl) (by simp) ?_
      refine AllReadyH.cons (o := _) rfl (fun K hK => ?_) AllReadyH.nil
      simp only [List.getElem_toArray, List.getElem_cons_succ, List.getElem_cons_zero]
      go_simp
      refine (ints_len w11 g10 g11 c10 c11 _ _ _ _ (by rfl) (by rfl) HI10b.out HI11.out).mono ?_
      rintro en w12 ⟨rfl, f12⟩
      rw [decide_eq_true rfl]
      have F12 := F11.trans f12
      go_wp2_with fail
      refine hK.out _ _ (F12.cell q1 (by simp)) (fun hHeld => ?_)
      clear hK K
      try simp only [Act.put, List.getElem_toArray, List.getElem_cons_succ, List.getElem_cons_zero, List.setIfInBounds_toArray, List.set_cons_zero, List.set_cons_succ]
      refine wpAnyH_take (i := 16) (oi := _) (v := ?_) rfl (by kernel_rfl) (by kernel_rfl) (by kernel_rfl) (fun _ _ _ h => h) (Or.inl ⟨by rfl, ?_⟩) (by assumption) ?_
      rotate_left
      · intro w hSw
        try dsimp only at hSw
        try simp only [List.getElem_toArray, List.getElem_cons_succ, List.getElem_cons_zero]
        go_split_ands
        go_simp
        try with_reducible rfl
      try simp only [Act.put, List.getElem_toArray, List.getElem_cons_succ, List.getElem_cons_zero, List.setIfInBounds_toArray, List.set_cons_zero, List.set_cons_succ]
      refine wpAnyH_take (i := 17) (oi := _) (v := ?_) rfl (by kernel_rfl) (by kernel_rfl) (by kernel_rfl) (fun _ _ _ h => h) (Or.inl ⟨by rfl, ?_⟩) (by assumption) ?_
      rotate_left
      · intro w hSw
        try dsimp only at hSw
        try simp only [List.getElem_toArray, List.getElem_cons_succ, List.getElem_cons_zero]
        go_split_ands
        go_simp
        try with_reducible rfl
      try simp only [Act.put, List.getElem_toArray, List.getElem_cons_succ, List.getElem_cons_zero, List.setIfInBounds_toArray, List.set_cons_zero, List.set_cons_succ]
      refine wpAnyH_take (i := 18) (oi := _) (v := ?_) rfl (by kernel_rfl) (by kernel_rfl) (by kernel_rfl) (fun _ _ _ h => h) (Or.inl ⟨by rfl, ?_⟩) (by assumption) ?_
      rotate_left
      · intro w hSw
        try dsimp only at hSw
        try simp only [List.getElem_toArray, List.getElem_cons_succ, List.getElem_cons_zero]
        go_split_ands
        go_simp
        try with_reducible rfl
      try simp only [Act.put, List.getElem_toArray, List.getElem_cons_succ, List.getElem_cons_zero, List.setIfInBounds_toArray, List.set_cons_zero, List.set_cons_succ]
      refine wpAnyH_take (i := 19) (oi := _) (v := ?_) rfl (by kernel_rfl) (by kernel_rfl) (by kernel_rfl) (fun _ _ _ h => h) (Or.inl ⟨by rfl, ?_⟩) (by assumption) ?_
      rotate_left
      · intro w hSw
        try dsimp only at hSw
        try simp only [List.getElem_toArray, List.getElem_cons_succ, List.getElem_cons_zero]
        go_split_ands
        go_simp
        try with_reducible rfl
      try simp only [Act.put, List.getElem_toArray, List.getElem_cons_succ, List.getElem_cons_zero, List.setIfInBounds_toArray, List.set_cons_zero, List.set_cons_succ]
      refine wpAnyH_take (i := 21) (oi := _) (v := ?_) rfl (by kernel_rfl) (by kernel_rfl) (by kernel_rfl) (fun _ _ _ h => h) (Or.inl ⟨by rfl, ?_⟩) (by assumption) ?_
      rotate_left
      · intro w hSw
        try dsimp only at hSw
        try simp only [List.getElem_toArray, List.getElem_cons_succ, List.getElem_cons_zero]
        go_split_ands
        go_simp
        try with_reducible rfl
      try simp only [Act.put, List.getElem_toArray, List.getElem_cons_succ, List.getElem_cons_zero, List.setIfInBounds_toArray, List.set_cons_zero, List.set_cons_succ]
      refine wpAnyH_take (i := 23) (oi := _) (v := ?_) rfl (by kernel_rfl) (by kernel_rfl) (by kernel_rfl) (fun _ _ _ h => h) (Or.inl ⟨by rfl, ?_⟩) (by assumption) ?_
      rotate_left
      · intro w hSw
        try dsimp only at hSw
        try simp only [List.getElem_toArray, List.getElem_cons_succ, List.getElem_cons_zero]
        go_split_ands
        go_simp
        try with_reducible rfl
      try simp only [Act.put, List.getElem_toArray, List.getElem_cons_succ, List.getElem_cons_zero, List.setIfInBounds_toArray, List.set_cons_zero, List.set_cons_succ]
      refine wpAnyH_take (i := 24) (oi := _) (v := ?_) rfl (by kernel_rfl) (by kernel_rfl) (by kernel_rfl) (fun _ _ _ h => h) (Or.inl ⟨by rfl, ?_⟩) (by assumption) ?_
      rotate_left
      · intro w hSw
        try dsimp only at hSw
        try simp only [List.getElem_toArray, List.getElem_cons_succ, List.getElem_cons_zero]
        go_split_ands
        go_simp
        try with_reducible rfl
      try simp only [Act.put, List.getElem_toArray, List.getElem_cons_succ, List.getElem_cons_zero, List.setIfInBounds_toArray, List.set_cons_zero, List.set_cons_succ]
      refine wpAnyH_take (i := 25) (oi := _) (v := ?_) rfl (by kernel_rfl) (by kernel_rfl) (by kernel_rfl) (fun _ _ _ h => h) (Or.inl ⟨by rfl, ?_⟩) (by assumption) ?_
      rotate_left
      · intro w hSw
        try dsimp only at hSw
        try simp only [List.getElem_toArray, List.getElem_cons_succ, List.getElem_cons_zero]
        go_split_ands
        go_simp
        try with_reducible rfl
      try simp only [Act.put, List.getElem_toArray, List.getElem_cons_succ, List.getElem_cons_zero, List.setIfInBounds_toArray, List.set_cons_zero, List.set_cons_succ]
      refine wpAnyH_take (i := 26) (oi := _) (v := ?_) rfl (by kernel_rfl) (by kernel_rfl) (by kernel_rfl) (fun _ _ _ h => h) (Or.inl ⟨by rfl, ?_⟩) (by assumption) ?_
      rotate_left
      · intro w hSw
        try dsimp only at hSw
        try simp only [List.getElem_toArray, List.getElem_cons_succ, List.getElem_cons_zero]
        go_split_ands
        go_simp
        try with_reducible rfl
      try simp only [Act.put, List.getElem_toArray, List.getElem_cons_succ, List.getElem_cons_zero, List.setIfInBounds_toArray, List.set_cons_zero, List.set_cons_succ]
      refine wpAnyH_ready (rs := [20]) (by kernel_rfl) (by simp) ?_
      refine AllReadyH.cons (o := _) rfl (fun K hK => ?_) AllReadyH.nil
      simp only [List.getElem_toArray, List.getElem_cons_succ, List.getElem_cons_zero]
      go_simp
      refine (HTO.out w12 F12).mono ?_
      rintro en w13 ⟨rfl, h13⟩
      subst h13
      have F15 := F12
      go_wp2_with fail
      refine hK.out _ _ (F12.cell q1 (by simp)) (fun hHeld => ?_)
      clear hK K
      try simp only [Act.put, List.getElem_toArray, List.getElem_cons_succ, List.getElem_cons_zero, List.setIfInBounds_toArray, List.set_cons_zero, List.set_cons_succ]
      refine wpAnyH_take (i := 22) (oi := _) (v := ?_) rfl (by kernel_rfl) (by kernel_rfl) (by kernel_rfl) (fun _ _ _ h => h) (Or.inl ⟨by rfl, ?_⟩) (by assumption) ?_
      rotate_left
      · intro w hSw
        try dsimp only at hSw
        try simp only [List.getElem_toArray, List.getElem_cons_succ, List.getElem_cons_zero]
        go_split_ands
        go_simp
        try with_reducible rfl
      try simp only [Act.put, List.getElem_toArray, List.getElem_cons_succ, List.getElem_cons_zero, List.setIfInBounds_toArray, List.set_cons_zero, List.set_cons_succ]
      try rw [HSUB.out]
      refine wpAnyH_take (i := 27) (oi := _) (v := ?_) rfl (by kernel_rfl) (by kernel_rfl) (by kernel_rfl) (fun _ _ _ h => h) (Or.inl ⟨by rfl, ?_⟩) (by assumption) ?_
      rotate_left
      · intro w hSw
        try dsimp only at hSw
        try simp only [List.getElem_toArray, List.getElem_cons_succ, List.getElem_cons_zero]
        go_split_ands
        go_simp
        try with_reducible rfl
      try simp only [Act.put, List.getElem_toArray, List.getElem_cons_succ, List.getElem_cons_zero, List.setIfInBounds_toArray, List.set_cons_zero, List.set_cons_succ]
      refine wpAnyH_take (i := 28) (oi := _) (v := ?_) rfl (by kernel_rfl) (by kernel_rfl) (by kernel_rfl) (fun _ _ _ h => h) (Or.inl ⟨by rfl, ?_⟩) (by assumption) ?_
      rotate_left
      · intro w hSw
        try dsimp only at hSw
        try simp only [List.getElem_toArray, List.getElem_cons_succ, List.getElem_cons_zero]
        go_split_ands
        go_simp
        try with_reducible rfl
      try simp only [Act.put, List.getElem_toArray, List.getElem_cons_succ, List.getElem_cons_zero, List.setIfInBounds_toArray, List.set_cons_zero, List.set_cons_succ]
      refine wpAnyH_done (by kernel_rfl) ?_ _
      go_wp2
      go_roundw
      case rel => exact ⟨k + 1, m2, t2, tr2, M2, Sn2, s2, vR', vL', v', by omega, by go_num, ⟨by omega, by omega, by omega, by omega⟩, by omega, by omega, hml', HBO2.out, HFD.out.trans (FB.of F15), HPD.out.fr0 F15⟩
      case measure => simp [intOf]; omega
    · have HMO := Lib.hid (fun (W : World) (f : Fr [] wr W) => words_any W pm qm M t (HPL.out.fr0 f).a.m (by omega))
      have HIR := Lib.hid (fun (W : World) (f : Fr [] wr W) => (HPL.out.fr0 f).b.m.ints)
      obtain ⟨cr, q0⟩ := HPL.out.b.m.slot0
      rw [hml] at q0
      have HML := Lib.hid hml
      clear hml
      go_wp2_with fail
      refine wp_region_held_drew (S := fun w' => w'.cell? ⟨pr, 0, none⟩ = some (.slice (some ⟨g7, 0, none⟩) n cr)) (by kernel_rfl) q0 (fun hHeld => ?_)
      refine wpAnyH_take (i := 0) (oi := _) (v := ?_) rfl (by kernel_rfl) (by kernel_rfl) (by kernel_rfl) (fun _ _ _ h => h) (Or.inl ⟨by rfl, ?_⟩) (by assumption) ?_
      rotate_left
      · intro w hSw
        try dsimp only at hSw
        try simp only [List.getElem_toArray, List.getElem_cons_zero]
        go_split_ands
        go_simp
        try with_reducible rfl
      try simp only [Act.put, List.getElem_toArray, List.getElem_cons_zero, List.setIfInBounds_toArray, List.set_cons_zero, List.set_cons_succ]
      refine wpAnyH_take (i := 1) (oi := _) (v := ?_) rfl (by kernel_rfl) (by kernel_rfl) (by kernel_rfl) (fun _ _ _ h => h) (Or.inl ⟨by rfl, ?_⟩) (by assumption) ?_
      rotate_left
      · intro w hSw
        try dsimp only at hSw
        try simp only [List.getElem_toArray, List.getElem_cons_succ, List.getElem_cons_zero]
        go_split_ands
        go_simp
        try with_reducible rfl
      try simp only [Act.put, List.getElem_toArray, List.getElem_cons_succ, List.getElem_cons_zero, List.setIfInBounds_toArray, List.set_cons_zero, List.set_cons_succ]
      refine wpAnyH_take (i := 2) (oi := _) (v := ?_) rfl (by kernel_rfl) (by kernel_rfl) (by kernel_rfl) (fun _ _ _ h => h) (Or.inl ⟨by rfl, ?_⟩) (by assumption) ?_
      rotate_left
      · intro w hSw
        try dsimp only at hSw
        try simp only [List.getElem_toArray, List.getElem_cons_succ, List.getElem_cons_zero]
        go_split_ands
        go_simp
        try with_reducible rfl
      try simp only [Act.put, List.getElem_toArray, List.getElem_cons_succ, List.getElem_cons_zero, List.setIfInBounds_toArray, List.set_cons_zero, List.set_cons_succ]
      refine wpAnyH_take (i := 4) (oi := _) (v := ?_) rfl (by kernel_rfl) (by kernel_rfl) (by kernel_rfl) (fun _ _ _ h => h) (Or.inl ⟨by rfl, ?_⟩) (by assumption) ?_
      rotate_left
      · intro w hSw
        try dsimp only at hSw
        try simp only [List.getElem_toArray, List.getElem_cons_succ, List.getElem_cons_zero]
        go_split_ands
        go_simp
        try with_reducible rfl
      try simp only [Act.put, List.getElem_toArray, List.getElem_cons_succ, List.getElem_cons_zero, List.setIfInBounds_toArray, List.set_cons_zero, List.set_cons_succ]
      refine wpAnyH_take (i := 5) (oi := _) (v := ?_) rfl (by kernel_rfl) (by kernel_rfl) (by kernel_rfl) (fun _ _ _ h => h) (Or.inl ⟨by rfl, ?_⟩) (by assumption) ?_
      rotate_left
      · intro w hSw
        try dsimp only at hSw
        try simp only [List.getElem_toArray, List.getElem_cons_succ, List.getElem_cons_zero]
        go_split_ands
        go_simp
        try with_reducible rfl
      try simp only [Act.put, List.getElem_toArray, List.getElem_cons_succ, List.getElem_cons_zero, List.setIfInBounds_toArray, List.set_cons_zero, List.set_cons_succ]
      refine wpAnyH_take (i := 6) (oi := _) (v := ?_) rfl (by kernel_rfl) (by kernel_rfl) (by kernel_rfl) (fun _ _ _ h => h) (Or.inl ⟨by rfl, ?_⟩) (by assumption) ?_
      rotate_left
      · intro w hSw
        try dsimp only at hSw
        try simp only [List.getElem_toArray, List.getElem_cons_succ, List.getElem_cons_zero]
        go_split_ands
        go_simp
        try with_reducible rfl
      try simp only [Act.put, List.getElem_toArray, List.getElem_cons_succ, List.getElem_cons_zero, List.setIfInBounds_toArray, List.set_cons_zero, List.set_cons_succ]
      refine wpAnyH_take (i := 7) (oi := _) (v := ?_) rfl (by kernel_rfl) (by kernel_rfl) (by kernel_rfl) (fun _ _ _ h => h) (Or.inl ⟨by rfl, ?_⟩) (by assumption) ?_
      rotate_left
      · intro w hSw
        try dsimp only at hSw
        try simp only [List.getElem_toArray, List.getElem_cons_succ, List.getElem_cons_zero]
        go_split_ands
        go_simp
        try with_reducible rfl
      try simp only [Act.put, List.getElem_toArray, List.getElem_cons_succ, List.getElem_cons_zero, List.setIfInBounds_toArray, List.set_cons_zero, List.set_cons_succ]
      refine wpAnyH_ready (rs := [3]) (by kernel_rfl) (by simp) ?_
      refine AllReadyH.cons (o := _) rfl (fun K hK => ?_) AllReadyH.nil
      simp only [List.getElem_toArray, List.getElem_cons_succ, List.getElem_cons_zero]
      go_simp
      refine (HMO.out wr.drew (Fr.refl [] wr).drew).mono ?_
      rintro en w20 ⟨g20, c20, rfl, hv20, f20⟩
      have F20 := (Fr.refl [] wr).drew.trans f20
      have HI20 := Lib.hid (IntsAt.of_owns hv20)
      clear hv20
      go_wp2_with fail
      refine hK.out _ _ (F20.cell q0 (by simp)) (fun hHeld => ?_)
      clear hK K
      try simp only [Act.put, List.getElem_toArray, List.getElem_cons_succ, List.getElem_cons_zero, List.setIfInBounds_toArray, List.set_cons_zero, List.set_cons_succ]
      refine wpAnyH_ready (rs := [8]) (by kernel_rfl) (by simp) ?_
      refine AllReadyH.cons (o := _) rfl (fun K hK => ?_) AllReadyH.nil
      simp only [List.getElem_toArray, List.getElem_cons_succ, List.getElem_cons_zero]
      go_simp
      refine (ints_len w20 (some ⟨g20, 0, none⟩) (some ⟨g7, 0, none⟩) c20 cr _ _ _ _ (by first | rfl | exact HML.out.symm) (by first | rfl | exact HML.out.symm) HI20.out (HIR.out w20 F20)).mono ?_
      rintro en w21 ⟨rfl, f21⟩
      rw [decide_eq_true rfl]
      have F21 := F20.trans f21
      go_wp2_with fail
      refine hK.out _ _ (F21.cell q0 (by simp)) (fun hHeld => ?_)
      clear hK K
      try simp only [Act.put, List.getElem_toArray, List.getElem_cons_succ, List.getElem_cons_zero, List.setIfInBounds_toArray, List.set_cons_zero, List.set_cons_succ]
      refine wpAnyH_take (i := 9) (oi := _) (v := ?_) rfl (by kernel_rfl) (by kernel_rfl) (by kernel_rfl) (fun _ _ _ h => h) (Or.inl ⟨by rfl, ?_⟩) (by assumption) ?_
      rotate_left
      · intro w hSw
        try dsimp only at hSw
        try simp only [List.getElem_toArray, List.getElem_cons_succ, List.getElem_cons_zero]
        go_split_ands
        go_simp
        try with_reducible rfl
      try simp only [Act.put, List.getElem_toArray, List.getElem_cons_succ, List.getElem_cons_zero, List.setIfInBounds_toArray, List.set_cons_zero, List.set_cons_succ]
      refine wpAnyH_take (i := 10) (oi := _) (v := ?_) rfl (by kernel_rfl) (by kernel_rfl) (by kernel_rfl) (fun _ _ _ h => h) (Or.inl ⟨by rfl, ?_⟩) (by assumption) ?_
      rotate_left
      · intro w hSw
        try dsimp only at hSw
        try simp only [List.getElem_toArray, List.getElem_cons_succ, List.getElem_cons_zero]
        go_split_ands
        go_simp
        try with_reducible rfl
      try simp only [Act.put, List.getElem_toArray, List.getElem_cons_succ, List.getElem_cons_zero, List.setIfInBounds_toArray, List.set_cons_zero, List.set_cons_succ]
      refine wpAnyH_done (by kernel_rfl) ?_ _
      go_wp2
      go_ret
      exact ⟨rfl, FB.base HBEG.out.f (HF.out.trans (FB.of F21)) HBEG.out.f.size⟩

end Go.Proofs.Ytnjoefanafjniaa
