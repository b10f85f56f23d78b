/- The walk of TwiceAlone. -/
import Derived.Test.YtnjoefanafjniaaTwG
import Derived.Deep.RegionHeld3
namespace Go.Proofs.Ytnjoefanafjniaa
open Go.RowKit

theorem IntsAt.drop {w : World} {q o : Nat} {L : List Int} (h : IntsAt w (some ⟨q, o, none⟩) L) (m : Nat) : IntsAt w (some ⟨q, o + m, none⟩) (L.drop m) := by
  refine ⟨by have := h.1; rw [List.length_drop]; omega, fun j x hx => ?_⟩
  rw [List.getElem?_drop] at hx
  obtain ⟨b, o2, hb, hc⟩ := h.2 (m + j) x hx
  simp only [Option.some.injEq, Addr.mk.injEq, and_true] at hb
  obtain ⟨rfl, rfl⟩ := hb
  exact ⟨q, o + m, rfl, by rw [Nat.add_assoc]; exact hc⟩
theorem ints_len (w : World) (g h : Option Addr) (c d : Nat) (a b : Nat) (L M : List Int) (hL : a = L.length) (hM : b = M.length) (ha : IntsAt w g L) (hb : IntsAt w h M) :
    Calls Try.prog 19 #[.slice g a c, .slice h b d] w fun e w' => e = .returned (.bool (decide (L = M))) ∧ Fr [] w w' := by
  subst hL hM
  exact ints_any w g h c d L M ha hb
/-- A row of numbers that may be longer than m. -/
def RowX (w : World) (b m : Nat) : Prop := ∃ cur : Array Value, w.heap[b]? = some (.cells cur 3 (0, 0)) ∧ ∀ i, i < m → ∃ x : Int, cur[i]? = some (.int .i64 x)
theorem RowX.put {w : World} {q n : Nat} (h : RowX w q n) (i : Nat) (x : Int) : RowX (w.setCell ⟨q, i, none⟩ (.int .i64 x)) q n := by
  obtain ⟨cur, h1, h3⟩ := h
  refine ⟨_, heap_setCell_same h1 _, fun j hj => ?_⟩
  rw [Array.getElem?_setIfInBounds]
  split
  · split
    · exact ⟨x, rfl⟩
    · obtain ⟨y, hy⟩ := h3 j hj
      have := (Array.getElem?_eq_some_iff.1 hy).1
      rename_i e hlt; subst e; exact absurd this hlt
  · exact h3 j hj
theorem RowX.cell {w : World} {q n : Nat} (h : RowX w q n) {i : Nat} (hi : i < n) : (∃ x : Int, w.cell? ⟨q, i, none⟩ = some (.int .i64 x)) ∧ w.frozen? ⟨q, i, none⟩ = false := by
  obtain ⟨cur, h1, h3⟩ := h
  obtain ⟨x, hx⟩ := h3 i hi
  exact ⟨⟨x, cell_of h1 hx⟩, frozen_of h1⟩
theorem rowx_of {w : World} {v : Value} {L : List Int} (h : OwnI w v L) (hL : 1 ≤ L.length) : ∃ (b c : Nat), v = .slice (some ⟨b, 0, none⟩) L.length c ∧ RowX w b L.length ∧ L.length ≤ c := by
  rcases h.2 with ⟨rfl, hn⟩ | ⟨g, cap, cur, rfl, hb, hgg, h1, h2, h3, h4⟩
  · omega
  · refine ⟨g, cap, rfl, ⟨cur, hgg, fun i hi => ?_⟩, h1⟩
    have h5 : (cur.toList.take (L.length * 1))[i]? = (L.map (Value.int .i64))[i]? := by rw [h4]
    rw [List.getElem?_take_of_lt (by omega), List.getElem?_map, List.getElem?_eq_getElem hi] at h5
    exact ⟨_, by rw [← Array.getElem?_toList]; exact h5⟩
theorem wrap2 {x : Int} (h1 : 1 ≤ x) (h2 : x ≤ 5) : IntKind.i64.wrap (IntKind.i64.wrap (2 * x) - 1) = 2 * x - 1 := by
  rw [IntKind.wrap_i64, IntKind.wrap_i64]; omega

set_option maxHeartbeats 8000000 in
set_option maxRecDepth 100000 in
theorem alone_walk (w : World) (g : GivV) (hg : g.right w) :
    Calls Try.prog 5 #[g.val] w fun e w' => e = .returned (.bool true) ∧ Fr [] w w' := by
  have HG := Lib.hid hg
  have hmade := fun (W : World) (f : Fr [] w W) => made_any W g (hg.fr f)
  obtain ⟨a, b, c, d, e, gs, ns, cs, gf, nf, cf, gp, np, cp⟩ := g
  unfold GivV.val at hmade ⊢
  simp only at hmade
  have HMADE := Lib.hid hmade
  clear hg hmade
  go_enter Try.func5, Try.ntmps5
  go_wp2_with fail
  have F0 := (Fr.refl [] w).alloc (.cells #[.int .u8 a, .int .u8 b, .int .u8 c, .int .u8 d, .int .u8 e, .slice gs ns cs, .slice gf nf cf, .slice gp np cp] 27)
  have hbk := heap_alloc_new w (.cells #[.int .u8 a, .int .u8 b, .int .u8 c, .int .u8 d, .int .u8 e, .slice gs ns cs, .slice gf nf cf, .slice gp np cp] 27)
  refine (awake_any _).mono ?_
  rintro en w1 ⟨rfl, f1⟩
  have hb1 := f1.at hbk (by simp)
  have x0 := cell_of (i := 0) hb1 rfl
  have x1 := cell_of (i := 1) hb1 rfl
  have x2 := cell_of (i := 2) hb1 rfl
  have x3 := cell_of (i := 3) hb1 rfl
  have x4 := cell_of (i := 4) hb1 rfl
  have x5 := cell_of (i := 5) hb1 rfl
  have x6 := cell_of (i := 6) hb1 rfl
  have x7 := cell_of (i := 7) hb1 rfl
  have F1 := Lib.hid (F0.trans f1)
  clear hbk hb1 F0 f1
  go_wp2_with fail
  refine (HMADE.out _ F1.out).mono ?_
  rintro en w2 ⟨cv, q, n, rfl, hsm, hn, hq, hrow, f2⟩
  obtain ⟨L, hbeg⟩ := begun_of F1.out hsm hn hq hrow f2
  have HBEG := Lib.hid hbeg
  have c0 := hbeg.cf.c0; have c1 := hbeg.cf.c1; have c2 := hbeg.cf.c2; have c3 := hbeg.cf.c3; have c4 := hbeg.cf.c4
  have hnl := hbeg.n100
  clear hbeg hsm hn hq hrow f2 x0 x1 x2 x3 x4 x5 x6 x7
  have hsl := HBEG.out.hc.2.1
  unfold ConfV.val
  go_wp2_with fail
  have hIb := HBEG.out.hI
  have hLL := HBEG.out.hL
  generalize w2.alloc (.cells #[.int .i64 cv.wo, .int .i64 cv.sl, .int .i64 cv.st, .int .i64 cv.wa, .int .i64 cv.us] 31) = w3 at HBEG c0 c1 c2 c3 c4 hIb ⊢
  generalize w2.heap.size = b4 at HBEG c0 c1 c2 c3 c4 ⊢
  have hlaid := laid_any w3 cv n (some ⟨q, 0, none⟩) n L HBEG.out.hc HBEG.out.hn (by omega) hIb
  rw [hLL] at hlaid
  unfold ConfV.val at hlaid
  refine hlaid.mono ?_
  rintro en w4 ⟨pm, qm, rfl, hpm, hqm, hm, f4⟩
  have d0 := f4.cell c0 (by simp); have d1 := f4.cell c1 (by simp); have d2 := f4.cell c2 (by simp); have d3 := f4.cell c3 (by simp); have d4 := f4.cell c4 (by simp)
  clear c0 c1 c2 c3 c4 hlaid hIb
  go_wp2_with fail
  refine (tnew_any w4 cv).mono ?_
  rintro en w5 ⟨p, rfl, hp, ht, f5⟩
  have hin := begun_in HBEG.out hpm hqm hm f4 hp ht f5
  have HIN := Lib.hid hin
  have HFB := Lib.hid (FB.of (B := w3.heap.size) (f4.trans f5))
  have HT := Lib.hid (touched_any w5 pm qm L n hin.m)
  clear d0 d1 d2 d3 d4 hpm hqm hm hp ht hin f4 f5 hLL
  go_wp2_with fail
  refine HT.out.mono ?_
  rintro en w6 ⟨rfl, rfl⟩
  clear HT
  obtain ⟨S, hS⟩ : ∃ S, S = cv.sl.toNat := ⟨_, rfl⟩
  have HIN0 := Lib.hid (show TwIn w3.heap.size w5 p pm qm cv (alone S (slotsX cv L) 0) L (n : Int) (.slice none 0 0) (.slice none 0 0) by rw [alone_zero (by omega)]; exact HIN.out)
  clear HIN
  go_wp2_with fail
  go_loopw [9] (fun i wr => ∃ k : Nat, k ≤ 2 * S ∧ i = .int .i64 (k : Int) ∧ FB w3.heap.size w3 wr ∧ ∃ vR vL, TwIn w3.heap.size wr p pm qm cv (alone S (slotsX cv L) k) L ((n + k : Nat) : Int) vR vL) (fun i _ => 2 * S - (intOf i).toNat)
  case atStart => exact ⟨0, by omega, rfl, HFB.out, _, _, HIN0.out⟩
  case round =>
    obtain ⟨k, hk, rfl, hfb, vR, vL, hin⟩ := hrel
    have c1 := hfb.cell HBEG.out.cf.c1 HBEG.out.bl
    have HFBR := Lib.hid hfb; have HINR := Lib.hid hin
    clear hfb hin
    have hlen := HBEG.out.hL
    have hcells := HBEG.out.hn
    by_cases hlt : k < 2 * S
    · have HW := Lib.hid (fun (W : World) (f : Fr [] wr W) => awords_any w3.heap.size W p pm qm cv vR vL L ((n + k : Nat) : Int) k HBEG.out.hc (by rw [← hS]; exact HINR.out.fr0 f))
      have hst := fun (W : World) (f : Fr [] wr W) => astep_any w3.heap.size W p pm qm cv vR vL L ((n + k : Nat) : Int) k HBEG.out.hc (by rw [← hS]; exact HINR.out.fr0 f) (by omega) (by omega) (by omega)
      rw [← hS, if_pos hlt, show ((n + k : Nat) : Int) + 1 = ((n + (k + 1) : Nat) : Int) by omega] at hst
      have HST := Lib.hid hst
      rw [← hS] at HW
      have hd0 := alone_d S (slotsX cv L) (k + 1) (by omega)
      clear hst
      by_cases hlast : k + 1 = 2 * S
      · have hd : (alone S (slotsX cv L) (k + 1)).d = true := by rw [hd0]; exact decide_eq_true (by omega)
        have HQ := Lib.hid (show ((k : Int) == IntKind.i64.wrap (IntKind.i64.wrap (2 * cv.sl) - 1)) = true by rw [wrap2 hsl.1 hsl.2]; exact beq_iff_eq.2 (by omega))
        clear hd0
        go_wp2_with fail
        go_region_held3 (fun w' => w'.cell? ⟨b4, 1, none⟩ = some (.int .i64 cv.sl))
          (first | go_keep | exact f6.cell c1 (by simp) | exact fB7.cell (f6.cell c1 (by simp)) HBEG.out.bl)
          (first
            | (go_at_call 17; refine (HW.out wr.drew (Fr.refl [] wr).drew).mono ?_; rintro en w6 ⟨v6, rfl, hv6, -, f6⟩; rw [if_neg (by omega)] at hv6; obtain ⟨g6, c6, rfl, -, -⟩ := hv6.ints)
            | (go_at_call 13; refine (HST.out w6 ((Fr.refl [] wr).drew.trans f6)).mono ?_; rintro en w7 ⟨vR', vL', rfl, h7, -, fB7, -⟩; rw [hd]))
        rw [HQ.out]
        go_wp2
        go_roundw
        case rel => exact ⟨k + 1, by omega, by go_num, HFBR.out.trans ((FB.of ((Fr.refl [] wr).drew.trans f6)).trans fB7), vR', vL', h7⟩
        case measure => simp [intOf]; omega
      · have hd : (alone S (slotsX cv L) (k + 1)).d = false := by rw [hd0]; exact decide_eq_false (by omega)
        have HQ := Lib.hid (show ((k : Int) == IntKind.i64.wrap (IntKind.i64.wrap (2 * cv.sl) - 1)) = false by rw [wrap2 hsl.1 hsl.2]; exact beq_eq_false_iff_ne.2 (by omega))
        clear hd0
        go_wp2_with fail
        go_region_held3 (fun w' => w'.cell? ⟨b4, 1, none⟩ = some (.int .i64 cv.sl))
          (first | go_keep | exact f6.cell c1 (by simp) | exact fB7.cell (f6.cell c1 (by simp)) HBEG.out.bl)
          (first
            | (go_at_call 17; refine (HW.out wr.drew (Fr.refl [] wr).drew).mono ?_; rintro en w6 ⟨v6, rfl, hv6, -, f6⟩; rw [if_neg (by omega)] at hv6; obtain ⟨g6, c6, rfl, -, -⟩ := hv6.ints)
            | (go_at_call 13; refine (HST.out w6 ((Fr.refl [] wr).drew.trans f6)).mono ?_; rintro en w7 ⟨vR', vL', rfl, h7, -, fB7, -⟩; rw [hd]))
        rw [HQ.out]
        go_wp2
        go_roundw
        case rel => exact ⟨k + 1, by omega, by go_num, HFBR.out.trans ((FB.of ((Fr.refl [] wr).drew.trans f6)).trans fB7), vR', vL', h7⟩
        case measure => simp [intOf]; omega
    · have hkk : k = 2 * S := by omega
      have hXl := length_slotsX cv L
      have hwx := awords_any w3.heap.size wr p pm qm cv vR vL L ((n + k : Nat) : Int) k HBEG.out.hc (by rw [← hS]; exact HINR.out)
      rw [← hS, if_pos (by omega)] at hwx
      have HWX := Lib.hid hwx
      subst hkk
      clear hwx hlt hk
      go_wp2_with fail
      refine HWX.out.mono ?_
      rintro en w6 ⟨v6, rfl, hv6, hn6, f6⟩
      obtain ⟨bx, cx, rfl, hrx, hSc⟩ := rowx_of hv6 (by omega)
      rw [hXl, ← hS] at hrx hSc ⊢
      have hbx : wr.heap.size ≤ bx := hn6 bx rfl
      have HRX := Lib.hid hrx
      have HF6 := Lib.hid f6
      clear hv6 hn6 hrx f6 HWX
      go_wp2_with fail
      go_loopw [11] (fun i wy => ∃ j : Nat, j ≤ S ∧ i = .int .i64 (j : Int) ∧ RowX wy bx S ∧ Fr [bx] w6 wy) (fun i _ => S - (intOf i).toNat)
      case atStart => exact ⟨0, by omega, rfl, HRX.out, Fr.refl _ _⟩
      case round =>
        obtain ⟨j, hj, rfl, hry, fy⟩ := hrel
        by_cases hlt : j < S
        · obtain ⟨⟨z, hz⟩, hzf⟩ := hry.cell hlt
          have HRY := Lib.hid (hry.put j (-1)); have HFY := Lib.hid (fy.setCell (p := ⟨bx, j, none⟩) (.inl (by simp)) (.int .i64 (-1)))
          clear hry fy
          go_wp2
          go_roundw
          case rel => exact ⟨j + 1, by omega, by go_num, HRY.out, HFY.out⟩
          case measure => simp [intOf]; omega
        · have hin := (HINR.out.fr0 HF6.out).fr fy (fun b hb => by
            have h1 := HINR.out.lt hb
            simp
            omega)
          have hst := astep_any w3.heap.size _ p pm qm cv vR vL L ((n + 2 * S : Nat) : Int) (2 * S) HBEG.out.hc (by rw [← hS]; exact hin) (by omega) (by omega) (by omega)
          rw [← hS, if_neg (by omega), alone_end (j := 2 * S + 1) (by omega)] at hst
          have HST := Lib.hid hst
          have hfy : FB w3.heap.size w3 _ := (HFBR.out.trans (FB.of HF6.out)).trans ⟨[bx], fun b hb => by
            have h1 := HFBR.out.size
            simp at hb; omega, fy⟩
          have HFY := Lib.hid hfy
          clear hin hst hfy fy hry
          go_wp2_with fail
          refine HST.out.mono ?_
          rintro en w7 ⟨vR', vL', rfl, h7, -, fB7, -⟩
          have F7 := Lib.hid (HFY.out.trans fB7)
          have H7 := Lib.hid h7
          clear h7 fB7 HST
          have c0 := F7.out.cell HBEG.out.cf.c0 HBEG.out.bl; have c1 := F7.out.cell HBEG.out.cf.c1 HBEG.out.bl; have c2 := F7.out.cell HBEG.out.cf.c2 HBEG.out.bl; have c3 := F7.out.cell HBEG.out.cf.c3 HBEG.out.bl; have c4 := F7.out.cell HBEG.out.cf.c4 HBEG.out.bl
          have hQ := F7.out.ints HBEG.out.hI (fun a ha => by injection ha with ha; subst ha; exact HBEG.out.ql)
          have hwt : IntKind.i64.wrap ((n : Int) + IntKind.i64.wrap (2 * cv.sl)) = ((n + 2 * S : Nat) : Int) := by rw [IntKind.wrap_i64, IntKind.wrap_i64]; omega
          have HRO := Lib.hid (fun (W : World) (f : Fr [] w7 W) => trounds_any W p cv vR' vL' [] (slotsX cv L) 2 true (H7.out.fr0 f).tw)
          have hto := fun (W : World) (f : Fr [] w7 W) => touched_any W pm qm L ((n + 2 * S : Nat) : Int) (H7.out.fr0 f).m
          rw [← hwt] at hto
          have HTO := Lib.hid hto
          have hwo := fun (W : World) (f : Fr [] w7 W) => twords_any W p cv vR' vL' [] (slotsX cv L) 2 true (H7.out.fr0 f).tw (fun _ e => by rw [e] at hXl; simp at hXl; omega) (by omega)
          rw [if_pos rfl] at hwo
          have HWO := Lib.hid hwo
          obtain ⟨m, hm⟩ : ∃ m : Nat, (m : Int) = cv.slot 0 := ⟨(cv.slot 0).toNat, by have := HBEG.out.hc.1; unfold ConfV.slot; omega⟩
          have hmn : m ≤ n := by have := HBEG.out.hc.1; have := hcells; unfold ConfV.slot at hm; unfold ConfV.cells at this; omega
          have hso := fun W : World => rslot_any W cv 0 HBEG.out.hc (by omega) (by omega)
          rw [← hm] at hso
          unfold ConfV.val at hso
          have HSO := Lib.hid hso
          have hdr := slotsX_drop HBEG.out.hc (show (L.length : Int) = cv.cells by omega)
          rw [← hm, Int.toNat_natCast] at hdr
          have HDR := Lib.hid hdr
          have HMO := Lib.hid (fun (W : World) (f : Fr [] w7 W) => words_any W pm qm L ((n + 2 * S : Nat) : Int) (H7.out.fr0 f).m (by omega))
          have HQ := Lib.hid hQ
          have HNM := Lib.hid (show ¬ n = m by have := HBEG.out.hc.1; have := hcells; unfold ConfV.slot at hm; unfold ConfV.cells at this; omega)
          have HNL := Lib.hid (show n - m = cv.sl.toNat by have := HBEG.out.hc.1; have := hcells; unfold ConfV.slot at hm; unfold ConfV.cells at this; omega)
          have HXL := Lib.hid hXl
          have HDQ := Lib.hid (show ∀ W : World, Fr [] w7 W → IntsAt W (some ⟨q, m, none⟩) (slotsX cv L) from fun W f => by
            rw [← HDR.out]
            have h0 := (HQ.out.fr f (by simp)).drop m
            rwa [Nat.zero_add] at h0)
          have HCC := Lib.hid (show ∀ w' : World, Fr [] w7 w' → w'.cell? ⟨b4, 0, none⟩ = some (.int .i64 cv.wo) ∧ w'.cell? ⟨b4, 1, none⟩ = some (.int .i64 cv.sl) ∧ w'.cell? ⟨b4, 2, none⟩ = some (.int .i64 cv.st) ∧ w'.cell? ⟨b4, 3, none⟩ = some (.int .i64 cv.wa) ∧ w'.cell? ⟨b4, 4, none⟩ = some (.int .i64 cv.us) from fun w' f => ⟨f.cell c0 (by simp), f.cell c1 (by simp), f.cell c2 (by simp), f.cell c3 (by simp), f.cell c4 (by simp)⟩)
          clear hwt hto hwo hso hdr hQ hm
          go_wp2_with fail
          refine wp_region_held_drew (S := fun w' => w'.cell? ⟨b4, 0, none⟩ = some (.int .i64 cv.wo) ∧ w'.cell? ⟨b4, 1, none⟩ = some (.int .i64 cv.sl) ∧ w'.cell? ⟨b4, 2, none⟩ = some (.int .i64 cv.st) ∧ w'.cell? ⟨b4, 3, none⟩ = some (.int .i64 cv.wa) ∧ w'.cell? ⟨b4, 4, none⟩ = some (.int .i64 cv.us)) (by kernel_rfl) (HCC.out _ (Fr.refl [] w7).drew) (fun hHeld => ?_)
          refine wpAnyH_take (i := 0) (oi := _) (v := ?_) rfl (by kernel_rfl) (by kernel_rfl) (by kernel_rfl) (fun _ _ _ h => h) (Or.inl ⟨by rfl, ?_⟩) (by assumption) ?_
          rotate_left
          · intro w hSw
            try dsimp only at hSw
            try simp only [List.getElem_toArray, List.getElem_cons_zero]
            go_split_ands
            go_simp
            try with_reducible rfl
          try simp only [Act.put, List.getElem_toArray, List.getElem_cons_zero, List.setIfInBounds_toArray, List.set_cons_zero, List.set_cons_succ]
          refine wpAnyH_take (i := 1) (oi := _) (v := ?_) rfl (by kernel_rfl) (by kernel_rfl) (by kernel_rfl) (fun _ _ _ h => h) (Or.inl ⟨by rfl, ?_⟩) (by assumption) ?_
          rotate_left
          · intro w hSw
            try dsimp only at hSw
            try simp only [List.getElem_toArray, List.getElem_cons_succ, List.getElem_cons_zero]
            go_split_ands
            go_simp
            try with_reducible rfl
          try simp only [Act.put, List.getElem_toArray, List.getElem_cons_succ, List.getElem_cons_zero, List.setIfInBounds_toArray, List.set_cons_zero, List.set_cons_succ]
          refine wpAnyH_take (i := 2) (oi := _) (v := ?_) rfl (by kernel_rfl) (by kernel_rfl) (by kernel_rfl) (fun _ _ _ h => h) (Or.inl ⟨by rfl, ?_⟩) (by assumption) ?_
          rotate_left
          · intro w hSw
            try dsimp only at hSw
            try simp only [List.getElem_toArray, List.getElem_cons_succ, List.getElem_cons_zero]
            go_split_ands
            go_simp
            try with_reducible rfl
          try simp only [Act.put, List.getElem_toArray, List.getElem_cons_succ, List.getElem_cons_zero, List.setIfInBounds_toArray, List.set_cons_zero, List.set_cons_succ]
          refine wpAnyH_take (i := 3) (oi := _) (v := ?_) rfl (by kernel_rfl) (by kernel_rfl) (by kernel_rfl) (fun _ _ _ h => h) (Or.inl ⟨by rfl, ?_⟩) (by assumption) ?_
          rotate_left
          · intro w hSw
            try dsimp only at hSw
            try simp only [List.getElem_toArray, List.getElem_cons_succ, List.getElem_cons_zero]
            go_split_ands
            go_simp
            try with_reducible rfl
          try simp only [Act.put, List.getElem_toArray, List.getElem_cons_succ, List.getElem_cons_zero, List.setIfInBounds_toArray, List.set_cons_zero, List.set_cons_succ]
          refine wpAnyH_take (i := 4) (oi := _) (v := ?_) rfl (by kernel_rfl) (by kernel_rfl) (by kernel_rfl) (fun _ _ _ h => h) (Or.inl ⟨by rfl, ?_⟩) (by assumption) ?_
          rotate_left
          · intro w hSw
            try dsimp only at hSw
            try simp only [List.getElem_toArray, List.getElem_cons_succ, List.getElem_cons_zero]
            go_split_ands
            go_simp
            try with_reducible rfl
          try simp only [Act.put, List.getElem_toArray, List.getElem_cons_succ, List.getElem_cons_zero, List.setIfInBounds_toArray, List.set_cons_zero, List.set_cons_succ]
          refine wpAnyH_take (i := 5) (oi := _) (v := ?_) rfl (by kernel_rfl) (by kernel_rfl) (by kernel_rfl) (fun _ _ _ h => h) (Or.inl ⟨by rfl, ?_⟩) (by assumption) ?_
          rotate_left
          · intro w hSw
            try dsimp only at hSw
            try simp only [List.getElem_toArray, List.getElem_cons_succ, List.getElem_cons_zero]
            go_split_ands
            go_simp
            try with_reducible rfl
          try simp only [Act.put, List.getElem_toArray, List.getElem_cons_succ, List.getElem_cons_zero, List.setIfInBounds_toArray, List.set_cons_zero, List.set_cons_succ]
          refine wpAnyH_ready (rs := [6]) (by kernel_rfl) (by simp) ?_
          refine AllReadyH.cons (o := _) rfl (fun K hK => ?_) AllReadyH.nil
          simp only [List.getElem_toArray, List.getElem_cons_succ, List.getElem_cons_zero]
          go_simp
          refine (HRO.out w7.drew (Fr.refl [] w7).drew).mono ?_
          rintro en w8 ⟨rfl, rfl⟩
          go_wp2_with fail
          refine hK.out _ _ (HCC.out _ (Fr.refl [] w7).drew) (fun hHeld => ?_)
          clear hK K
          try simp only [Act.put, List.getElem_toArray, List.getElem_cons_succ, List.getElem_cons_zero, List.setIfInBounds_toArray, List.set_cons_zero, List.set_cons_succ]
          refine wpAnyH_take (i := 7) (oi := _) (v := ?_) rfl (by kernel_rfl) (by kernel_rfl) (by kernel_rfl) (fun _ _ _ h => h) (Or.inl ⟨by rfl, ?_⟩) (by assumption) ?_
          rotate_left
          · intro w hSw
            try dsimp only at hSw
            try simp only [List.getElem_toArray, List.getElem_cons_succ, List.getElem_cons_zero]
            go_split_ands
            go_simp
            try with_reducible rfl
          try simp only [Act.put, List.getElem_toArray, List.getElem_cons_succ, List.getElem_cons_zero, List.setIfInBounds_toArray, List.set_cons_zero, List.set_cons_succ]
          refine wpAnyH_take (i := 8) (oi := _) (v := ?_) rfl (by kernel_rfl) (by kernel_rfl) (by kernel_rfl) (fun _ _ _ h => h) (Or.inl ⟨by rfl, ?_⟩) (by assumption) ?_
          rotate_left
          · intro w hSw
            try dsimp only at hSw
            try simp only [List.getElem_toArray, List.getElem_cons_succ, List.getElem_cons_zero]
            go_split_ands
            go_simp
            try with_reducible rfl
          try simp only [Act.put, List.getElem_toArray, List.getElem_cons_succ, List.getElem_cons_zero, List.setIfInBounds_toArray, List.set_cons_zero, List.set_cons_succ]
          refine wpAnyH_take (i := 9) (oi := _) (v := ?_) rfl (by kernel_rfl) (by kernel_rfl) (by kernel_rfl) (fun _ _ _ h => h) (Or.inl ⟨by rfl, ?_⟩) (by assumption) ?_
          rotate_left
          · intro w hSw
            try dsimp only at hSw
            try simp only [List.getElem_toArray, List.getElem_cons_succ, List.getElem_cons_zero]
            go_split_ands
            go_simp
            try with_reducible rfl
          try simp only [Act.put, List.getElem_toArray, List.getElem_cons_succ, List.getElem_cons_zero, List.setIfInBounds_toArray, List.set_cons_zero, List.set_cons_succ]
          refine wpAnyH_take (i := 10) (oi := _) (v := ?_) rfl (by kernel_rfl) (by kernel_rfl) (by kernel_rfl) (fun _ _ _ h => h) (Or.inl ⟨by rfl, ?_⟩) (by assumption) ?_
          rotate_left
          · intro w hSw
            try dsimp only at hSw
            try simp only [List.getElem_toArray, List.getElem_cons_succ, List.getElem_cons_zero]
            go_split_ands
            go_simp
            try with_reducible rfl
          try simp only [Act.put, List.getElem_toArray, List.getElem_cons_succ, List.getElem_cons_zero, List.setIfInBounds_toArray, List.set_cons_zero, List.set_cons_succ]
          refine wpAnyH_take (i := 12) (oi := _) (v := ?_) rfl (by kernel_rfl) (by kernel_rfl) (by kernel_rfl) (fun _ _ _ h => h) (Or.inl ⟨by rfl, ?_⟩) (by assumption) ?_
          rotate_left
          · intro w hSw
            try dsimp only at hSw
            try simp only [List.getElem_toArray, List.getElem_cons_succ, List.getElem_cons_zero]
            go_split_ands
            go_simp
            try with_reducible rfl
          try simp only [Act.put, List.getElem_toArray, List.getElem_cons_succ, List.getElem_cons_zero, List.setIfInBounds_toArray, List.set_cons_zero, List.set_cons_succ]
          refine wpAnyH_take (i := 13) (oi := _) (v := ?_) rfl (by kernel_rfl) (by kernel_rfl) (by kernel_rfl) (fun _ _ _ h => h) (Or.inl ⟨by rfl, ?_⟩) (by assumption) ?_
          rotate_left
          · intro w hSw
            try dsimp only at hSw
            try simp only [List.getElem_toArray, List.getElem_cons_succ, List.getElem_cons_zero]
            go_split_ands
            go_simp
            try with_reducible rfl
          try simp only [Act.put, List.getElem_toArray, List.getElem_cons_succ, List.getElem_cons_zero, List.setIfInBounds_toArray, List.set_cons_zero, List.set_cons_succ]
          refine wpAnyH_take (i := 14) (oi := _) (v := ?_) rfl (by kernel_rfl) (by kernel_rfl) (by kernel_rfl) (fun _ _ _ h => h) (Or.inl ⟨by rfl, ?_⟩) (by assumption) ?_
          rotate_left
          · intro w hSw
            try dsimp only at hSw
            try simp only [List.getElem_toArray, List.getElem_cons_succ, List.getElem_cons_zero]
            go_split_ands
            go_simp
            try with_reducible rfl
          try simp only [Act.put, List.getElem_toArray, List.getElem_cons_succ, List.getElem_cons_zero, List.setIfInBounds_toArray, List.set_cons_zero, List.set_cons_succ]
          refine wpAnyH_take (i := 15) (oi := _) (v := ?_) rfl (by kernel_rfl) (by kernel_rfl) (by kernel_rfl) (fun _ _ _ h => h) (Or.inl ⟨by rfl, ?_⟩) (by assumption) ?_
          rotate_left
          · intro w hSw
            try dsimp only at hSw
            try simp only [List.getElem_toArray, List.getElem_cons_succ, List.getElem_cons_zero]
            go_split_ands
            go_simp
            try with_reducible rfl
          try simp only [Act.put, List.getElem_toArray, List.getElem_cons_succ, List.getElem_cons_zero, List.setIfInBounds_toArray, List.set_cons_zero, List.set_cons_succ]
          refine wpAnyH_take (i := 16) (oi := _) (v := ?_) rfl (by kernel_rfl) (by kernel_rfl) (by kernel_rfl) (fun _ _ _ h => h) (Or.inl ⟨by rfl, ?_⟩) (by assumption) ?_
          rotate_left
          · intro w hSw
            try dsimp only at hSw
            try simp only [List.getElem_toArray, List.getElem_cons_succ, List.getElem_cons_zero]
            go_split_ands
            go_simp
            try with_reducible rfl
          try simp only [Act.put, List.getElem_toArray, List.getElem_cons_succ, List.getElem_cons_zero, List.setIfInBounds_toArray, List.set_cons_zero, List.set_cons_succ]
          refine wpAnyH_ready (rs := [11]) (by kernel_rfl) (by simp) ?_
          refine AllReadyH.cons (o := _) rfl (fun K hK => ?_) AllReadyH.nil
          simp only [List.getElem_toArray, List.getElem_cons_succ, List.getElem_cons_zero]
          go_simp
          refine (HTO.out w7.drew (Fr.refl [] w7).drew).mono ?_
          rintro en w8 ⟨rfl, rfl⟩
          go_wp2_with fail
          refine hK.out _ _ (HCC.out _ (Fr.refl [] w7).drew) (fun hHeld => ?_)
          clear hK K
          try simp only [Act.put, List.getElem_toArray, List.getElem_cons_succ, List.getElem_cons_zero, List.setIfInBounds_toArray, List.set_cons_zero, List.set_cons_succ]
          refine wpAnyH_take (i := 17) (oi := _) (v := ?_) rfl (by kernel_rfl) (by kernel_rfl) (by kernel_rfl) (fun _ _ _ h => h) (Or.inl ⟨by rfl, ?_⟩) (by assumption) ?_
          rotate_left
          · intro w hSw
            try dsimp only at hSw
            try simp only [List.getElem_toArray, List.getElem_cons_succ, List.getElem_cons_zero]
            go_split_ands
            go_simp
            try with_reducible rfl
          try simp only [Act.put, List.getElem_toArray, List.getElem_cons_succ, List.getElem_cons_zero, List.setIfInBounds_toArray, List.set_cons_zero, List.set_cons_succ]
          refine wpAnyH_take (i := 18) (oi := _) (v := ?_) rfl (by kernel_rfl) (by kernel_rfl) (by kernel_rfl) (fun _ _ _ h => h) (Or.inl ⟨by rfl, ?_⟩) (by assumption) ?_
          rotate_left
          · intro w hSw
            try dsimp only at hSw
            try simp only [List.getElem_toArray, List.getElem_cons_succ, List.getElem_cons_zero]
            go_split_ands
            go_simp
            try with_reducible rfl
          try simp only [Act.put, List.getElem_toArray, List.getElem_cons_succ, List.getElem_cons_zero, List.setIfInBounds_toArray, List.set_cons_zero, List.set_cons_succ]
          refine wpAnyH_take (i := 19) (oi := _) (v := ?_) rfl (by kernel_rfl) (by kernel_rfl) (by kernel_rfl) (fun _ _ _ h => h) (Or.inl ⟨by rfl, ?_⟩) (by assumption) ?_
          rotate_left
          · intro w hSw
            try dsimp only at hSw
            try simp only [List.getElem_toArray, List.getElem_cons_succ, List.getElem_cons_zero]
            go_split_ands
            go_simp
            try with_reducible rfl
          try simp only [Act.put, List.getElem_toArray, List.getElem_cons_succ, List.getElem_cons_zero, List.setIfInBounds_toArray, List.set_cons_zero, List.set_cons_succ]
          refine wpAnyH_take (i := 20) (oi := _) (v := ?_) rfl (by kernel_rfl) (by kernel_rfl) (by kernel_rfl) (fun _ _ _ h => h) (Or.inl ⟨by rfl, ?_⟩) (by assumption) ?_
          rotate_left
          · intro w hSw
            try dsimp only at hSw
            try simp only [List.getElem_toArray, List.getElem_cons_succ, List.getElem_cons_zero]
            go_split_ands
            go_simp
            try with_reducible rfl
          try simp only [Act.put, List.getElem_toArray, List.getElem_cons_succ, List.getElem_cons_zero, List.setIfInBounds_toArray, List.set_cons_zero, List.set_cons_succ]
          refine wpAnyH_take (i := 22) (oi := _) (v := ?_) rfl (by kernel_rfl) (by kernel_rfl) (by kernel_rfl) (fun _ _ _ h => h) (Or.inl ⟨by rfl, ?_⟩) (by assumption) ?_
          rotate_left
          · intro w hSw
            try dsimp only at hSw
            try simp only [List.getElem_toArray, List.getElem_cons_succ, List.getElem_cons_zero]
            go_split_ands
            go_simp
            try with_reducible rfl
          try simp only [Act.put, List.getElem_toArray, List.getElem_cons_succ, List.getElem_cons_zero, List.setIfInBounds_toArray, List.set_cons_zero, List.set_cons_succ]
          refine wpAnyH_take (i := 23) (oi := _) (v := ?_) rfl (by kernel_rfl) (by kernel_rfl) (by kernel_rfl) (fun _ _ _ h => h) (Or.inl ⟨by rfl, ?_⟩) (by assumption) ?_
          rotate_left
          · intro w hSw
            try dsimp only at hSw
            try simp only [List.getElem_toArray, List.getElem_cons_succ, List.getElem_cons_zero]
            go_split_ands
            go_simp
            try with_reducible rfl
          try simp only [Act.put, List.getElem_toArray, List.getElem_cons_succ, List.getElem_cons_zero, List.setIfInBounds_toArray, List.set_cons_zero, List.set_cons_succ]
          refine wpAnyH_ready (rs := [21]) (by kernel_rfl) (by simp) ?_
          refine AllReadyH.cons (o := _) rfl (fun K hK => ?_) AllReadyH.nil
          simp only [List.getElem_toArray, List.getElem_cons_succ, List.getElem_cons_zero]
          go_simp
          refine (HWO.out w7.drew (Fr.refl [] w7).drew).mono ?_
          rintro en w8 ⟨v8, rfl, hv8, hn8, f8⟩
          obtain ⟨g8, c8, rfl, hI8, -⟩ := hv8.ints
          have HI8 := Lib.hid hI8
          have F8 := (Fr.refl [] w7).drew.trans f8
          clear hv8 hn8 hI8
          go_wp2_with fail
          refine hK.out _ _ (HCC.out _ F8) (fun hHeld => ?_)
          clear hK K
          try simp only [Act.put, List.getElem_toArray, List.getElem_cons_succ, List.getElem_cons_zero, List.setIfInBounds_toArray, List.set_cons_zero, List.set_cons_succ]
          refine wpAnyH_ready (rs := [24]) (by kernel_rfl) (by simp) ?_
          refine AllReadyH.cons (o := _) rfl (fun K hK => ?_) AllReadyH.nil
          simp only [List.getElem_toArray, List.getElem_cons_succ, List.getElem_cons_zero]
          go_simp
          refine (HSO.out w8).mono ?_
          rintro en w9 ⟨rfl, f9⟩
          have F9 := F8.trans f9
          have HI9 := Lib.hid (HI8.out.fr f9 (by simp))
          go_wp2_with fail
          refine hK.out _ _ (HCC.out _ F9) (fun hHeld => ?_)
          clear hK K
          try simp only [Act.put, List.getElem_toArray, List.getElem_cons_succ, List.getElem_cons_zero, List.setIfInBounds_toArray, List.set_cons_zero, List.set_cons_succ]
          refine wpAnyH_take (i := 25) (oi := _) (v := ?_) rfl (by kernel_rfl) (by kernel_rfl) (by kernel_rfl) (fun _ _ _ h => h) (Or.inl ⟨by rfl, ?_⟩) (by assumption) ?_
          rotate_left
          · intro w hSw
            try dsimp only at hSw
            try simp only [List.getElem_toArray, List.getElem_cons_succ, List.getElem_cons_zero]
            go_split_ands
            go_simp
            try with_reducible rfl
          try simp only [Act.put, List.getElem_toArray, List.getElem_cons_succ, List.getElem_cons_zero, List.setIfInBounds_toArray, List.set_cons_zero, List.set_cons_succ]
          rw [if_neg HNM.out]
          refine wpAnyH_ready (rs := [26]) (by kernel_rfl) (by simp) ?_
          refine AllReadyH.cons (o := _) rfl (fun K hK => ?_) AllReadyH.nil
          simp only [List.getElem_toArray, List.getElem_cons_succ, List.getElem_cons_zero]
          go_simp
          refine (ints_len w9 g8 (some ⟨q, m, none⟩) c8 (n - m) _ _ _ _ HXL.out.symm (by rw [HXL.out]; exact HNL.out) HI9.out (HDQ.out w9 F9)).mono ?_
          rintro en w10 ⟨rfl, f10⟩
          rw [decide_eq_true rfl]
          have F10 := F9.trans f10
          go_wp2_with fail
          refine hK.out _ _ (HCC.out _ F10) (fun hHeld => ?_)
          clear hK K
          try simp only [Act.put, List.getElem_toArray, List.getElem_cons_succ, List.getElem_cons_zero, List.setIfInBounds_toArray, List.set_cons_zero, List.set_cons_succ]
          refine wpAnyH_take (i := 27) (oi := _) (v := ?_) rfl (by kernel_rfl) (by kernel_rfl) (by kernel_rfl) (fun _ _ _ h => h) (Or.inl ⟨by rfl, ?_⟩) (by assumption) ?_
          rotate_left
          · intro w hSw
            try dsimp only at hSw
            try simp only [List.getElem_toArray, List.getElem_cons_succ, List.getElem_cons_zero]
            go_split_ands
            go_simp
            try with_reducible rfl
          try simp only [Act.put, List.getElem_toArray, List.getElem_cons_succ, List.getElem_cons_zero, List.setIfInBounds_toArray, List.set_cons_zero, List.set_cons_succ]
          refine wpAnyH_take (i := 28) (oi := _) (v := ?_) rfl (by kernel_rfl) (by kernel_rfl) (by kernel_rfl) (fun _ _ _ h => h) (Or.inl ⟨by rfl, ?_⟩) (by assumption) ?_
          rotate_left
          · intro w hSw
            try dsimp only at hSw
            try simp only [List.getElem_toArray, List.getElem_cons_succ, List.getElem_cons_zero]
            go_split_ands
            go_simp
            try with_reducible rfl
          try simp only [Act.put, List.getElem_toArray, List.getElem_cons_succ, List.getElem_cons_zero, List.setIfInBounds_toArray, List.set_cons_zero, List.set_cons_succ]
          refine wpAnyH_take (i := 29) (oi := _) (v := ?_) rfl (by kernel_rfl) (by kernel_rfl) (by kernel_rfl) (fun _ _ _ h => h) (Or.inl ⟨by rfl, ?_⟩) (by assumption) ?_
          rotate_left
          · intro w hSw
            try dsimp only at hSw
            try simp only [List.getElem_toArray, List.getElem_cons_succ, List.getElem_cons_zero]
            go_split_ands
            go_simp
            try with_reducible rfl
          try simp only [Act.put, List.getElem_toArray, List.getElem_cons_succ, List.getElem_cons_zero, List.setIfInBounds_toArray, List.set_cons_zero, List.set_cons_succ]
          refine wpAnyH_take (i := 31) (oi := _) (v := ?_) rfl (by kernel_rfl) (by kernel_rfl) (by kernel_rfl) (fun _ _ _ h => h) (Or.inl ⟨by rfl, ?_⟩) (by assumption) ?_
          rotate_left
          · intro w hSw
            try dsimp only at hSw
            try simp only [List.getElem_toArray, List.getElem_cons_succ, List.getElem_cons_zero]
            go_split_ands
            go_simp
            try with_reducible rfl
          try simp only [Act.put, List.getElem_toArray, List.getElem_cons_succ, List.getElem_cons_zero, List.setIfInBounds_toArray, List.set_cons_zero, List.set_cons_succ]
          refine wpAnyH_ready (rs := [30]) (by kernel_rfl) (by simp) ?_
          refine AllReadyH.cons (o := _) rfl (fun K hK => ?_) AllReadyH.nil
          simp only [List.getElem_toArray, List.getElem_cons_succ, List.getElem_cons_zero]
          go_simp
          refine (HMO.out w10 F10).mono ?_
          rintro en w11 ⟨g11, c11, rfl, hv11, f11⟩
          have F11 := F10.trans f11
          have HI11 := Lib.hid (IntsAt.of_owns hv11)
          clear hv11
          go_wp2_with fail
          refine hK.out _ _ (HCC.out _ F11) (fun hHeld => ?_)
          clear hK K
          try simp only [Act.put, List.getElem_toArray, List.getElem_cons_succ, List.getElem_cons_zero, List.setIfInBounds_toArray, List.set_cons_zero, List.set_cons_succ]
          refine wpAnyH_ready (rs := [32]) (by kernel_rfl) (by simp) ?_
          refine AllReadyH.cons (o := _) rfl (fun K hK => ?_) AllReadyH.nil
          simp only [List.getElem_toArray, List.getElem_cons_succ, List.getElem_cons_zero]
          go_simp
          refine (ints_len w11 (some ⟨g11, 0, none⟩) (some ⟨q, 0, none⟩) c11 n _ _ _ _ (by first | rfl | exact hlen.symm) (by first | rfl | exact hlen.symm) HI11.out (HQ.out.fr F11 (by simp))).mono ?_
          rintro en w12 ⟨rfl, f12⟩
          rw [decide_eq_true rfl]
          have F12 := F11.trans f12
          go_wp2_with fail
          refine hK.out _ _ (HCC.out _ F12) (fun hHeld => ?_)
          clear hK K
          try simp only [Act.put, List.getElem_toArray, List.getElem_cons_succ, List.getElem_cons_zero, List.setIfInBounds_toArray, List.set_cons_zero, List.set_cons_succ]
          refine wpAnyH_take (i := 33) (oi := _) (v := ?_) rfl (by kernel_rfl) (by kernel_rfl) (by kernel_rfl) (fun _ _ _ h => h) (Or.inl ⟨by rfl, ?_⟩) (by assumption) ?_
          rotate_left
          · intro w hSw
            try dsimp only at hSw
            try simp only [List.getElem_toArray, List.getElem_cons_succ, List.getElem_cons_zero]
            go_split_ands
            go_simp
            try with_reducible rfl
          try simp only [Act.put, List.getElem_toArray, List.getElem_cons_succ, List.getElem_cons_zero, List.setIfInBounds_toArray, List.set_cons_zero, List.set_cons_succ]
          refine wpAnyH_take (i := 34) (oi := _) (v := ?_) rfl (by kernel_rfl) (by kernel_rfl) (by kernel_rfl) (fun _ _ _ h => h) (Or.inl ⟨by rfl, ?_⟩) (by assumption) ?_
          rotate_left
          · intro w hSw
            try dsimp only at hSw
            try simp only [List.getElem_toArray, List.getElem_cons_succ, List.getElem_cons_zero]
            go_split_ands
            go_simp
            try with_reducible rfl
          try simp only [Act.put, List.getElem_toArray, List.getElem_cons_succ, List.getElem_cons_zero, List.setIfInBounds_toArray, List.set_cons_zero, List.set_cons_succ]
          refine wpAnyH_done (by kernel_rfl) ?_ _
          go_wp2
          go_ret
          exact ⟨rfl, FB.base HBEG.out.f (F7.out.trans (FB.of F12)) HBEG.out.f.size⟩

end Go.Proofs.Ytnjoefanafjniaa
