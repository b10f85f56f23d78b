/- The walk of QueueRace. -/
import Derived.Test.YtdpefnebghljoaaQuR
import Derived.Deep.CutBlock
namespace Go.Proofs.Ytdpefnebghljoaa
open Go.RowKit

set_option maxHeartbeats 16000000 in
set_option maxRecDepth 100000 in
theorem race_walk (w : World) (wt : Int) (g gt : Option Addr) (cap capt : Nat) (l T : List Int) (hw0 : 0 ≤ wt) (hw1 : wt ≤ 255) (hl : U8At w g l) (hT : U8At w gt T) :
    Calls Try.prog 3 #[.int .u8 wt, .slice g l.length cap, .slice gt T.length capt] w fun e w' => e = .returned (.bool true) ∧ Fr [] w w' := by
  obtain ⟨i0, hi, hz0, hz1, hz2⟩ := info_parts info_int
  obtain ⟨i1, hi1, hy0, hy1, hy2⟩ := info_parts info_ptrQ
  have HL := Lib.hid hl
  have HTT := Lib.hid hT
  have hl63 := hl.1
  have ht63 := hT.1
  obtain ⟨len, hlen⟩ : ∃ n, n = l.length := ⟨_, rfl⟩
  obtain ⟨lt, hlt⟩ : ∃ n, n = T.length := ⟨_, rfl⟩
  rw [← hlen] at hl63 ⊢
  rw [← hlt] at ht63 ⊢
  have HLEN := Lib.hid hlen; have HLT := Lib.hid hlt
  clear hl hlen hT hlt
  go_enter Try.func3, Try.ntmps3
  go_wp2_with fail
  refine (awake_any _).mono ?_
  rintro en w1 ⟨rfl, f1⟩
  have F1 := Lib.hid f1
  clear f1
  by_cases hlong : (8 : Int) < (len : Int)
  · go_wp2
    go_ret
    exact ⟨rfl, F1.out⟩
  · by_cases hlong2 : (60 : Int) < (lt : Int)
    · go_wp2
      go_ret
      exact ⟨rfl, F1.out⟩
    · obtain ⟨wa, hwa⟩ : ∃ wa, wa = wt % 9 := ⟨_, rfl⟩
      have hwa0 : 0 ≤ wa ∧ wa ≤ 8 := by omega
      have hwk : wt % 9 = wa := hwa.symm
      have HWK := Lib.hid hwk
      have HFT := Lib.hid (show ConfV.fits ⟨8, 1, 0, wa, 1⟩ from by unfold ConfV.fits; simp; omega)
      clear hwa hwk
      go_wp2_with fail
      rw [HWK.out]
      have hbx := heap_alloc_new w1 (.cells #[.int .i64 8, .int .i64 1, .int .i64 0, .int .i64 wa, .int .i64 1] 25)
      have F2 := Lib.hid (F1.out.alloc (.cells #[.int .i64 8, .int .i64 1, .int .i64 0, .int .i64 wa, .int .i64 1] 25))
      have HBX := Lib.hid hbx
      clear hbx
      generalize w1.alloc (.cells #[.int .i64 8, .int .i64 1, .int .i64 0, .int .i64 wa, .int .i64 1] 25) = w2 at HBX F2 ⊢
      generalize w1.heap.size = b6 at HBX ⊢
      have hlined := lined_any w2 ⟨8, 1, 0, wa, 1⟩ g cap l HFT.out (HL.out.fr F2.out) (by rw [← HLEN.out]; omega)
      rw [← HLEN.out] at hlined
      refine hlined.mono ?_
      rintro en w3 ⟨v3, rfl, hrow3, f3⟩
      obtain ⟨g3, c3, rfl, hI3⟩ := row_ints hrow3
      obtain ⟨hln, hln2⟩ := linedL_ln (wo := 8) (by omega) (by omega) l
      have hle := linedL_len 8 l
      rw [← HLEN.out] at hle
      have hc3 := own_cap hrow3
      obtain ⟨Q, hQ⟩ : ∃ Q, Q = linedL 8 l := ⟨_, rfl⟩
      rw [show (linedL (ConfV.mk 8 1 0 wa 1).wo l).length = Q.length by rw [hQ]] at hc3 ⊢
      have HI3 := Lib.hid (show IntsAt w3 g3 Q by rw [hQ]; exact hI3)
      have HLNQ := Lib.hid (show Ln Q by rw [hQ]; exact hln)
      have HQ8 := Lib.hid (show ∀ x ∈ Q, x < 8 by rw [hQ]; exact fun x hx => (hln2 x hx).2)
      have hQL : Q.length ≤ 8 := by rw [hQ]; omega
      have HBX3 := Lib.hid (f3.at HBX.out (by simp)); have F3 := Lib.hid (F2.out.trans f3)
      have HGB := Lib.hid (show ∀ a, g3 = some a → a.block < w3.heap.size from by intro a ha; subst ha; exact (hrow3.lt a.block rfl).2)
      have q0 := cell_of (i := 0) HBX3.out rfl
      have q1 := cell_of (i := 1) HBX3.out rfl
      have q2 := cell_of (i := 2) HBX3.out rfl
      have q3 := cell_of (i := 3) HBX3.out rfl
      have q4 := cell_of (i := 4) HBX3.out rfl
      obtain ⟨n, hn⟩ : ∃ n, n = Q.length := ⟨_, rfl⟩
      rw [← hn] at hQL hc3 ⊢
      have HN := Lib.hid hn
      clear hI3 hln hln2 hle hQ hrow3 hlined f3 HBX F2 hn
      go_upto_if 45 with fail
      go_cut [9] from 46 to 49 (fun v wx => wx = w3 ∧ ∃ F : List Int, v = .slice g3 F.length c3 ∧ (F.length : Int) ≤ wa ∧ Ln F ∧ (∀ x ∈ F, x < 8) ∧ IntsAt w3 g3 F)
      case first =>
        by_cases hcut : wa < (n : Int)
        · obtain ⟨m, rfl⟩ : ∃ m : Nat, wa = (m : Int) := ⟨wa.toNat, by omega⟩
          have hmc : (m : Int) ≤ (c3 : Int) := by omega
          have hm0 : (0 : Int) ≤ (m : Int) := by omega
          have hFL : (Q.take m).length = m := by rw [List.length_take, ← HN.out]; omega
          have HFL := Lib.hid hFL
          clear hFL
          go_wp2_with fail
          go_meet
          case rel => exact ⟨rfl, Q.take m, by rw [HFL.out], by rw [HFL.out]; omega, HLNQ.out.take m, fun x hx => HQ8.out x (List.mem_of_mem_take hx), HI3.out.takeN m⟩
        · go_wp2_with fail
          go_meet
          case rel => exact ⟨rfl, Q, by rw [HN.out], by rw [← HN.out]; omega, HLNQ.out, HQ8.out, HI3.out⟩
      case rest =>
        obtain ⟨hwc, F, rfl, hF1, hF2, hF3, hF4⟩ := hcut
        rw [hwc]
        clear hwc
        have HFW := Lib.hid hF1; have HFL := Lib.hid hF2; have HF8 := Lib.hid hF3; have HIF := Lib.hid hF4
        obtain ⟨nf, hnf⟩ : ∃ nf, nf = F.length := ⟨_, rfl⟩
        rw [← hnf]
        have hnf8 : nf ≤ 8 := by omega
        have HFN := Lib.hid hnf
        clear hF1 hF2 hF3 hF4 hnf
        go_wp2_with fail
        have hlaid := qlaid_any w3 ⟨8, 1, 0, wa, 1⟩ 0 g3 c3 F HFT.out HFL.out HIF.out
        rw [← HFN.out] at hlaid
        refine hlaid.mono ?_
        rintro en w4 ⟨pm, qm, t1, rfl, hpm, hqm, ht1, hm4, f4⟩
        have hs3 := F3.out.size; have hs4 := f4.size
        have hb6 := heap_lt HBX3.out
        have HBX4 := Lib.hid (f4.at HBX3.out (by simp)); have HI4 := Lib.hid (HIF.out.fr f4 (by simp)); have F4 := Lib.hid (F3.out.trans f4)
        have HM4 := Lib.hid hm4
        have hpml := hm4.plt; have hqml := hm4.qlt
        obtain ⟨B, hB⟩ : ∃ B, B = w4.heap.size := ⟨_, rfl⟩
        have HB := Lib.hid hB
        have HLOW := Lib.hid (show pm < B ∧ qm < B ∧ b6 < B ∧ w.heap.size ≤ B ∧ w.heap.size ≤ pm ∧ w.heap.size ≤ qm ∧ b6 ≠ pm ∧ b6 ≠ qm from by omega)
        have HGB4 := Lib.hid (show ∀ a, g3 = some a → a.block < B ∧ a.block ≠ pm ∧ a.block ≠ qm from fun a ha => by have := HGB.out a ha; omega)
        clear hlaid f4 hm4 hpm hqm hs3 hs4 hb6 hpml hqml hB q0 q1 q2 q3 q4
        go_wp2_with fail
        go_loopw [11, 12, 13] (fun a b i wr => ∃ (k : Nat) (W : List Int) (P : List Nat), k ≤ 8 ∧ i = .int .i64 (k : Int) ∧ W = wk F k ∧ W.length ≤ k ∧ P.length = W.length ∧ P.Nodup ∧ (∀ p ∈ P, B ≤ p) ∧ wr.ownsRow B 3 1 a W.length (W.map (Value.int .i64)) ∧ wr.ownsRow B 32 1 b P.length (P.map ptrV) ∧ AllQ wr ⟨8, 1, 0, wa, 1⟩ P (W.map comer) ∧ Fr [] w4 wr) (fun _ _ i _ => 8 - (intOf i).toNat)
        case atStart => exact ⟨0, [], [], by omega, rfl, rfl, Nat.le_refl _, rfl, List.nodup_nil, by simp, World.ownsRow_nil _ _ _ _, World.ownsRow_nil _ _ _ _, AllQ.nil _ _, Fr.refl _ _⟩
        case round =>
          obtain ⟨k, W, P, hk, rfl, hW, hWl, hPl, hPn, hPB, hoa, hob, hall, hf⟩ := hrel
          have HW := Lib.hid hW; have HP := Lib.hid (And.intro hPl (And.intro hPn hPB))
          have HOA := Lib.hid hoa; have HOB := Lib.hid hob; have HALL := Lib.hid hall; have HF := Lib.hid hf
          have hsz := hf.size
          rw [← HB.out] at hsz
          have HBXr := Lib.hid (hf.at HBX4.out (by simp))
          have q0 := cell_of (i := 0) HBXr.out rfl; have q1 := cell_of (i := 1) HBXr.out rfl; have q2 := cell_of (i := 2) HBXr.out rfl; have q3 := cell_of (i := 3) HBXr.out rfl; have q4 := cell_of (i := 4) HBXr.out rfl
          clear hW hPl hPn hPB hoa hob hall hf
          by_cases hlt : k < 8
          · have hlt' : (k : Int) < 8 := by omega
            have hhas := ref_has_any wr g3 c3 F (k : Int) (HI4.out.fr HF.out (by simp))
            rw [← HFN.out] at hhas
            have HHAS := Lib.hid hhas
            clear hhas
            go_wp2_with fail
            refine HHAS.out.mono ?_
            rintro en w5 ⟨rfl, f5⟩
            have hs5 := f5.size
            have F5 := Lib.hid f5
            have q0 := f5.cell q0 (by simp); have q1 := f5.cell q1 (by simp); have q2 := f5.cell q2 (by simp); have q3 := f5.cell q3 (by simp); have q4 := f5.cell q4 (by simp)
            clear f5 HHAS
            by_cases hin : (k : Int) ∈ F
            · rw [decide_eq_true hin]
              have HIN := Lib.hid hin
              clear hin
              go_wp2
              go_roundw
              case rel => exact ⟨k + 1, W, P, by omega, by go_num, by rw [wk_succ, if_pos HIN.out]; exact HW.out, by omega, HP.out.1, HP.out.2.1, HP.out.2.2, row_keep HOA.out F5.out (by simp), row_keep HOB.out F5.out (by simp), HALL.out.fr F5.out (by simp), HF.out.trans F5.out⟩
              case measure => simp [intOf]; omega
            · rw [decide_eq_false hin]
              have HIN := Lib.hid hin
              have hoa5 := row_keep HOA.out F5.out (by simp)
              clear hin
              go_wp2_with (first
                | (at_builtin; refine wpList_append_own _ rfl _ _ 26 rfl B 3 i0 (.int .i64 0) 1 8 Try.underlying26 hi hz0 hz1 hz2 rfl (by decide) _ W.length _ rfl (hoa5.alloc _) ⟨w5.heap.size, 0, none⟩ 1 1 [.int .i64 (k : Int)] rfl rfl (cell_one_new _ _ _) (by simp [Value.oneCell']) (by unfold maxLen; omega) (by omega) (by simp; omega) ?_)
                | fail)
              intro v6 w6 hown6 hgrow6 _
              have f6 := grown_fr hgrow6
              have HOA6 := Lib.hid (show w6.ownsRow B 3 1 v6 (W ++ [(k : Int)]).length ((W ++ [(k : Int)]).map (Value.int .i64)) from by simpa using hown6)
              have HOB6 := Lib.hid (row_keep (row_keep HOB.out F5.out (by simp)) f6 (own_ne hoa5 (row_keep HOB.out F5.out (by simp)) (by decide)))
              have HALL6 := Lib.hid ((HALL.out.fr F5.out (by simp)).row hoa5 (by decide) f6)
              have hf6 := grown_step (HF.out.trans F5.out) hoa5 (Nat.le_of_eq HB.out.symm) hgrow6
              have HF6 := Lib.hid hf6
              have hs6 := hf6.size
              rw [← HB.out] at hs6
              have HBX6 := Lib.hid (hf6.at HBX4.out (by simp))
              clear hown6 hgrow6 f6 hf6 hoa5 q0 q1 q2 q3 q4
              have q0 := cell_of (i := 0) HBX6.out rfl; have q1 := cell_of (i := 1) HBX6.out rfl; have q2 := cell_of (i := 2) HBX6.out rfl; have q3 := cell_of (i := 3) HBX6.out rfl; have q4 := cell_of (i := 4) HBX6.out rfl
              go_wp2_with fail
              refine (enter_any w6 ⟨8, 1, 0, wa, 1⟩ (k : Int)).mono ?_
              rintro en w7 ⟨p, rfl, hp, hq7, f7⟩
              have hs7 := f7.size
              have hob7 := row_keep HOB6.out f7 (by simp)
              have HALL7 := Lib.hid (HALL6.out.fr f7 (by simp))
              have HLT7 := Lib.hid HALL6.out.lt
              have HQ7 := Lib.hid hq7
              have F7 := Lib.hid f7
              have hPl : P.length ≤ k := by rw [HP.out.1]; exact hWl
              clear f7 hq7 q0 q1 q2 q3 q4
              go_wp2_with (first
                | (at_builtin; refine wpList_append_own _ rfl _ _ 30 rfl B 32 i1 (.pointer none) 1 8 Try.underlying30 hi1 hy0 hy1 hy2 rfl (by decide) _ P.length _ rfl (hob7.alloc _) ⟨w7.heap.size, 0, none⟩ 1 1 [ptrV p] rfl rfl (cell_one_new _ _ _) (by simp [Value.oneCell', ptrV]) (by unfold maxLen; omega) (by omega) (by simp; omega) ?_)
                | fail)
              intro v8 w8 hown8 hgrow8 _
              have f8 := grown_fr hgrow8
              have HOB8 := Lib.hid (show w8.ownsRow B 32 1 v8 (P ++ [p]).length ((P ++ [p]).map ptrV) from by simpa using hown8)
              have hoa7 := row_keep HOA6.out F7.out (by simp)
              have HOA8 := Lib.hid (row_keep hoa7 f8 (own_ne hob7 hoa7 (by decide)))
              have HALL8 := Lib.hid ((HALL7.out.snoc HQ7.out).row hob7 (by decide) f8)
              have HF8' := Lib.hid (grown_step (HF6.out.trans F7.out) hob7 (Nat.le_of_eq HB.out.symm) hgrow8)
              have HPN := Lib.hid (show (P ++ [p]).Nodup ∧ ∀ q ∈ P ++ [p], B ≤ q from by
                refine ⟨List.nodup_append.2 ⟨HP.out.2.1, by simp, fun x hx y hy => ?_⟩, fun q hq => ?_⟩
                · rw [List.mem_singleton.1 hy]
                  have := HLT7.out x hx
                  omega
                · rcases List.mem_append.1 hq with hq | hq
                  · exact HP.out.2.2 q hq
                  · rw [List.mem_singleton.1 hq]; omega)
              clear hown8 hgrow8 f8 hoa7 hob7
              go_wp2
              go_roundw
              case rel => exact ⟨k + 1, W ++ [(k : Int)], P ++ [p], by omega, by go_num, by rw [wk_succ, if_neg HIN.out, HW.out], by simp; omega, by have := HP.out.1; simp; omega, HPN.out.1, HPN.out.2, HOA8.out, HOB8.out, by rw [List.map_append]; exact HALL8.out, HF8'.out⟩
              case measure => simp [intOf]; omega
          · obtain rfl : k = 8 := by omega
            rw [show ((8 : Nat) : Int) = 8 from rfl]
            have HGW := Lib.hid (show ∀ q, u11.ownBlock = some q → q ∉ pm :: qm :: P from fun q hq hm => by
              have h1 := (HOA.out.lt q hq).1
              have h2 := HLOW.out
              rcases List.mem_cons.1 hm with e | hm
              · omega
              · rcases List.mem_cons.1 hm with e | hm
                · omega
                · obtain ⟨j, hj⟩ := List.getElem?_of_mem hm
                  obtain ⟨s, hs⟩ : ∃ s, (W.map comer)[j]? = some s := ⟨_, List.getElem?_eq_getElem (by rw [HALL.out.1]; exact (List.getElem?_eq_some_iff.1 hj).1)⟩
                  exact own_ne_qu HOA.out (HALL.out.2 j q s hj hs) (by decide) (by rw [hq]; simp))
            have HGA := Lib.hid (show ∀ q, u12.ownBlock = some q → q ∉ pm :: qm :: P from fun q hq hm => by
              have h1 := (HOB.out.lt q hq).1
              have h2 := HLOW.out
              rcases List.mem_cons.1 hm with e | hm
              · omega
              · rcases List.mem_cons.1 hm with e | hm
                · omega
                · obtain ⟨j, hj⟩ := List.getElem?_of_mem hm
                  obtain ⟨s, hs⟩ : ∃ s, (W.map comer)[j]? = some s := ⟨_, List.getElem?_eq_getElem (by rw [HALL.out.1]; exact (List.getElem?_eq_some_iff.1 hj).1)⟩
                  exact own_ne_qu HOB.out (HALL.out.2 j q s hj hs) (by decide) (by rw [hq]; simp))
            obtain ⟨g5, c5, rfl, hI5⟩ := row_ints HOA.out
            obtain ⟨g7, c7, rfl, hP7⟩ := row_ptrs HOB.out
            have HI5 := Lib.hid hI5; have HP7 := Lib.hid hP7
            have HG5 := Lib.hid (show ∀ a, g5 = some a → a.block ∉ pm :: qm :: P from fun a ha => HGW.out a.block (by rw [ha]; rfl))
            have HG7 := Lib.hid (show ∀ a, g7 = some a → a.block ∉ pm :: qm :: P from fun a ha => HGA.out a.block (by rw [ha]; rfl))
            have hlow : ∀ b, b < B → b ≠ pm → b ≠ qm → b ∉ pm :: qm :: P := fun b hb h1 h2 hm => by
              rcases List.mem_cons.1 hm with e | hm
              · exact h1 e
              · rcases List.mem_cons.1 hm with e | hm
                · exact h2 e
                · have := HP.out.2.2 b hm; omega
            have HG3 := Lib.hid (show ∀ a, g3 = some a → a.block ∉ pm :: qm :: P from fun a ha => hlow _ (HGB4.out a ha).1 (HGB4.out a ha).2.1 (HGB4.out a ha).2.2)
            have HB6 := Lib.hid (show b6 ∉ pm :: qm :: P from hlow _ HLOW.out.2.2.1 HLOW.out.2.2.2.2.2.2.1 HLOW.out.2.2.2.2.2.2.2)
            have HOLD := Lib.hid (show ∀ b, b < w.heap.size → b ∉ pm :: qm :: P from fun b hb => hlow b (by have := HLOW.out; omega) (by have := HLOW.out; omega) (by have := HLOW.out; omega))
            have HNEWP := Lib.hid (show ∀ q ∈ pm :: qm :: P, w.heap.size ≤ q from fun q hq => by
              rcases Nat.lt_or_ge q w.heap.size with h | h
              · exact (HOLD.out q h hq).elim
              · exact h)
            have HFIX := Lib.hid (show RaFix ⟨8, 1, 0, wa, 1⟩ P W pm qm from ⟨HP.out.2.1, HP.out.1, fun p hp => by have := HP.out.2.2 p hp; have := HLOW.out; omega, by rw [HW.out]; exact wk_nodup F 8, fun x hx => by rw [HW.out] at hx; exact (wk_mem.1 hx).1, HFT.out, rfl⟩)
            have HFW2 := Lib.hid (show ∀ x : Int, 0 ≤ x → x < 8 → x ∈ F ∨ x ∈ W from fun x h0 h1 => by
              rw [HW.out]
              by_cases hx : x ∈ F
              · exact .inl hx
              · exact .inr (wk_mem.2 ⟨⟨h0, h1⟩, hx⟩))
            have HRA := Lib.hid (show RaW ⟨8, 1, 0, wa, 1⟩ P W F pm qm (W.map comer) (laidM ⟨8, 1, 0, wa, 1⟩ 0 F) t1 wr from by
              obtain ⟨h1, h2⟩ := laid_ok HFT.out 0 HFL.out
              exact ⟨HALL.out, HM4.out.fr HF.out (by simp) (by simp), h1, by rw [length_laidM]; rfl, laid_0 HFT.out 0 F, by rw [h2, HW.out]; exact ra_begin HFL.out HFW.out HF8.out⟩)
            have F4r := Lib.hid (F4.out.trans HF.out)
            have HI3r := Lib.hid (HI4.out.fr HF.out (by simp))
            have HTr := Lib.hid (HTT.out.fr F4r.out)
            have HTB := Lib.hid (show ∀ (j : Nat) (y : Int), T[j]? = some y → ∃ b o, gt = some ⟨b, o, none⟩ ∧ b ∉ pm :: qm :: P ∧ wr.cell? ⟨b, o + j, none⟩ = some (.int .u8 y) from fun j y hy => by
              obtain ⟨b, o, hg, hc⟩ := HTT.out.2.2 j y hy
              exact ⟨b, o, hg, HOLD.out b (World.block_lt_of_cell? w _ hc), F4r.out.cell hc (by simp)⟩)
            have HTV := Lib.hid HTT.out.2.1
            obtain ⟨np, hnp⟩ : ∃ np, np = P.length := ⟨_, rfl⟩
            have HNP := Lib.hid hnp
            have HNW := Lib.hid (show np = W.length by rw [hnp, HP.out.1])
            have hnp8 : np ≤ 8 := by rw [hnp, HP.out.1]; exact hWl
            rw [← hnp, ← HNW.out]
            clear hnp hlow HGW HGA HOA HOB hI5 hP7 HALL HI4 hk hlt hsz hWl q0 q1 q2 q3 q4
            go_upto_block 2 with fail
            go_cut [16] from 77 to 100 (fun _ wx => ∃ (t : Int) (M : List Int) (S : List QuS), (0 ≤ t ∧ t ≤ 62) ∧ RaW ⟨8, 1, 0, wa, 1⟩ P W F pm qm S M t wx ∧ Fr (pm :: qm :: P) wr wx)
            case first =>
              go_wp2_with fail
              go_loopw [16] (fun i wz => ∃ (k : Nat) (t : Int) (M : List Int) (S : List QuS), k ≤ lt ∧ i = .int .i64 (k : Int) ∧ (0 ≤ t ∧ t ≤ 2 + k) ∧ RaW ⟨8, 1, 0, wa, 1⟩ P W F pm qm S M t wz ∧ Fr (pm :: qm :: P) wr wz) (fun i _ => lt - (intOf i).toNat)
              case atStart => exact ⟨0, t1, _, _, by omega, rfl, by omega, HRA.out, Fr.refl _ _⟩
              case round =>
                obtain ⟨k, t, M, S, hk, rfl, ht, hra, hf⟩ := hrel
                by_cases hgo : k < lt ∧ 0 < np
                · obtain ⟨hlt, hn0⟩ := hgo
                  have hlt' : (k : Int) < (lt : Int) := by omega
                  have hn0' : (0 : Int) < (np : Int) := by omega
                  have hnp0 : ¬ (np : Int) = 0 := by omega
                  obtain ⟨y, hy⟩ : ∃ y, T[k]? = some y := ⟨_, List.getElem?_eq_getElem (by rw [← HLT.out]; exact hlt)⟩
                  have hyb := HTV.out y (List.mem_of_getElem? hy)
                  obtain ⟨bt, ot, hgt, hbt, hct⟩ := HTB.out k y hy
                  have hct := hf.cell hct hbt
                  have hr0 : 0 ≤ y % (np : Int) := Int.emod_nonneg _ hnp0
                  have hr1 : y % (np : Int) < (np : Int) := Int.emod_lt_of_pos _ hn0'
                  obtain ⟨p, hp⟩ : ∃ p, P[(y % (np : Int)).toNat]? = some p := ⟨_, List.getElem?_eq_getElem (by rw [← HNP.out]; omega)⟩
                  obtain ⟨ba, oa, hga, hca⟩ := HP7.out _ p hp
                  have hca := hf.cell hca (HG7.out ⟨ba, oa, none⟩ hga)
                  unfold ptrV at hca
                  have HST := Lib.hid (ra_call hra HFIX.out hp (by omega) (by omega))
                  have HF := Lib.hid hf
                  subst hgt; subst hga
                  clear hra hf hy hp
                  go_wp2_with fail
                  refine HST.out.mono ?_
                  rintro en w5 ⟨b, s, s', M', t', rfl, -, hra, ht', -, hf⟩
                  have HRA5 := Lib.hid hra; have HF5 := Lib.hid (HF.out.trans hf)
                  clear hra hf HST
                  go_wp2
                  go_roundw
                  case rel => exact ⟨k + 1, t', M', _, by omega, by go_num, by omega, HRA5.out, HF5.out⟩
                  case measure => simp [intOf]; omega
                · have hout : ¬ (k : Int) < (lt : Int) ∨ ¬ (0 : Int) < (np : Int) := by omega
                  have HRA2 := Lib.hid hra; have HFr := Lib.hid hf
                  have ht2 : 0 ≤ t ∧ t ≤ 62 := by omega
                  clear hra hf hgo ht
                  rcases hout with hout | hout
                  · go_wp2_with fail
                    go_meet
                    case rel => exact ⟨t, M, S, ht2, HRA2.out, HFr.out⟩
                  · by_cases hout2 : (k : Int) < (lt : Int)
                    · go_wp2_with fail
                      go_meet
                      case rel => exact ⟨t, M, S, ht2, HRA2.out, HFr.out⟩
                    · go_wp2_with fail
                      go_meet
                      case rel => exact ⟨t, M, S, ht2, HRA2.out, HFr.out⟩
            case rest =>
              obtain ⟨t2, M2, S2, ht2, hra2, hf2⟩ := hcut
              have HRA2 := Lib.hid hra2; have HFR2 := Lib.hid hf2
              clear hra2 hf2
              go_upto_block 4 with fail
              go_cut [17, 18] from 101 to 116 (fun _ _ wx => ∃ (t : Int) (M : List Int) (S : List QuS), (0 ≤ t ∧ t ≤ 62 + 9 * np) ∧ RaW ⟨8, 1, 0, wa, 1⟩ P W F pm qm S M t wx ∧ Fr (pm :: qm :: P) wr wx ∧ ∀ (j : Nat) (s : QuS), S[j]? = some s → s.nx = .done)
              case first =>
                go_wp2_with fail
                go_loopw [17] (fun i wz => ∃ (k : Nat) (t : Int) (M : List Int) (S : List QuS), k ≤ np ∧ i = .int .i64 (k : Int) ∧ (0 ≤ t ∧ t ≤ 62 + 9 * k) ∧ RaW ⟨8, 1, 0, wa, 1⟩ P W F pm qm S M t wz ∧ Fr (pm :: qm :: P) wr wz ∧ ∀ (j : Nat) (s : QuS), j < k → S[j]? = some s → s.nx = .done) (fun i _ => np - (intOf i).toNat)
                case atStart => exact ⟨0, t2, M2, S2, by omega, rfl, by omega, HRA2.out, HFR2.out, fun j s hj => by omega⟩
                case round =>
                  obtain ⟨k, t, M, S, hk, rfl, ht, hra, hf, hd⟩ := hrel
                  have HRA := Lib.hid hra; have HF := Lib.hid hf; have HD := Lib.hid hd
                  clear hra hf hd
                  by_cases hlt : k < np
                  · have hlt' : (k : Int) < (np : Int) := by omega
                    go_wp2_with fail
                    go_loopw [18] (fun i wz => ∃ (m : Nat) (t' : Int) (M : List Int) (S : List QuS), m ≤ 9 ∧ i = .int .i64 (m : Int) ∧ (0 ≤ t' ∧ t' ≤ t + m) ∧ RaW ⟨8, 1, 0, wa, 1⟩ P W F pm qm S M t' wz ∧ Fr (pm :: qm :: P) wr wz ∧ (∀ (j : Nat) (s : QuS), j < k → S[j]? = some s → s.nx = .done) ∧ ∀ s, S[k]? = some s → rk s (mQ M) ≤ 4 - m) (fun i _ => 9 - (intOf i).toNat)
                    case atStart => exact ⟨0, t, M, S, by omega, rfl, by omega, HRA.out, Fr.refl _ _, HD.out, fun s hs => HRA.out.rank hs⟩
                    case round =>
                      obtain ⟨m, t', M, S, hm, rfl, ht', hra, hf', hd, hrk⟩ := hrel
                      by_cases hm9 : m < 9
                      · have hm9' : (m : Int) < 9 := by omega
                        obtain ⟨p, hp⟩ : ∃ p, P[k]? = some p := ⟨_, List.getElem?_eq_getElem (by rw [← HNP.out]; exact hlt)⟩
                        obtain ⟨ba, oa, hga, hca⟩ := HP7.out _ p hp
                        have hca := hf'.cell (HF.out.cell hca (HG7.out ⟨ba, oa, none⟩ hga)) (HG7.out ⟨ba, oa, none⟩ hga)
                        unfold ptrV at hca
                        have HST := Lib.hid (ra_call hra HFIX.out hp (by omega) (by omega))
                        have HF' := Lib.hid hf'
                        have HD' := Lib.hid (And.intro hd hrk)
                        subst hga
                        clear hra hf' hp hd hrk
                        go_wp2_with fail
                        refine HST.out.mono ?_
                        rintro en w5 ⟨b, s, s', M', t'', rfl, hs, hra, ht'', hrk, hf⟩
                        have HRA5 := Lib.hid hra; have HF5 := Lib.hid (HF'.out.trans hf)
                        have HD5 := Lib.hid (show (∀ (j : Nat) (s1 : QuS), j < k → (S.set k s')[j]? = some s1 → s1.nx = .done) ∧ ∀ s1, (S.set k s')[k]? = some s1 → rk s1 (mQ M') ≤ 4 - (m + 1) from
                          ⟨fun j s1 hj h1 => HD'.out.1 j s1 hj (set_off (by omega) h1), fun s1 h1 => by
                            rw [set_at hs h1]
                            have := HD'.out.2 s hs
                            omega⟩)
                        clear hra hf HST hs hrk
                        go_wp2
                        go_roundw
                        case rel => exact ⟨m + 1, t'', M', _, by omega, by go_num, by omega, HRA5.out, HF5.out, HD5.out.1, HD5.out.2⟩
                        case measure => simp [intOf]; omega
                      · obtain rfl : m = 9 := by omega
                        rw [show ((9 : Nat) : Int) = 9 from rfl] at ht' ⊢
                        have HRA5 := Lib.hid hra; have HF5 := Lib.hid (HF.out.trans hf')
                        have HD5 := Lib.hid (show ∀ (j : Nat) (s1 : QuS), j < k + 1 → S[j]? = some s1 → s1.nx = .done from fun j s1 hj h1 => by
                          by_cases hjk : j = k
                          · subst hjk
                            exact rk_zero (Qc := mQ M) (by have := hrk s1 h1; omega)
                          · exact hd j s1 (by omega) h1)
                        clear hra hf' hd hrk
                        go_wp2
                        go_roundw
                        case rel => exact ⟨k + 1, t', M, S, by omega, by go_num, by omega, HRA5.out, HF5.out, HD5.out⟩
                        case measure => simp [intOf]; omega
                  · have hkn : k = np := by omega
                    have HD5 := Lib.hid (show ∀ (j : Nat) (s1 : QuS), S[j]? = some s1 → s1.nx = .done from fun j s1 h1 => HD.out j s1 (by
                      have h2 := (List.getElem?_eq_some_iff.1 h1).1
                      rw [HRA.out.1.1, ← HNP.out] at h2
                      omega) h1)
                    have htk : 0 ≤ t ∧ t ≤ 62 + 9 * np := by omega
                    have hkn' : ¬ (k : Int) < (np : Int) := by omega
                    clear hkn
                    go_wp2_with fail
                    go_meet
                    case rel => exact ⟨t, M, S, htk, HRA.out, HF.out, HD5.out⟩
              case rest =>
                obtain ⟨t3, M3, S3, ht3, hra3, hf3, hd3⟩ := hcut
                have HRA3 := Lib.hid hra3
                have hmo3 := hra3.2.2.1
                obtain ⟨nq, hnq⟩ : ∃ nq, nq = (mQ M3).length := ⟨_, rfl⟩
                have hlen3 := ra_len hra3.2.2.2.2.2 hd3 HFW2.out
                have hpre := hra3.2.2.2.2.2.1
                have hple := hpre.length_le
                rw [← hnq] at hlen3 hple
                rw [← HFN.out] at hple
                have HPRE := Lib.hid hpre; have HFR3 := Lib.hid hf3; have HD3 := Lib.hid hd3; have HNQ := Lib.hid hnq
                have HL1 := Lib.hid hmo3.2.2; have HLQ := Lib.hid hmo3.2.1
                have HLD := Lib.hid (load_any wc pm qm M3 t3 1 hra3.2.1 (by omega) (by omega))
                have HBX3c := Lib.hid (hf3.at (HF.out.at HBX4.out (by simp)) HB6.out)
                clear hra3 hmo3 hf3 hd3 hpre hnq
                go_wp2_with fail
                refine HLD.out.mono ?_
                rintro en w5 ⟨rfl, hm5, f5⟩
                rw [HL1.out]
                have htc := tch_0 M3 1
                have HLI := Lib.hid (ref_list_own w5 (wd (mQ M3) : Int) (by have := wd_lt HLQ.out; omega))
                have HFc := Lib.hid (f5.mono (S' := pm :: qm :: P) (by simp +contextual))
                have HALL5 := Lib.hid (HRA3.out.1.fr f5 (fun p hp => by have := HFIX.out.2.2.1 p hp; simp; exact this))
                have HM5 := Lib.hid hm5
                clear hm5 f5 HLD
                go_wp2_with fail
                refine HLI.out.mono ?_
                rintro en w6 ⟨v9, rfl, hown9, f6⟩
                rw [refLi_wd HLQ.out] at hown9
                obtain ⟨g9, c9, rfl, hI9⟩ := row_ints hown9
                have hc9 := own_cap hown9
                have HG9 := Lib.hid (show ∀ a, g9 = some a → a.block ∉ [pm, qm] from fun a ha => by
                  subst ha
                  have h1 := (hown9.lt a.block rfl).1
                  have h2 := HM5.out.plt; have h3 := HM5.out.qlt
                  simp; omega)
                rw [← HNQ.out] at hc9 ⊢
                have HFc6 := Lib.hid (HFc.out.trans (f6.mono (by simp)))
                have HM6 := Lib.hid (HM5.out.fr f6 (by simp) (by simp))
                have HI9 := Lib.hid hI9
                have HALL6 := Lib.hid (HALL5.out.fr f6 (by simp))
                have HP6 := Lib.hid (HP7.out.fr (HFR3.out.trans HFc6.out) (fun a ha => HG7.out a ha))
                have HI6 := Lib.hid (HI5.out.fr (HFR3.out.trans HFc6.out) (fun a ha => HG5.out a ha))
                have HF6 := Lib.hid (HI3r.out.fr (HFR3.out.trans HFc6.out) (fun a ha => HG3.out a ha))
                have HBX6 := Lib.hid (HFc6.out.at HBX3c.out HB6.out)
                have q3 := cell_of (i := 3) HBX6.out rfl
                clear hI9 hown9 f6 HLI HFc
                go_upto_region 35 with fail
                go_cut [136] from 120 to 135 (fun v wx => v = .bool false ∧ wx = w6)
                case first =>
                  have hcc : ¬ (nq : Int) < (nf : Int) := by omega
                  by_cases hl3 : (nq : Int) = wa
                  · have hb1 : ((nq : Int) != wa) = false := by rw [hl3]; simp
                    clear hl3 hlen3
                    go_wp2_with fail
                    go_meet
                    case rel => exact ⟨rfl, rfl⟩
                  · have hb1 : ((nq : Int) != wa) = true := by simp [hl3]
                    have hb2 : ((nq : Int) != 8) = false := by
                      have : (nq : Int) = 8 := by omega
                      rw [this]; rfl
                    clear hl3 hlen3
                    go_wp2_with fail
                    go_meet
                    case rel => exact ⟨rfl, rfl⟩
                case rest =>
                  obtain ⟨rfl, hwc⟩ := hcut
                  rw [hwc]
                  clear hwc
                  go_wp2_with fail
                  go_loopw [20] (fun i wz => ∃ k : Nat, k ≤ np ∧ i = .int .i64 (k : Int) ∧ Fr [] w6 wz) (fun i _ => np - (intOf i).toNat)
                  case atStart => exact ⟨0, by omega, rfl, Fr.refl _ _⟩
                  case round =>
                    obtain ⟨k, hk, rfl, hf⟩ := hrel
                    have HFR := Lib.hid hf
                    clear hf
                    by_cases hlt : k < np
                    · have hlt' : (k : Int) < (np : Int) := by omega
                      obtain ⟨p, hp⟩ : ∃ p, P[k]? = some p := ⟨_, List.getElem?_eq_getElem (by rw [← HNP.out]; exact hlt)⟩
                      obtain ⟨s, hs⟩ : ∃ s, S3[k]? = some s := ⟨_, List.getElem?_eq_getElem (by rw [HRA3.out.1.1, ← HNP.out]; exact hlt)⟩
                      obtain ⟨x, hx⟩ : ∃ x, W[k]? = some x := ⟨_, List.getElem?_eq_getElem (by rw [← HNW.out]; exact hlt)⟩
                      have hsn := HD3.out k s hs
                      have hras := HRA3.out.2.2.2.2.2.2.2.2.2.2 k s x hs hx
                      have hqs := HALL6.out.2 k p s hp hs
                      obtain ⟨ba, oa, hga, hca⟩ := HP6.out _ p hp
                      have hca := HFR.out.cell hca (by simp)
                      unfold ptrV at hca
                      obtain ⟨bw, ow, hgw, hcw⟩ := HI6.out.2 k x hx
                      have hcw := HFR.out.cell hcw (by simp)
                      have han := answer_any wr p ⟨8, 1, 0, wa, 1⟩ s (hqs.fr HFR.out (by simp))
                      rw [hsn, show QSt.done.fn.isNone = true from rfl] at han
                      have hcase : (s.e = 0 ∧ x ∈ mQ M3) ∨ (s.e = 7 ∧ x ∉ mQ M3) := by
                        obtain ⟨-, -, h⟩ := hras
                        rcases h with ⟨hn, -⟩ | ⟨hn, -⟩ | ⟨hn, -⟩ | ⟨-, h1, h2⟩ | ⟨-, h1, h2, -⟩
                        · rw [hsn] at hn; cases hn
                        · rw [hsn] at hn; cases hn
                        · rw [hsn] at hn; cases hn
                        · exact .inl ⟨h1, h2⟩
                        · exact .inr ⟨h1, h2⟩
                      have hhas := fun (W' : World) (f : Fr [] wr W') => ref_has_any W' g9 c9 (mQ M3) x ((HI9.out.fr HFR.out (by simp)).fr f (by simp))
                      rw [← HNQ.out] at hhas
                      subst hga; subst hgw
                      rcases hcase with ⟨he, hin⟩ | ⟨he, hin⟩
                      · rw [he] at han
                        rw [decide_eq_true hin] at hhas
                        have HAN := Lib.hid han; have HHAS := Lib.hid hhas
                        clear han hhas hin he hqs hras hsn hp hs hx
                        go_wp2_with fail
                        refine HAN.out.mono ?_
                        rintro en w7 ⟨rfl, f7⟩
                        have hca := f7.cell hca (by simp); have hcw := f7.cell hcw (by simp)
                        have F7 := Lib.hid f7
                        clear f7
                        go_wp2_with fail
                        refine (HHAS.out w7 F7.out).mono ?_
                        rintro en w8 ⟨rfl, f8⟩
                        have F8 := Lib.hid (F7.out.trans f8)
                        clear f8
                        go_wp2
                        go_roundw
                        case rel => exact ⟨k + 1, by omega, by go_num, HFR.out.trans F8.out⟩
                        case measure => simp [intOf]; omega
                      · rw [he] at han
                        rw [decide_eq_false hin] at hhas
                        have HAN := Lib.hid han; have HHAS := Lib.hid hhas
                        clear han hhas hin he hqs hras hsn hp hs hx
                        go_wp2_with fail
                        refine HAN.out.mono ?_
                        rintro en w7 ⟨rfl, f7⟩
                        have hca := f7.cell hca (by simp); have hcw := f7.cell hcw (by simp)
                        have F7 := Lib.hid f7
                        clear f7
                        go_wp2_with fail
                        refine (HHAS.out w7 F7.out).mono ?_
                        rintro en w8 ⟨rfl, f8⟩
                        have F8 := Lib.hid (F7.out.trans f8)
                        clear f8
                        go_wp2
                        go_roundw
                        case rel => exact ⟨k + 1, by omega, by go_num, HFR.out.trans F8.out⟩
                        case measure => simp [intOf]; omega
                    · have hkn : ¬ (k : Int) < (np : Int) := by omega
                      have HLD := Lib.hid (load_any wr pm qm M3 (t3 + tch M3 1) 1 (HM6.out.fr HFR.out (by simp) (by simp)) (by omega) (by omega))
                      go_wp2_with fail
                      refine HLD.out.mono ?_
                      rintro en w7 ⟨rfl, hm7, f7⟩
                      rw [HL1.out]
                      have F7 := Lib.hid f7
                      have hrt := ref_right_any w7 (wd (mQ M3) : Int) (by omega) (by have := wd_lt HLQ.out; omega)
                      have HRT := Lib.hid hrt
                      clear hm7 f7 hrt HLD
                      go_wp2_with fail
                      refine HRT.out.mono ?_
                      rintro en w8 ⟨rb, rfl, hrb, f8⟩
                      obtain rfl : rb = true := hrb.2 ⟨_, HLQ.out, rfl⟩
                      have F8 := Lib.hid f8
                      have htk := HI9.out.takeN nf
                      have hFeq : (mQ M3).take nf = F := by rw [HFN.out]; exact (List.prefix_iff_eq_take.1 HPRE.out).symm
                      rw [hFeq] at htk
                      have hw8 := (HFR.out.mono (S' := pm :: qm :: P) (by simp)).trans ((F7.out.mono (S' := pm :: qm :: P) (by simp +contextual)).trans (F8.out.mono (by simp)))
                      have hw9 := (HFR.out.mono (S' := [pm, qm]) (by simp)).trans (F7.out.trans (F8.out.mono (by simp)))
                      have hnt := ints_any w8 g9 g3 c9 c3 F F (htk.fr hw9 (fun a ha => HG9.out a ha)) (HF6.out.fr hw8 (fun a ha => HG3.out a ha))
                      rw [decide_eq_true rfl, ← HFN.out] at hnt
                      have HNT := Lib.hid hnt
                      have HW8 := Lib.hid hw8
                      have hnc : (nf : Int) ≤ (c9 : Int) := by omega
                      have hn0 : (0 : Int) ≤ (nf : Int) := by omega
                      clear hrb f8 htk hFeq hw8 hw9 hnt HRT
                      go_wp2_with fail
                      refine HNT.out.mono ?_
                      rintro en w9 ⟨rfl, f9⟩
                      have HEND := Lib.hid (show Fr [] w w9 from by
                        have x1 := F4r.out.then (HFR3.out.trans (HFc6.out.trans HW8.out)) (fun x hx => .inr (HNEWP.out x hx))
                        exact x1.trans f9)
                      clear f9 HNT
                      go_wp2
                      go_ret
                      exact ⟨rfl, HEND.out⟩

end Go.Proofs.Ytdpefnebghljoaa
