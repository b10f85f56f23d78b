/- The document's Queue: DROP and POP. -/
import Derived.Test.YtdpefnebghljoaaQuV
namespace Go.Proofs.Ytdpefnebghljoaa
open Go.RowKit

theorem tail_ints {w : World} {b o c : Nat} {L : List Int} (h : IntsAt w (some ⟨b, o, none⟩) L) (hc : L.length ≤ c) : IntsAt w (if c = 1 then some (⟨b, o, none⟩ : Addr) else some ⟨b, o + 1, none⟩) L.tail := by
  refine ⟨by have := h.1; rw [List.length_tail]; omega, fun j x hx => ?_⟩
  rw [List.getElem?_tail] at hx
  obtain ⟨b', o', hg, hcell⟩ := h.2 (j + 1) x hx
  have hj := (List.getElem?_eq_some_iff.1 hx).1
  simp only [Option.some.injEq, Addr.mk.injEq, and_true] at hg
  obtain ⟨rfl, rfl⟩ := hg
  rw [if_neg (by omega)]
  exact ⟨_, _, rfl, by rw [show o + 1 + j = o + (j + 1) by omega]; exact hcell⟩

set_option maxHeartbeats 8000000 in
set_option maxRecDepth 100000 in
theorem rswaps_drop1 (w : World) (p pm qm : Nat) (c : ConfV) (s : QuS) (M : List Int) (t : Int) (h : RqAt w p c s) (hM : MemAt 60 w pm qm M t) (ht0 : 0 ≤ t) (ht1 : t ≤ 1000000) (hp : p ≠ pm ∧ p ≠ qm) (hn : s.nx = .drop) (hm : MOk M) (hL : Ln s.line) (hcs : casB M 1 (wd s.line : Int) = true) :
    Calls Try.prog 46 #[.pointer (some ⟨p, 0, none⟩), .pointer (some ⟨pm, 0, none⟩)] w (SwPost w p pm qm c ({ s with nx := .done, e := s.why }) (M.set 1 (wd (rm s.line s.w) : Int)) (t + 1)) := by
  obtain ⟨st, hst⟩ : ∃ x, x = QSt.drop.str := ⟨_, rfl⟩
  have est_come : (st.toList == [67, 79, 77, 69]) = false := by rw [hst]; decide +kernel
  have est_push : (st.toList == [80, 85, 83, 72]) = false := by rw [hst]; decide +kernel
  have est_closed : (st.toList == [67, 76, 79, 83, 69, 68]) = false := by rw [hst]; decide +kernel
  have est_look : (st.toList == [76, 79, 79, 75]) = false := by rw [hst]; decide +kernel
  have est_drop : (st.toList == [68, 82, 79, 80]) = true := by rw [hst]; decide +kernel
  have est_head : (st.toList == [70, 73, 82, 83, 84]) = false := by rw [hst]; decide +kernel
  have est_pop : (st.toList == [80, 79, 80]) = false := by rw [hst]; decide +kernel
  have est_tell : (st.toList == [84, 69, 76, 76]) = false := by rw [hst]; decide +kernel
  have est_done : (st.toList == [68, 79, 78, 69]) = false := by rw [hst]; decide +kernel
  have q8 : w.cell? ⟨p, 8, none⟩ = some (.string st) := by rw [cell_of (i := 8) h rfl, hst]; show some (Value.string s.nx.str) = _; rw [hn]
  have z8 := frozen_of (i := 8) h
  obtain ⟨L, hLl⟩ : ∃ L, L = s.line := ⟨_, rfl⟩
  obtain ⟨R, hR⟩ : ∃ R, R = rm s.line s.w := ⟨_, rfl⟩
  rw [← hR]
  have q6 : w.cell? ⟨p, 6, none⟩ = some (.int .i64 (wd L : Int)) := by rw [hLl]; exact cell_of (i := 6) h rfl
  have HR := Lib.hid (show R = rm L s.w by rw [hR, hLl])
  rw [← hLl] at hL hcs
  have HT1 := Lib.hid (show tch M 1 = 1 by unfold tch; rw [if_pos (isIn_yes (by omega) (by have := hm.1; omega))])
  have HCB := Lib.hid hcs
  have HCL := Lib.hid (show casL M 1 (wd L : Int) (wd R : Int) = M.set 1 (wd R : Int) by unfold casL; rw [hcs]; rfl)
  obtain ⟨nl, hnl⟩ : ∃ nl, nl = L.length := ⟨_, rfl⟩
  have HNL := Lib.hid hnl
  have HLS := Lib.hid hLl
  have HL15 := Lib.hid (show nl ≤ 15 by rw [hnl]; exact hL.length)
  have HOK := Lib.hid (show Ln R by rw [hR]; exact (hLl ▸ hL).rm s.w)
  have HLL := Lib.hid hL; have HP := Lib.hid hp; have H := Lib.hid h; have HM := Lib.hid hM
  clear h hM hn hst hp hR hLl hL hcs hm
  clear hnl
  go_enter Try.func46, Try.ntmps46
  go_wp2_with fail
  refine (ref_list_own w (wd L : Int) (by have := wd_lt HLL.out; omega)).mono ?_
  rintro en w1 ⟨v1, rfl, hown1, f1⟩
  rw [refLi_wd HLL.out] at hown1
  obtain ⟨g3, c3, rfl, hI3⟩ := row_ints hown1
  have hcap := own_cap hown1
  rw [← HNL.out] at hcap
  have hg3 : ∀ a, g3 = some a → a.block ∉ [p] := fun a ha => by
    subst ha
    have h1 := (hown1.lt a.block rfl).1
    have h2 := heap_lt (show w.heap[p]? = some _ from H.out)
    simp; omega
  rw [← HNL.out]
  have h1 := H.out.fr f1 (by simp)
  have q8 := f1.cell q8 (by simp)
  have z8 := frozen_of (i := 8) h1
  have FS := (Fr.refl [p] w1).setCell (p := ⟨p, 8, none⟩) (.inl (by simp)) (.string ⟨#[76, 79, 79, 75]⟩)
  have H2 := Lib.hid (show RqAt (w1.setCell ⟨p, 8, none⟩ (.string ⟨#[76, 79, 79, 75]⟩)) p c { s with nx := .look } from h1.setNx .look)
  have HM2 := Lib.hid ((HM.out.fr f1 (by simp) (by simp)).fr FS (by simp; exact Ne.symm HP.out.1) (by simp; exact Ne.symm HP.out.2))
  have HF2 := Lib.hid ((f1.mono (S' := [p, pm, qm]) (by simp)).trans (FS.mono (by simp)))
  have HI2 := Lib.hid (hI3.fr FS hg3)
  have q5 : (w1.setCell ⟨p, 8, none⟩ (.string ⟨#[76, 79, 79, 75]⟩)).cell? ⟨p, 5, none⟩ = some (.int .i64 s.w) := cell_of (i := 5) H2.out rfl
  have q6 : (w1.setCell ⟨p, 8, none⟩ (.string ⟨#[76, 79, 79, 75]⟩)).cell? ⟨p, 6, none⟩ = some (.int .i64 (wd L : Int)) := by rw [HLS.out]; exact cell_of (i := 6) H2.out rfl
  clear h1 f1 FS H HM hI3 hown1 hg3
  go_wp2_with fail
  generalize w1.setCell ⟨p, 8, none⟩ (.string ⟨#[76, 79, 79, 75]⟩) = w2 at H2 HM2 HF2 HI2 q5 q6 ⊢
  clear q8 z8
  have F0 := (Fr.refl [] w2).drew
  refine wp_region_held_drew (S := fun w' => w'.cell? ⟨p, 5, none⟩ = some (.int .i64 s.w) ∧ w'.cell? ⟨p, 6, none⟩ = some (.int .i64 (wd L : Int))) (by kernel_rfl) ⟨q5, q6⟩ (fun hHeld => ?_)
  refine wpAnyH_take (i := 0) (oi := _) (v := ?_) rfl (by kernel_rfl) (by kernel_rfl) (by kernel_rfl) (fun _ _ _ h => h) (Or.inl ⟨by rfl, ?_⟩) (by assumption) ?_
  rotate_left
  · intro w hSw
    try dsimp only at hSw
    try simp only [List.getElem_toArray, List.getElem_cons_zero]
    go_split_ands
    go_simp
    try with_reducible rfl
  try simp only [Act.put, List.getElem_toArray, List.getElem_cons_zero, List.setIfInBounds_toArray, List.set_cons_zero, List.set_cons_succ]
  refine wpAnyH_take (i := 1) (oi := _) (v := ?_) rfl (by kernel_rfl) (by kernel_rfl) (by kernel_rfl) (fun _ _ _ h => h) (Or.inl ⟨by rfl, ?_⟩) (by assumption) ?_
  rotate_left
  · intro w hSw
    try dsimp only at hSw
    try simp only [List.getElem_toArray, List.getElem_cons_succ, List.getElem_cons_zero]
    go_split_ands
    go_simp
    try with_reducible rfl
  try simp only [Act.put, List.getElem_toArray, List.getElem_cons_succ, List.getElem_cons_zero, List.setIfInBounds_toArray, List.set_cons_zero, List.set_cons_succ]
  refine wpAnyH_take (i := 2) (oi := _) (v := ?_) rfl (by kernel_rfl) (by kernel_rfl) (by kernel_rfl) (fun _ _ _ h => h) (Or.inl ⟨by rfl, ?_⟩) (by assumption) ?_
  rotate_left
  · intro w hSw
    try dsimp only at hSw
    try simp only [List.getElem_toArray, List.getElem_cons_succ, List.getElem_cons_zero]
    go_split_ands
    go_simp
    try with_reducible rfl
  try simp only [Act.put, List.getElem_toArray, List.getElem_cons_succ, List.getElem_cons_zero, List.setIfInBounds_toArray, List.set_cons_zero, List.set_cons_succ]
  refine wpAnyH_take (i := 3) (oi := _) (v := ?_) rfl (by kernel_rfl) (by kernel_rfl) (by kernel_rfl) (fun _ _ _ h => h) (Or.inl ⟨by rfl, ?_⟩) (by assumption) ?_
  rotate_left
  · intro w hSw
    try dsimp only at hSw
    try simp only [List.getElem_toArray, List.getElem_cons_succ, List.getElem_cons_zero]
    go_split_ands
    go_simp
    try with_reducible rfl
  try simp only [Act.put, List.getElem_toArray, List.getElem_cons_succ, List.getElem_cons_zero, List.setIfInBounds_toArray, List.set_cons_zero, List.set_cons_succ]
  refine wpAnyH_take (i := 4) (oi := _) (v := ?_) rfl (by kernel_rfl) (by kernel_rfl) (by kernel_rfl) (fun _ _ _ h => h) (Or.inl ⟨by rfl, ?_⟩) (by assumption) ?_
  rotate_left
  · intro w hSw
    try dsimp only at hSw
    try simp only [List.getElem_toArray, List.getElem_cons_succ, List.getElem_cons_zero]
    go_split_ands
    go_simp
    try with_reducible rfl
  try simp only [Act.put, List.getElem_toArray, List.getElem_cons_succ, List.getElem_cons_zero, List.setIfInBounds_toArray, List.set_cons_zero, List.set_cons_succ]
  refine wpAnyH_take (i := 5) (oi := _) (v := ?_) rfl (by kernel_rfl) (by kernel_rfl) (by kernel_rfl) (fun _ _ _ h => h) (Or.inl ⟨by rfl, ?_⟩) (by assumption) ?_
  rotate_left
  · intro w hSw
    try dsimp only at hSw
    try simp only [List.getElem_toArray, List.getElem_cons_succ, List.getElem_cons_zero]
    go_split_ands
    go_simp
    try with_reducible rfl
  try simp only [Act.put, List.getElem_toArray, List.getElem_cons_succ, List.getElem_cons_zero, List.setIfInBounds_toArray, List.set_cons_zero, List.set_cons_succ]
  refine wpAnyH_take (i := 6) (oi := _) (v := ?_) rfl (by kernel_rfl) (by kernel_rfl) (by kernel_rfl) (fun _ _ _ h => h) (Or.inl ⟨by rfl, ?_⟩) (by assumption) ?_
  rotate_left
  · intro w hSw
    try dsimp only at hSw
    try simp only [List.getElem_toArray, List.getElem_cons_succ, List.getElem_cons_zero]
    go_split_ands
    go_simp
    try with_reducible rfl
  try simp only [Act.put, List.getElem_toArray, List.getElem_cons_succ, List.getElem_cons_zero, List.setIfInBounds_toArray, List.set_cons_zero, List.set_cons_succ]
  refine wpAnyH_take (i := 7) (oi := _) (v := ?_) rfl (by kernel_rfl) (by kernel_rfl) (by kernel_rfl) (fun _ _ _ h => h) (Or.inl ⟨by rfl, ?_⟩) (by assumption) ?_
  rotate_left
  · intro w hSw
    try dsimp only at hSw
    try simp only [List.getElem_toArray, List.getElem_cons_succ, List.getElem_cons_zero]
    go_split_ands
    go_simp
    try with_reducible rfl
  try simp only [Act.put, List.getElem_toArray, List.getElem_cons_succ, List.getElem_cons_zero, List.setIfInBounds_toArray, List.set_cons_zero, List.set_cons_succ]
  refine wpAnyH_take (i := 8) (oi := _) (v := ?_) rfl (by kernel_rfl) (by kernel_rfl) (by kernel_rfl) (fun _ _ _ h => h) (Or.inl ⟨by rfl, ?_⟩) (by assumption) ?_
  rotate_left
  · intro w hSw
    try dsimp only at hSw
    try simp only [List.getElem_toArray, List.getElem_cons_succ, List.getElem_cons_zero]
    go_split_ands
    go_simp
    try with_reducible rfl
  try simp only [Act.put, List.getElem_toArray, List.getElem_cons_succ, List.getElem_cons_zero, List.setIfInBounds_toArray, List.set_cons_zero, List.set_cons_succ]
  refine wpAnyH_take (i := 9) (oi := _) (v := ?_) rfl (by kernel_rfl) (by kernel_rfl) (by kernel_rfl) (fun _ _ _ h => h) (Or.inl ⟨by rfl, ?_⟩) (by assumption) ?_
  rotate_left
  · intro w hSw
    try dsimp only at hSw
    try simp only [List.getElem_toArray, List.getElem_cons_succ, List.getElem_cons_zero]
    go_split_ands
    go_simp
    try with_reducible rfl
  try simp only [Act.put, List.getElem_toArray, List.getElem_cons_succ, List.getElem_cons_zero, List.setIfInBounds_toArray, List.set_cons_zero, List.set_cons_succ]
  have hdr := ref_drop_own w2.drew g3 c3 L s.w (by rw [← HNL.out]; have := HL15.out; omega) (HI2.out.fr F0 (by simp))
  rw [← HNL.out, ← HR.out] at hdr
  have HDR := Lib.hid hdr
  clear hdr
  refine wpAnyH_ready (rs := [10]) (by kernel_rfl) (by simp) ?_
  refine AllReadyH.cons (o := _) rfl (fun K hK => ?_) AllReadyH.nil
  simp only [List.getElem_toArray, List.getElem_cons_succ, List.getElem_cons_zero]
  go_simp
  refine (HDR.out).mono ?_
  rintro en w3 ⟨v3, rfl, hown3, f3⟩
  have F3 := F0.trans f3
  obtain ⟨g4, c4, rfl, hI4⟩ := row_ints hown3
  have HI4 := Lib.hid hI4
  clear hown3 hI4
  go_wp2_with fail
  refine hK.out _ _ ⟨F3.cell q5 (by simp), F3.cell q6 (by simp)⟩ (fun hHeld => ?_)
  clear hK K
  try simp only [Act.put, List.getElem_toArray, List.getElem_cons_succ, List.getElem_cons_zero, List.setIfInBounds_toArray, List.set_cons_zero, List.set_cons_succ]
  refine wpAnyH_ready (rs := [11]) (by kernel_rfl) (by simp) ?_
  refine AllReadyH.cons (o := _) rfl (fun K hK => ?_) AllReadyH.nil
  simp only [List.getElem_toArray, List.getElem_cons_succ, List.getElem_cons_zero]
  go_simp
  refine (ref_word_any w3 g4 c4 R HOK.out HI4.out).mono ?_
  rintro en wx ⟨rfl, fx⟩
  have Fx := F3.trans fx
  go_wp2_with fail
  refine hK.out _ _ ⟨Fx.cell q5 (by simp), Fx.cell q6 (by simp)⟩ (fun hHeld => ?_)
  clear hK K
  try simp only [Act.put, List.getElem_toArray, List.getElem_cons_succ, List.getElem_cons_zero, List.setIfInBounds_toArray, List.set_cons_zero, List.set_cons_succ]
  have hcas := rcas_any wx pm qm M t 1 (wd L : Int) (wd R : Int) (HM2.out.fr Fx (by simp) (by simp)) ht0 (by omega)
  rw [HCB.out, HCL.out, HT1.out] at hcas
  have HCAS := Lib.hid hcas
  clear hcas
  refine wpAnyH_ready (rs := [12]) (by kernel_rfl) (by simp) ?_
  refine AllReadyH.cons (o := _) rfl (fun K hK => ?_) AllReadyH.nil
  simp only [List.getElem_toArray, List.getElem_cons_succ, List.getElem_cons_zero]
  go_simp
  refine (HCAS.out).mono ?_
  rintro en wy ⟨rfl, hmy, fy⟩
  go_wp2_with fail
  refine hK.out _ _ ⟨fy.cell (Fx.cell q5 (by simp)) (by simp; exact HP.out), fy.cell (Fx.cell q6 (by simp)) (by simp; exact HP.out)⟩ (fun hHeld => ?_)
  clear hK K
  try simp only [Act.put, List.getElem_toArray, List.getElem_cons_succ, List.getElem_cons_zero, List.setIfInBounds_toArray, List.set_cons_zero, List.set_cons_succ]
  refine wpAnyH_done (by kernel_rfl) ?_ _
  have hy := (H2.out.fr Fx (by simp)).fr fy (by simp; exact HP.out)
  have HFy := Lib.hid (HF2.out.trans ((Fx.mono (by simp)).trans (fy.mono (by simp +contextual))))
  have q7 := cell_of (i := 7) hy rfl
  have HEND := Lib.hid (rend_any wy p c _ s.why hy)
  have HMy := Lib.hid hmy
  clear hy hmy fy Fx f3 fx F3 F0
  go_wp2_with fail
  refine HEND.out.mono ?_
  rintro en wz ⟨rfl, hz, fz⟩
  have HE := Lib.hid (show SwPost w p pm qm c { s with nx := .done, e := s.why } (M.set 1 (wd R : Int)) (t + 1) (.returned (.tuple #[])) wz from ⟨rfl, hz, HMy.out.fr fz (by simp; exact Ne.symm HP.out.1) (by simp; exact Ne.symm HP.out.2), HFy.out.trans (fz.mono (by simp))⟩)
  clear hz fz HEND
  go_wp2
  go_end0
  exact HE.out

set_option maxHeartbeats 8000000 in
set_option maxRecDepth 100000 in
theorem rswaps_drop0 (w : World) (p pm qm : Nat) (c : ConfV) (s : QuS) (M : List Int) (t : Int) (h : RqAt w p c s) (hM : MemAt 60 w pm qm M t) (ht0 : 0 ≤ t) (ht1 : t ≤ 1000000) (hp : p ≠ pm ∧ p ≠ qm) (hn : s.nx = .drop) (hm : MOk M) (hL : Ln s.line) (hcs : casB M 1 (wd s.line : Int) = false) :
    Calls Try.prog 46 #[.pointer (some ⟨p, 0, none⟩), .pointer (some ⟨pm, 0, none⟩)] w (SwPost w p pm qm c ({ s with nx := .look }) (M) (t + 1)) := by
  obtain ⟨st, hst⟩ : ∃ x, x = QSt.drop.str := ⟨_, rfl⟩
  have est_come : (st.toList == [67, 79, 77, 69]) = false := by rw [hst]; decide +kernel
  have est_push : (st.toList == [80, 85, 83, 72]) = false := by rw [hst]; decide +kernel
  have est_closed : (st.toList == [67, 76, 79, 83, 69, 68]) = false := by rw [hst]; decide +kernel
  have est_look : (st.toList == [76, 79, 79, 75]) = false := by rw [hst]; decide +kernel
  have est_drop : (st.toList == [68, 82, 79, 80]) = true := by rw [hst]; decide +kernel
  have est_head : (st.toList == [70, 73, 82, 83, 84]) = false := by rw [hst]; decide +kernel
  have est_pop : (st.toList == [80, 79, 80]) = false := by rw [hst]; decide +kernel
  have est_tell : (st.toList == [84, 69, 76, 76]) = false := by rw [hst]; decide +kernel
  have est_done : (st.toList == [68, 79, 78, 69]) = false := by rw [hst]; decide +kernel
  have q8 : w.cell? ⟨p, 8, none⟩ = some (.string st) := by rw [cell_of (i := 8) h rfl, hst]; show some (Value.string s.nx.str) = _; rw [hn]
  have z8 := frozen_of (i := 8) h
  obtain ⟨L, hLl⟩ : ∃ L, L = s.line := ⟨_, rfl⟩
  obtain ⟨R, hR⟩ : ∃ R, R = rm s.line s.w := ⟨_, rfl⟩
  skip
  have q6 : w.cell? ⟨p, 6, none⟩ = some (.int .i64 (wd L : Int)) := by rw [hLl]; exact cell_of (i := 6) h rfl
  have HR := Lib.hid (show R = rm L s.w by rw [hR, hLl])
  rw [← hLl] at hL hcs
  have HT1 := Lib.hid (show tch M 1 = 1 by unfold tch; rw [if_pos (isIn_yes (by omega) (by have := hm.1; omega))])
  have HCB := Lib.hid hcs
  have HCL := Lib.hid (show casL M 1 (wd L : Int) (wd R : Int) = M by unfold casL; rw [hcs]; rfl)
  obtain ⟨nl, hnl⟩ : ∃ nl, nl = L.length := ⟨_, rfl⟩
  have HNL := Lib.hid hnl
  have HLS := Lib.hid hLl
  have HL15 := Lib.hid (show nl ≤ 15 by rw [hnl]; exact hL.length)
  have HOK := Lib.hid (show Ln R by rw [hR]; exact (hLl ▸ hL).rm s.w)
  have HLL := Lib.hid hL; have HP := Lib.hid hp; have H := Lib.hid h; have HM := Lib.hid hM
  clear h hM hn hst hp hR hLl hL hcs hm
  clear hnl
  go_enter Try.func46, Try.ntmps46
  go_wp2_with fail
  refine (ref_list_own w (wd L : Int) (by have := wd_lt HLL.out; omega)).mono ?_
  rintro en w1 ⟨v1, rfl, hown1, f1⟩
  rw [refLi_wd HLL.out] at hown1
  obtain ⟨g3, c3, rfl, hI3⟩ := row_ints hown1
  have hcap := own_cap hown1
  rw [← HNL.out] at hcap
  have hg3 : ∀ a, g3 = some a → a.block ∉ [p] := fun a ha => by
    subst ha
    have h1 := (hown1.lt a.block rfl).1
    have h2 := heap_lt (show w.heap[p]? = some _ from H.out)
    simp; omega
  rw [← HNL.out]
  have h1 := H.out.fr f1 (by simp)
  have q8 := f1.cell q8 (by simp)
  have z8 := frozen_of (i := 8) h1
  have FS := (Fr.refl [p] w1).setCell (p := ⟨p, 8, none⟩) (.inl (by simp)) (.string ⟨#[76, 79, 79, 75]⟩)
  have H2 := Lib.hid (show RqAt (w1.setCell ⟨p, 8, none⟩ (.string ⟨#[76, 79, 79, 75]⟩)) p c { s with nx := .look } from h1.setNx .look)
  have HM2 := Lib.hid ((HM.out.fr f1 (by simp) (by simp)).fr FS (by simp; exact Ne.symm HP.out.1) (by simp; exact Ne.symm HP.out.2))
  have HF2 := Lib.hid ((f1.mono (S' := [p, pm, qm]) (by simp)).trans (FS.mono (by simp)))
  have HI2 := Lib.hid (hI3.fr FS hg3)
  have q5 : (w1.setCell ⟨p, 8, none⟩ (.string ⟨#[76, 79, 79, 75]⟩)).cell? ⟨p, 5, none⟩ = some (.int .i64 s.w) := cell_of (i := 5) H2.out rfl
  have q6 : (w1.setCell ⟨p, 8, none⟩ (.string ⟨#[76, 79, 79, 75]⟩)).cell? ⟨p, 6, none⟩ = some (.int .i64 (wd L : Int)) := by rw [HLS.out]; exact cell_of (i := 6) H2.out rfl
  clear h1 f1 FS H HM hI3 hown1 hg3
  go_wp2_with fail
  generalize w1.setCell ⟨p, 8, none⟩ (.string ⟨#[76, 79, 79, 75]⟩) = w2 at H2 HM2 HF2 HI2 q5 q6 ⊢
  clear q8 z8
  have F0 := (Fr.refl [] w2).drew
  refine wp_region_held_drew (S := fun w' => w'.cell? ⟨p, 5, none⟩ = some (.int .i64 s.w) ∧ w'.cell? ⟨p, 6, none⟩ = some (.int .i64 (wd L : Int))) (by kernel_rfl) ⟨q5, q6⟩ (fun hHeld => ?_)
  refine wpAnyH_take (i := 0) (oi := _) (v := ?_) rfl (by kernel_rfl) (by kernel_rfl) (by kernel_rfl) (fun _ _ _ h => h) (Or.inl ⟨by rfl, ?_⟩) (by assumption) ?_
  rotate_left
  · intro w hSw
    try dsimp only at hSw
    try simp only [List.getElem_toArray, List.getElem_cons_zero]
    go_split_ands
    go_simp
    try with_reducible rfl
  try simp only [Act.put, List.getElem_toArray, List.getElem_cons_zero, List.setIfInBounds_toArray, List.set_cons_zero, List.set_cons_succ]
  refine wpAnyH_take (i := 1) (oi := _) (v := ?_) rfl (by kernel_rfl) (by kernel_rfl) (by kernel_rfl) (fun _ _ _ h => h) (Or.inl ⟨by rfl, ?_⟩) (by assumption) ?_
  rotate_left
  · intro w hSw
    try dsimp only at hSw
    try simp only [List.getElem_toArray, List.getElem_cons_succ, List.getElem_cons_zero]
    go_split_ands
    go_simp
    try with_reducible rfl
  try simp only [Act.put, List.getElem_toArray, List.getElem_cons_succ, List.getElem_cons_zero, List.setIfInBounds_toArray, List.set_cons_zero, List.set_cons_succ]
  refine wpAnyH_take (i := 2) (oi := _) (v := ?_) rfl (by kernel_rfl) (by kernel_rfl) (by kernel_rfl) (fun _ _ _ h => h) (Or.inl ⟨by rfl, ?_⟩) (by assumption) ?_
  rotate_left
  · intro w hSw
    try dsimp only at hSw
    try simp only [List.getElem_toArray, List.getElem_cons_succ, List.getElem_cons_zero]
    go_split_ands
    go_simp
    try with_reducible rfl
  try simp only [Act.put, List.getElem_toArray, List.getElem_cons_succ, List.getElem_cons_zero, List.setIfInBounds_toArray, List.set_cons_zero, List.set_cons_succ]
  refine wpAnyH_take (i := 3) (oi := _) (v := ?_) rfl (by kernel_rfl) (by kernel_rfl) (by kernel_rfl) (fun _ _ _ h => h) (Or.inl ⟨by rfl, ?_⟩) (by assumption) ?_
  rotate_left
  · intro w hSw
    try dsimp only at hSw
    try simp only [List.getElem_toArray, List.getElem_cons_succ, List.getElem_cons_zero]
    go_split_ands
    go_simp
    try with_reducible rfl
  try simp only [Act.put, List.getElem_toArray, List.getElem_cons_succ, List.getElem_cons_zero, List.setIfInBounds_toArray, List.set_cons_zero, List.set_cons_succ]
  refine wpAnyH_take (i := 4) (oi := _) (v := ?_) rfl (by kernel_rfl) (by kernel_rfl) (by kernel_rfl) (fun _ _ _ h => h) (Or.inl ⟨by rfl, ?_⟩) (by assumption) ?_
  rotate_left
  · intro w hSw
    try dsimp only at hSw
    try simp only [List.getElem_toArray, List.getElem_cons_succ, List.getElem_cons_zero]
    go_split_ands
    go_simp
    try with_reducible rfl
  try simp only [Act.put, List.getElem_toArray, List.getElem_cons_succ, List.getElem_cons_zero, List.setIfInBounds_toArray, List.set_cons_zero, List.set_cons_succ]
  refine wpAnyH_take (i := 5) (oi := _) (v := ?_) rfl (by kernel_rfl) (by kernel_rfl) (by kernel_rfl) (fun _ _ _ h => h) (Or.inl ⟨by rfl, ?_⟩) (by assumption) ?_
  rotate_left
  · intro w hSw
    try dsimp only at hSw
    try simp only [List.getElem_toArray, List.getElem_cons_succ, List.getElem_cons_zero]
    go_split_ands
    go_simp
    try with_reducible rfl
  try simp only [Act.put, List.getElem_toArray, List.getElem_cons_succ, List.getElem_cons_zero, List.setIfInBounds_toArray, List.set_cons_zero, List.set_cons_succ]
  refine wpAnyH_take (i := 6) (oi := _) (v := ?_) rfl (by kernel_rfl) (by kernel_rfl) (by kernel_rfl) (fun _ _ _ h => h) (Or.inl ⟨by rfl, ?_⟩) (by assumption) ?_
  rotate_left
  · intro w hSw
    try dsimp only at hSw
    try simp only [List.getElem_toArray, List.getElem_cons_succ, List.getElem_cons_zero]
    go_split_ands
    go_simp
    try with_reducible rfl
  try simp only [Act.put, List.getElem_toArray, List.getElem_cons_succ, List.getElem_cons_zero, List.setIfInBounds_toArray, List.set_cons_zero, List.set_cons_succ]
  refine wpAnyH_take (i := 7) (oi := _) (v := ?_) rfl (by kernel_rfl) (by kernel_rfl) (by kernel_rfl) (fun _ _ _ h => h) (Or.inl ⟨by rfl, ?_⟩) (by assumption) ?_
  rotate_left
  · intro w hSw
    try dsimp only at hSw
    try simp only [List.getElem_toArray, List.getElem_cons_succ, List.getElem_cons_zero]
    go_split_ands
    go_simp
    try with_reducible rfl
  try simp only [Act.put, List.getElem_toArray, List.getElem_cons_succ, List.getElem_cons_zero, List.setIfInBounds_toArray, List.set_cons_zero, List.set_cons_succ]
  refine wpAnyH_take (i := 8) (oi := _) (v := ?_) rfl (by kernel_rfl) (by kernel_rfl) (by kernel_rfl) (fun _ _ _ h => h) (Or.inl ⟨by rfl, ?_⟩) (by assumption) ?_
  rotate_left
  · intro w hSw
    try dsimp only at hSw
    try simp only [List.getElem_toArray, List.getElem_cons_succ, List.getElem_cons_zero]
    go_split_ands
    go_simp
    try with_reducible rfl
  try simp only [Act.put, List.getElem_toArray, List.getElem_cons_succ, List.getElem_cons_zero, List.setIfInBounds_toArray, List.set_cons_zero, List.set_cons_succ]
  refine wpAnyH_take (i := 9) (oi := _) (v := ?_) rfl (by kernel_rfl) (by kernel_rfl) (by kernel_rfl) (fun _ _ _ h => h) (Or.inl ⟨by rfl, ?_⟩) (by assumption) ?_
  rotate_left
  · intro w hSw
    try dsimp only at hSw
    try simp only [List.getElem_toArray, List.getElem_cons_succ, List.getElem_cons_zero]
    go_split_ands
    go_simp
    try with_reducible rfl
  try simp only [Act.put, List.getElem_toArray, List.getElem_cons_succ, List.getElem_cons_zero, List.setIfInBounds_toArray, List.set_cons_zero, List.set_cons_succ]
  have hdr := ref_drop_own w2.drew g3 c3 L s.w (by rw [← HNL.out]; have := HL15.out; omega) (HI2.out.fr F0 (by simp))
  rw [← HNL.out, ← HR.out] at hdr
  have HDR := Lib.hid hdr
  clear hdr
  refine wpAnyH_ready (rs := [10]) (by kernel_rfl) (by simp) ?_
  refine AllReadyH.cons (o := _) rfl (fun K hK => ?_) AllReadyH.nil
  simp only [List.getElem_toArray, List.getElem_cons_succ, List.getElem_cons_zero]
  go_simp
  refine (HDR.out).mono ?_
  rintro en w3 ⟨v3, rfl, hown3, f3⟩
  have F3 := F0.trans f3
  obtain ⟨g4, c4, rfl, hI4⟩ := row_ints hown3
  have HI4 := Lib.hid hI4
  clear hown3 hI4
  go_wp2_with fail
  refine hK.out _ _ ⟨F3.cell q5 (by simp), F3.cell q6 (by simp)⟩ (fun hHeld => ?_)
  clear hK K
  try simp only [Act.put, List.getElem_toArray, List.getElem_cons_succ, List.getElem_cons_zero, List.setIfInBounds_toArray, List.set_cons_zero, List.set_cons_succ]
  refine wpAnyH_ready (rs := [11]) (by kernel_rfl) (by simp) ?_
  refine AllReadyH.cons (o := _) rfl (fun K hK => ?_) AllReadyH.nil
  simp only [List.getElem_toArray, List.getElem_cons_succ, List.getElem_cons_zero]
  go_simp
  refine (ref_word_any w3 g4 c4 R HOK.out HI4.out).mono ?_
  rintro en wx ⟨rfl, fx⟩
  have Fx := F3.trans fx
  go_wp2_with fail
  refine hK.out _ _ ⟨Fx.cell q5 (by simp), Fx.cell q6 (by simp)⟩ (fun hHeld => ?_)
  clear hK K
  try simp only [Act.put, List.getElem_toArray, List.getElem_cons_succ, List.getElem_cons_zero, List.setIfInBounds_toArray, List.set_cons_zero, List.set_cons_succ]
  have hcas := rcas_any wx pm qm M t 1 (wd L : Int) (wd R : Int) (HM2.out.fr Fx (by simp) (by simp)) ht0 (by omega)
  rw [HCB.out, HCL.out, HT1.out] at hcas
  have HCAS := Lib.hid hcas
  clear hcas
  refine wpAnyH_ready (rs := [12]) (by kernel_rfl) (by simp) ?_
  refine AllReadyH.cons (o := _) rfl (fun K hK => ?_) AllReadyH.nil
  simp only [List.getElem_toArray, List.getElem_cons_succ, List.getElem_cons_zero]
  go_simp
  refine (HCAS.out).mono ?_
  rintro en wy ⟨rfl, hmy, fy⟩
  go_wp2_with fail
  refine hK.out _ _ ⟨fy.cell (Fx.cell q5 (by simp)) (by simp; exact HP.out), fy.cell (Fx.cell q6 (by simp)) (by simp; exact HP.out)⟩ (fun hHeld => ?_)
  clear hK K
  try simp only [Act.put, List.getElem_toArray, List.getElem_cons_succ, List.getElem_cons_zero, List.setIfInBounds_toArray, List.set_cons_zero, List.set_cons_succ]
  refine wpAnyH_done (by kernel_rfl) ?_ _
  have hy := (H2.out.fr Fx (by simp)).fr fy (by simp; exact HP.out)
  have HFy := Lib.hid (HF2.out.trans ((Fx.mono (by simp)).trans (fy.mono (by simp +contextual))))
  have HE := Lib.hid (show SwPost w p pm qm c { s with nx := .look } M (t + 1) (.returned (.tuple #[])) wy from ⟨rfl, hy, hmy, HFy.out⟩)
  clear hy hmy fy Fx
  go_wp2
  go_end0
  exact HE.out

set_option maxHeartbeats 8000000 in
set_option maxRecDepth 100000 in
theorem rswaps_pop1 (w : World) (p pm qm : Nat) (c : ConfV) (s : QuS) (M : List Int) (t : Int) (h : RqAt w p c s) (hM : MemAt 60 w pm qm M t) (ht0 : 0 ≤ t) (ht1 : t ≤ 1000000) (hp : p ≠ pm ∧ p ≠ qm) (hn : s.nx = .pop) (hm : MOk M) (hL : Ln s.line) (hne : s.line ≠ []) (hcs : casB M 1 (wd s.line : Int) = true) :
    Calls Try.prog 46 #[.pointer (some ⟨p, 0, none⟩), .pointer (some ⟨pm, 0, none⟩)] w (SwPost w p pm qm c ({ s with nx := .tell }) (M.set 1 (wd s.line.tail : Int)) (t + 1)) := by
  obtain ⟨st, hst⟩ : ∃ x, x = QSt.pop.str := ⟨_, rfl⟩
  have est_come : (st.toList == [67, 79, 77, 69]) = false := by rw [hst]; decide +kernel
  have est_push : (st.toList == [80, 85, 83, 72]) = false := by rw [hst]; decide +kernel
  have est_closed : (st.toList == [67, 76, 79, 83, 69, 68]) = false := by rw [hst]; decide +kernel
  have est_look : (st.toList == [76, 79, 79, 75]) = false := by rw [hst]; decide +kernel
  have est_drop : (st.toList == [68, 82, 79, 80]) = false := by rw [hst]; decide +kernel
  have est_head : (st.toList == [70, 73, 82, 83, 84]) = false := by rw [hst]; decide +kernel
  have est_pop : (st.toList == [80, 79, 80]) = true := by rw [hst]; decide +kernel
  have est_tell : (st.toList == [84, 69, 76, 76]) = false := by rw [hst]; decide +kernel
  have est_done : (st.toList == [68, 79, 78, 69]) = false := by rw [hst]; decide +kernel
  have q8 : w.cell? ⟨p, 8, none⟩ = some (.string st) := by rw [cell_of (i := 8) h rfl, hst]; show some (Value.string s.nx.str) = _; rw [hn]
  have z8 := frozen_of (i := 8) h
  obtain ⟨L, hLl⟩ : ∃ L, L = s.line := ⟨_, rfl⟩
  obtain ⟨R, hR⟩ : ∃ R, R = s.line.tail := ⟨_, rfl⟩
  rw [← hR]
  have q6 : w.cell? ⟨p, 6, none⟩ = some (.int .i64 (wd L : Int)) := by rw [hLl]; exact cell_of (i := 6) h rfl
  have HR := Lib.hid (show R = L.tail by rw [hR, hLl])
  rw [← hLl] at hL hcs
  have HT1 := Lib.hid (show tch M 1 = 1 by unfold tch; rw [if_pos (isIn_yes (by omega) (by have := hm.1; omega))])
  have HCB := Lib.hid hcs
  have HCL := Lib.hid (show casL M 1 (wd L : Int) (wd R : Int) = M.set 1 (wd R : Int) by unfold casL; rw [hcs]; rfl)
  obtain ⟨nl, hnl⟩ : ∃ nl, nl = L.length := ⟨_, rfl⟩
  have HNL := Lib.hid hnl
  have HLS := Lib.hid hLl
  have HL15 := Lib.hid (show nl ≤ 15 by rw [hnl]; exact hL.length)
  have HOK := Lib.hid (show Ln R by rw [hR, ← hLl]; exact hL.tail)
  have hn1 : 1 ≤ nl := by rw [hnl, hLl]; exact List.length_pos_iff.2 hne
  have hn1' : (1 : Int) ≤ (nl : Int) := by omega
  have HRL := Lib.hid (show nl - 1 = R.length by rw [hR, List.length_tail, hnl, hLl])
  have HLL := Lib.hid hL; have HP := Lib.hid hp; have H := Lib.hid h; have HM := Lib.hid hM
  clear h hM hn hst hp hR hLl hL hcs hm
  clear hnl hne
  go_enter Try.func46, Try.ntmps46
  go_wp2_with fail
  refine (ref_list_own w (wd L : Int) (by have := wd_lt HLL.out; omega)).mono ?_
  rintro en w1 ⟨v1, rfl, hown1, f1⟩
  rw [refLi_wd HLL.out] at hown1
  obtain ⟨g3, c3, rfl, hI3⟩ := row_ints hown1
  have hcap := own_cap hown1
  rw [← HNL.out] at hcap
  have hg3 : ∀ a, g3 = some a → a.block ∉ [p] := fun a ha => by
    subst ha
    have h1 := (hown1.lt a.block rfl).1
    have h2 := heap_lt (show w.heap[p]? = some _ from H.out)
    simp; omega
  rw [← HNL.out]
  have h1 := H.out.fr f1 (by simp)
  have q8 := f1.cell q8 (by simp)
  have z8 := frozen_of (i := 8) h1
  have FS := (Fr.refl [p] w1).setCell (p := ⟨p, 8, none⟩) (.inl (by simp)) (.string ⟨#[70, 73, 82, 83, 84]⟩)
  have H2 := Lib.hid (show RqAt (w1.setCell ⟨p, 8, none⟩ (.string ⟨#[70, 73, 82, 83, 84]⟩)) p c { s with nx := .head } from h1.setNx .head)
  have HM2 := Lib.hid ((HM.out.fr f1 (by simp) (by simp)).fr FS (by simp; exact Ne.symm HP.out.1) (by simp; exact Ne.symm HP.out.2))
  have HF2 := Lib.hid ((f1.mono (S' := [p, pm, qm]) (by simp)).trans (FS.mono (by simp)))
  have HI2 := Lib.hid (hI3.fr FS hg3)
  have q5 : (w1.setCell ⟨p, 8, none⟩ (.string ⟨#[70, 73, 82, 83, 84]⟩)).cell? ⟨p, 5, none⟩ = some (.int .i64 s.w) := cell_of (i := 5) H2.out rfl
  have q6 : (w1.setCell ⟨p, 8, none⟩ (.string ⟨#[70, 73, 82, 83, 84]⟩)).cell? ⟨p, 6, none⟩ = some (.int .i64 (wd L : Int)) := by rw [HLS.out]; exact cell_of (i := 6) H2.out rfl
  obtain ⟨b3, o3, hgg, hcc⟩ := HI2.out.base (by intro e; rw [HNL.out, e] at hn1; simp at hn1)
  subst hgg
  clear h1 f1 FS H HM hI3 hown1 hg3 hcc
  go_wp2_with fail
  generalize w1.setCell ⟨p, 8, none⟩ (.string ⟨#[70, 73, 82, 83, 84]⟩) = w2 at H2 HM2 HF2 HI2 q5 q6 ⊢
  clear q8 z8
  have F0 := (Fr.refl [] w2).drew
  refine wp_region_held_drew (S := fun w' => w'.cell? ⟨p, 5, none⟩ = some (.int .i64 s.w) ∧ w'.cell? ⟨p, 6, none⟩ = some (.int .i64 (wd L : Int))) (by kernel_rfl) ⟨q5, q6⟩ (fun hHeld => ?_)
  refine wpAnyH_take (i := 0) (oi := _) (v := ?_) rfl (by kernel_rfl) (by kernel_rfl) (by kernel_rfl) (fun _ _ _ h => h) (Or.inl ⟨by rfl, ?_⟩) (by assumption) ?_
  rotate_left
  · intro w hSw
    try dsimp only at hSw
    try simp only [List.getElem_toArray, List.getElem_cons_zero]
    go_split_ands
    go_simp
    try with_reducible rfl
  try simp only [Act.put, List.getElem_toArray, List.getElem_cons_zero, List.setIfInBounds_toArray, List.set_cons_zero, List.set_cons_succ]
  refine wpAnyH_take (i := 1) (oi := _) (v := ?_) rfl (by kernel_rfl) (by kernel_rfl) (by kernel_rfl) (fun _ _ _ h => h) (Or.inl ⟨by rfl, ?_⟩) (by assumption) ?_
  rotate_left
  · intro w hSw
    try dsimp only at hSw
    try simp only [List.getElem_toArray, List.getElem_cons_succ, List.getElem_cons_zero]
    go_split_ands
    go_simp
    try with_reducible rfl
  try simp only [Act.put, List.getElem_toArray, List.getElem_cons_succ, List.getElem_cons_zero, List.setIfInBounds_toArray, List.set_cons_zero, List.set_cons_succ]
  refine wpAnyH_take (i := 2) (oi := _) (v := ?_) rfl (by kernel_rfl) (by kernel_rfl) (by kernel_rfl) (fun _ _ _ h => h) (Or.inl ⟨by rfl, ?_⟩) (by assumption) ?_
  rotate_left
  · intro w hSw
    try dsimp only at hSw
    try simp only [List.getElem_toArray, List.getElem_cons_succ, List.getElem_cons_zero]
    go_split_ands
    go_simp
    try with_reducible rfl
  try simp only [Act.put, List.getElem_toArray, List.getElem_cons_succ, List.getElem_cons_zero, List.setIfInBounds_toArray, List.set_cons_zero, List.set_cons_succ]
  refine wpAnyH_take (i := 3) (oi := _) (v := ?_) rfl (by kernel_rfl) (by kernel_rfl) (by kernel_rfl) (fun _ _ _ h => h) (Or.inl ⟨by rfl, ?_⟩) (by assumption) ?_
  rotate_left
  · intro w hSw
    try dsimp only at hSw
    try simp only [List.getElem_toArray, List.getElem_cons_succ, List.getElem_cons_zero]
    go_split_ands
    go_simp
    try with_reducible rfl
  try simp only [Act.put, List.getElem_toArray, List.getElem_cons_succ, List.getElem_cons_zero, List.setIfInBounds_toArray, List.set_cons_zero, List.set_cons_succ]
  refine wpAnyH_take (i := 4) (oi := _) (v := ?_) rfl (by kernel_rfl) (by kernel_rfl) (by kernel_rfl) (fun _ _ _ h => h) (Or.inl ⟨by rfl, ?_⟩) (by assumption) ?_
  rotate_left
  · intro w hSw
    try dsimp only at hSw
    try simp only [List.getElem_toArray, List.getElem_cons_succ, List.getElem_cons_zero]
    go_split_ands
    go_simp
    try with_reducible rfl
  try simp only [Act.put, List.getElem_toArray, List.getElem_cons_succ, List.getElem_cons_zero, List.setIfInBounds_toArray, List.set_cons_zero, List.set_cons_succ]
  refine wpAnyH_take (i := 5) (oi := _) (v := ?_) rfl (by kernel_rfl) (by kernel_rfl) (by kernel_rfl) (fun _ _ _ h => h) (Or.inl ⟨by rfl, ?_⟩) (by assumption) ?_
  rotate_left
  · intro w hSw
    try dsimp only at hSw
    try simp only [List.getElem_toArray, List.getElem_cons_succ, List.getElem_cons_zero]
    go_split_ands
    go_simp
    try with_reducible rfl
  try simp only [Act.put, List.getElem_toArray, List.getElem_cons_succ, List.getElem_cons_zero, List.setIfInBounds_toArray, List.set_cons_zero, List.set_cons_succ]
  refine wpAnyH_take (i := 6) (oi := _) (v := ?_) rfl (by kernel_rfl) (by kernel_rfl) (by kernel_rfl) (fun _ _ _ h => h) (Or.inl ⟨by rfl, ?_⟩) (by assumption) ?_
  rotate_left
  · intro w hSw
    try dsimp only at hSw
    try simp only [List.getElem_toArray, List.getElem_cons_succ, List.getElem_cons_zero]
    go_split_ands
    go_simp
    try with_reducible rfl
  try simp only [Act.put, List.getElem_toArray, List.getElem_cons_succ, List.getElem_cons_zero, List.setIfInBounds_toArray, List.set_cons_zero, List.set_cons_succ]
  obtain ⟨gt, hgt⟩ : ∃ gt, gt = (if c3 = 1 then some (⟨b3, o3, none⟩ : Addr) else some ⟨b3, o3 + 1, none⟩) := ⟨_, rfl⟩
  rw [← hgt]
  have htl : IntsAt w2.drew gt R := by rw [hgt, HR.out]; exact tail_ints (HI2.out.fr F0 (by simp)) (by rw [← HNL.out]; exact hcap)
  have hwd := ref_word_any w2.drew gt (c3 - 1) R HOK.out htl
  rw [← HRL.out] at hwd
  have HWD := Lib.hid hwd
  clear hwd htl hgt
  refine wpAnyH_ready (rs := [7]) (by kernel_rfl) (by simp) ?_
  refine AllReadyH.cons (o := _) rfl (fun K hK => ?_) AllReadyH.nil
  simp only [List.getElem_toArray, List.getElem_cons_succ, List.getElem_cons_zero]
  go_simp
  refine (HWD.out).mono ?_
  rintro en wx ⟨rfl, fx⟩
  have Fx := F0.trans fx
  go_wp2_with fail
  refine hK.out _ _ ⟨Fx.cell q5 (by simp), Fx.cell q6 (by simp)⟩ (fun hHeld => ?_)
  clear hK K
  try simp only [Act.put, List.getElem_toArray, List.getElem_cons_succ, List.getElem_cons_zero, List.setIfInBounds_toArray, List.set_cons_zero, List.set_cons_succ]
  have hcas := rcas_any wx pm qm M t 1 (wd L : Int) (wd R : Int) (HM2.out.fr Fx (by simp) (by simp)) ht0 (by omega)
  rw [HCB.out, HCL.out, HT1.out] at hcas
  have HCAS := Lib.hid hcas
  clear hcas
  refine wpAnyH_ready (rs := [8]) (by kernel_rfl) (by simp) ?_
  refine AllReadyH.cons (o := _) rfl (fun K hK => ?_) AllReadyH.nil
  simp only [List.getElem_toArray, List.getElem_cons_succ, List.getElem_cons_zero]
  go_simp
  refine (HCAS.out).mono ?_
  rintro en wy ⟨rfl, hmy, fy⟩
  go_wp2_with fail
  refine hK.out _ _ ⟨fy.cell (Fx.cell q5 (by simp)) (by simp; exact HP.out), fy.cell (Fx.cell q6 (by simp)) (by simp; exact HP.out)⟩ (fun hHeld => ?_)
  clear hK K
  try simp only [Act.put, List.getElem_toArray, List.getElem_cons_succ, List.getElem_cons_zero, List.setIfInBounds_toArray, List.set_cons_zero, List.set_cons_succ]
  refine wpAnyH_done (by kernel_rfl) ?_ _
  have hy := (H2.out.fr Fx (by simp)).fr fy (by simp; exact HP.out)
  have HFy := Lib.hid (HF2.out.trans ((Fx.mono (by simp)).trans (fy.mono (by simp +contextual))))
  have q8 := cell_of (i := 8) hy rfl
  have z8 := frozen_of (i := 8) hy
  have FS := (Fr.refl [p] wy).setCell (p := ⟨p, 8, none⟩) (.inl (by simp)) (.string QSt.tell.str)
  have HE := Lib.hid (show SwPost w p pm qm c { s with nx := .tell } (M.set 1 (wd R : Int)) (t + 1) (.returned (.tuple #[])) (wy.setCell ⟨p, 8, none⟩ (.string QSt.tell.str)) from ⟨rfl, hy.setNx .tell, hmy.fr FS (by simp; exact Ne.symm HP.out.1) (by simp; exact Ne.symm HP.out.2), HFy.out.trans (FS.mono (by simp))⟩)
  clear hy hmy fy FS Fx
  go_wp2
  go_end0
  exact HE.out

set_option maxHeartbeats 8000000 in
set_option maxRecDepth 100000 in
theorem rswaps_pop0 (w : World) (p pm qm : Nat) (c : ConfV) (s : QuS) (M : List Int) (t : Int) (h : RqAt w p c s) (hM : MemAt 60 w pm qm M t) (ht0 : 0 ≤ t) (ht1 : t ≤ 1000000) (hp : p ≠ pm ∧ p ≠ qm) (hn : s.nx = .pop) (hm : MOk M) (hL : Ln s.line) (hne : s.line ≠ []) (hcs : casB M 1 (wd s.line : Int) = false) :
    Calls Try.prog 46 #[.pointer (some ⟨p, 0, none⟩), .pointer (some ⟨pm, 0, none⟩)] w (SwPost w p pm qm c ({ s with nx := .head }) (M) (t + 1)) := by
  obtain ⟨st, hst⟩ : ∃ x, x = QSt.pop.str := ⟨_, rfl⟩
  have est_come : (st.toList == [67, 79, 77, 69]) = false := by rw [hst]; decide +kernel
  have est_push : (st.toList == [80, 85, 83, 72]) = false := by rw [hst]; decide +kernel
  have est_closed : (st.toList == [67, 76, 79, 83, 69, 68]) = false := by rw [hst]; decide +kernel
  have est_look : (st.toList == [76, 79, 79, 75]) = false := by rw [hst]; decide +kernel
  have est_drop : (st.toList == [68, 82, 79, 80]) = false := by rw [hst]; decide +kernel
  have est_head : (st.toList == [70, 73, 82, 83, 84]) = false := by rw [hst]; decide +kernel
  have est_pop : (st.toList == [80, 79, 80]) = true := by rw [hst]; decide +kernel
  have est_tell : (st.toList == [84, 69, 76, 76]) = false := by rw [hst]; decide +kernel
  have est_done : (st.toList == [68, 79, 78, 69]) = false := by rw [hst]; decide +kernel
  have q8 : w.cell? ⟨p, 8, none⟩ = some (.string st) := by rw [cell_of (i := 8) h rfl, hst]; show some (Value.string s.nx.str) = _; rw [hn]
  have z8 := frozen_of (i := 8) h
  obtain ⟨L, hLl⟩ : ∃ L, L = s.line := ⟨_, rfl⟩
  obtain ⟨R, hR⟩ : ∃ R, R = s.line.tail := ⟨_, rfl⟩
  skip
  have q6 : w.cell? ⟨p, 6, none⟩ = some (.int .i64 (wd L : Int)) := by rw [hLl]; exact cell_of (i := 6) h rfl
  have HR := Lib.hid (show R = L.tail by rw [hR, hLl])
  rw [← hLl] at hL hcs
  have HT1 := Lib.hid (show tch M 1 = 1 by unfold tch; rw [if_pos (isIn_yes (by omega) (by have := hm.1; omega))])
  have HCB := Lib.hid hcs
  have HCL := Lib.hid (show casL M 1 (wd L : Int) (wd R : Int) = M by unfold casL; rw [hcs]; rfl)
  obtain ⟨nl, hnl⟩ : ∃ nl, nl = L.length := ⟨_, rfl⟩
  have HNL := Lib.hid hnl
  have HLS := Lib.hid hLl
  have HL15 := Lib.hid (show nl ≤ 15 by rw [hnl]; exact hL.length)
  have HOK := Lib.hid (show Ln R by rw [hR, ← hLl]; exact hL.tail)
  have hn1 : 1 ≤ nl := by rw [hnl, hLl]; exact List.length_pos_iff.2 hne
  have hn1' : (1 : Int) ≤ (nl : Int) := by omega
  have HRL := Lib.hid (show nl - 1 = R.length by rw [hR, List.length_tail, hnl, hLl])
  have HLL := Lib.hid hL; have HP := Lib.hid hp; have H := Lib.hid h; have HM := Lib.hid hM
  clear h hM hn hst hp hR hLl hL hcs hm
  clear hnl hne
  go_enter Try.func46, Try.ntmps46
  go_wp2_with fail
  refine (ref_list_own w (wd L : Int) (by have := wd_lt HLL.out; omega)).mono ?_
  rintro en w1 ⟨v1, rfl, hown1, f1⟩
  rw [refLi_wd HLL.out] at hown1
  obtain ⟨g3, c3, rfl, hI3⟩ := row_ints hown1
  have hcap := own_cap hown1
  rw [← HNL.out] at hcap
  have hg3 : ∀ a, g3 = some a → a.block ∉ [p] := fun a ha => by
    subst ha
    have h1 := (hown1.lt a.block rfl).1
    have h2 := heap_lt (show w.heap[p]? = some _ from H.out)
    simp; omega
  rw [← HNL.out]
  have h1 := H.out.fr f1 (by simp)
  have q8 := f1.cell q8 (by simp)
  have z8 := frozen_of (i := 8) h1
  have FS := (Fr.refl [p] w1).setCell (p := ⟨p, 8, none⟩) (.inl (by simp)) (.string ⟨#[70, 73, 82, 83, 84]⟩)
  have H2 := Lib.hid (show RqAt (w1.setCell ⟨p, 8, none⟩ (.string ⟨#[70, 73, 82, 83, 84]⟩)) p c { s with nx := .head } from h1.setNx .head)
  have HM2 := Lib.hid ((HM.out.fr f1 (by simp) (by simp)).fr FS (by simp; exact Ne.symm HP.out.1) (by simp; exact Ne.symm HP.out.2))
  have HF2 := Lib.hid ((f1.mono (S' := [p, pm, qm]) (by simp)).trans (FS.mono (by simp)))
  have HI2 := Lib.hid (hI3.fr FS hg3)
  have q5 : (w1.setCell ⟨p, 8, none⟩ (.string ⟨#[70, 73, 82, 83, 84]⟩)).cell? ⟨p, 5, none⟩ = some (.int .i64 s.w) := cell_of (i := 5) H2.out rfl
  have q6 : (w1.setCell ⟨p, 8, none⟩ (.string ⟨#[70, 73, 82, 83, 84]⟩)).cell? ⟨p, 6, none⟩ = some (.int .i64 (wd L : Int)) := by rw [HLS.out]; exact cell_of (i := 6) H2.out rfl
  obtain ⟨b3, o3, hgg, hcc⟩ := HI2.out.base (by intro e; rw [HNL.out, e] at hn1; simp at hn1)
  subst hgg
  clear h1 f1 FS H HM hI3 hown1 hg3 hcc
  go_wp2_with fail
  generalize w1.setCell ⟨p, 8, none⟩ (.string ⟨#[70, 73, 82, 83, 84]⟩) = w2 at H2 HM2 HF2 HI2 q5 q6 ⊢
  clear q8 z8
  have F0 := (Fr.refl [] w2).drew
  refine wp_region_held_drew (S := fun w' => w'.cell? ⟨p, 5, none⟩ = some (.int .i64 s.w) ∧ w'.cell? ⟨p, 6, none⟩ = some (.int .i64 (wd L : Int))) (by kernel_rfl) ⟨q5, q6⟩ (fun hHeld => ?_)
  refine wpAnyH_take (i := 0) (oi := _) (v := ?_) rfl (by kernel_rfl) (by kernel_rfl) (by kernel_rfl) (fun _ _ _ h => h) (Or.inl ⟨by rfl, ?_⟩) (by assumption) ?_
  rotate_left
  · intro w hSw
    try dsimp only at hSw
    try simp only [List.getElem_toArray, List.getElem_cons_zero]
    go_split_ands
    go_simp
    try with_reducible rfl
  try simp only [Act.put, List.getElem_toArray, List.getElem_cons_zero, List.setIfInBounds_toArray, List.set_cons_zero, List.set_cons_succ]
  refine wpAnyH_take (i := 1) (oi := _) (v := ?_) rfl (by kernel_rfl) (by kernel_rfl) (by kernel_rfl) (fun _ _ _ h => h) (Or.inl ⟨by rfl, ?_⟩) (by assumption) ?_
  rotate_left
  · intro w hSw
    try dsimp only at hSw
    try simp only [List.getElem_toArray, List.getElem_cons_succ, List.getElem_cons_zero]
    go_split_ands
    go_simp
    try with_reducible rfl
  try simp only [Act.put, List.getElem_toArray, List.getElem_cons_succ, List.getElem_cons_zero, List.setIfInBounds_toArray, List.set_cons_zero, List.set_cons_succ]
  refine wpAnyH_take (i := 2) (oi := _) (v := ?_) rfl (by kernel_rfl) (by kernel_rfl) (by kernel_rfl) (fun _ _ _ h => h) (Or.inl ⟨by rfl, ?_⟩) (by assumption) ?_
  rotate_left
  · intro w hSw
    try dsimp only at hSw
    try simp only [List.getElem_toArray, List.getElem_cons_succ, List.getElem_cons_zero]
    go_split_ands
    go_simp
    try with_reducible rfl
  try simp only [Act.put, List.getElem_toArray, List.getElem_cons_succ, List.getElem_cons_zero, List.setIfInBounds_toArray, List.set_cons_zero, List.set_cons_succ]
  refine wpAnyH_take (i := 3) (oi := _) (v := ?_) rfl (by kernel_rfl) (by kernel_rfl) (by kernel_rfl) (fun _ _ _ h => h) (Or.inl ⟨by rfl, ?_⟩) (by assumption) ?_
  rotate_left
  · intro w hSw
    try dsimp only at hSw
    try simp only [List.getElem_toArray, List.getElem_cons_succ, List.getElem_cons_zero]
    go_split_ands
    go_simp
    try with_reducible rfl
  try simp only [Act.put, List.getElem_toArray, List.getElem_cons_succ, List.getElem_cons_zero, List.setIfInBounds_toArray, List.set_cons_zero, List.set_cons_succ]
  refine wpAnyH_take (i := 4) (oi := _) (v := ?_) rfl (by kernel_rfl) (by kernel_rfl) (by kernel_rfl) (fun _ _ _ h => h) (Or.inl ⟨by rfl, ?_⟩) (by assumption) ?_
  rotate_left
  · intro w hSw
    try dsimp only at hSw
    try simp only [List.getElem_toArray, List.getElem_cons_succ, List.getElem_cons_zero]
    go_split_ands
    go_simp
    try with_reducible rfl
  try simp only [Act.put, List.getElem_toArray, List.getElem_cons_succ, List.getElem_cons_zero, List.setIfInBounds_toArray, List.set_cons_zero, List.set_cons_succ]
  refine wpAnyH_take (i := 5) (oi := _) (v := ?_) rfl (by kernel_rfl) (by kernel_rfl) (by kernel_rfl) (fun _ _ _ h => h) (Or.inl ⟨by rfl, ?_⟩) (by assumption) ?_
  rotate_left
  · intro w hSw
    try dsimp only at hSw
    try simp only [List.getElem_toArray, List.getElem_cons_succ, List.getElem_cons_zero]
    go_split_ands
    go_simp
    try with_reducible rfl
  try simp only [Act.put, List.getElem_toArray, List.getElem_cons_succ, List.getElem_cons_zero, List.setIfInBounds_toArray, List.set_cons_zero, List.set_cons_succ]
  refine wpAnyH_take (i := 6) (oi := _) (v := ?_) rfl (by kernel_rfl) (by kernel_rfl) (by kernel_rfl) (fun _ _ _ h => h) (Or.inl ⟨by rfl, ?_⟩) (by assumption) ?_
  rotate_left
  · intro w hSw
    try dsimp only at hSw
    try simp only [List.getElem_toArray, List.getElem_cons_succ, List.getElem_cons_zero]
    go_split_ands
    go_simp
    try with_reducible rfl
  try simp only [Act.put, List.getElem_toArray, List.getElem_cons_succ, List.getElem_cons_zero, List.setIfInBounds_toArray, List.set_cons_zero, List.set_cons_succ]
  obtain ⟨gt, hgt⟩ : ∃ gt, gt = (if c3 = 1 then some (⟨b3, o3, none⟩ : Addr) else some ⟨b3, o3 + 1, none⟩) := ⟨_, rfl⟩
  rw [← hgt]
  have htl : IntsAt w2.drew gt R := by rw [hgt, HR.out]; exact tail_ints (HI2.out.fr F0 (by simp)) (by rw [← HNL.out]; exact hcap)
  have hwd := ref_word_any w2.drew gt (c3 - 1) R HOK.out htl
  rw [← HRL.out] at hwd
  have HWD := Lib.hid hwd
  clear hwd htl hgt
  refine wpAnyH_ready (rs := [7]) (by kernel_rfl) (by simp) ?_
  refine AllReadyH.cons (o := _) rfl (fun K hK => ?_) AllReadyH.nil
  simp only [List.getElem_toArray, List.getElem_cons_succ, List.getElem_cons_zero]
  go_simp
  refine (HWD.out).mono ?_
  rintro en wx ⟨rfl, fx⟩
  have Fx := F0.trans fx
  go_wp2_with fail
  refine hK.out _ _ ⟨Fx.cell q5 (by simp), Fx.cell q6 (by simp)⟩ (fun hHeld => ?_)
  clear hK K
  try simp only [Act.put, List.getElem_toArray, List.getElem_cons_succ, List.getElem_cons_zero, List.setIfInBounds_toArray, List.set_cons_zero, List.set_cons_succ]
  have hcas := rcas_any wx pm qm M t 1 (wd L : Int) (wd R : Int) (HM2.out.fr Fx (by simp) (by simp)) ht0 (by omega)
  rw [HCB.out, HCL.out, HT1.out] at hcas
  have HCAS := Lib.hid hcas
  clear hcas
  refine wpAnyH_ready (rs := [8]) (by kernel_rfl) (by simp) ?_
  refine AllReadyH.cons (o := _) rfl (fun K hK => ?_) AllReadyH.nil
  simp only [List.getElem_toArray, List.getElem_cons_succ, List.getElem_cons_zero]
  go_simp
  refine (HCAS.out).mono ?_
  rintro en wy ⟨rfl, hmy, fy⟩
  go_wp2_with fail
  refine hK.out _ _ ⟨fy.cell (Fx.cell q5 (by simp)) (by simp; exact HP.out), fy.cell (Fx.cell q6 (by simp)) (by simp; exact HP.out)⟩ (fun hHeld => ?_)
  clear hK K
  try simp only [Act.put, List.getElem_toArray, List.getElem_cons_succ, List.getElem_cons_zero, List.setIfInBounds_toArray, List.set_cons_zero, List.set_cons_succ]
  refine wpAnyH_done (by kernel_rfl) ?_ _
  have hy := (H2.out.fr Fx (by simp)).fr fy (by simp; exact HP.out)
  have HFy := Lib.hid (HF2.out.trans ((Fx.mono (by simp)).trans (fy.mono (by simp +contextual))))
  have HE := Lib.hid (show SwPost w p pm qm c { s with nx := .head } M (t + 1) (.returned (.tuple #[])) wy from ⟨rfl, hy, hmy, HFy.out⟩)
  clear hy hmy fy Fx
  go_wp2
  go_end0
  exact HE.out

end Go.Proofs.Ytdpefnebghljoaa
