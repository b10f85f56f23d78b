/- The document's Queue: one step: TELL, and the swaps. -/
import Derived.Test.YtdpefnebghljoaaQuT
namespace Go.Proofs.Ytdpefnebghljoaa
open Go.RowKit


set_option maxHeartbeats 8000000 in
set_option maxRecDepth 100000 in
theorem rstep_tell (w : World) (p pm qm : Nat) (c : ConfV) (s : QuS) (M : List Int) (t : Int) (h : RqAt w p c s) (hM : MemAt 60 w pm qm M t) (ht0 : 0 ≤ t) (ht1 : t ≤ 1000000) (hp : p ≠ pm ∧ p ≠ qm) (hn : s.nx = .tell) (hc : c.fits) (hL : Ln s.line) (hne : s.line ≠ []) (hf1 : headI s.line < c.wo) :
    Calls Try.prog 31 #[.pointer (some ⟨p, 0, none⟩), .pointer (some ⟨pm, 0, none⟩)] w (RStep w p pm qm c ({ s with nx := .head }) (storeL M (3 + c.wo + headI s.line) (-1)) (t + tch M (3 + c.wo + headI s.line))) := by
  obtain ⟨st, hst⟩ : ∃ x, x = QSt.tell.str := ⟨_, rfl⟩
  have est_come : (st.toList == [67, 79, 77, 69]) = false := by rw [hst]; decide +kernel
  have est_push : (st.toList == [80, 85, 83, 72]) = false := by rw [hst]; decide +kernel
  have est_closed : (st.toList == [67, 76, 79, 83, 69, 68]) = false := by rw [hst]; decide +kernel
  have est_look : (st.toList == [76, 79, 79, 75]) = false := by rw [hst]; decide +kernel
  have est_drop : (st.toList == [68, 82, 79, 80]) = false := by rw [hst]; decide +kernel
  have est_head : (st.toList == [70, 73, 82, 83, 84]) = false := by rw [hst]; decide +kernel
  have est_pop : (st.toList == [80, 79, 80]) = false := by rw [hst]; decide +kernel
  have est_tell : (st.toList == [84, 69, 76, 76]) = true := by rw [hst]; decide +kernel
  have est_done : (st.toList == [68, 79, 78, 69]) = false := by rw [hst]; decide +kernel
  have q8 : w.cell? ⟨p, 8, none⟩ = some (.string st) := by rw [cell_of (i := 8) h rfl, hst]; show some (Value.string s.nx.str) = _; rw [hn]
  have z8 := frozen_of (i := 8) h
  have q6 := cell_of (i := 6) h rfl
  have HP := Lib.hid hp
  obtain ⟨x, hx⟩ : ∃ x, x = headI s.line := ⟨_, rfl⟩
  have hx0 : s.line[0]? = some x := by
    rw [hx]
    cases hl : s.line with
    | nil => exact (hne hl).elim
    | cons a l => rfl
  have hxb := hL.1 x (List.mem_of_getElem? hx0)
  rw [← hx] at hf1 ⊢
  have hg := fun W : World => rgrant_any W c x hc hxb.1 hf1
  unfold ConfV.val at hg
  have HG := Lib.hid hg
  obtain ⟨Q, hQ⟩ : ∃ Q, Q = s.line := ⟨_, rfl⟩
  rw [← hQ] at q6 hL hx0
  have HQ := Lib.hid hQ
  have hlenN : 0 < Q.length := (List.getElem?_eq_some_iff.1 hx0).1
  have hlen : (0 : Int) < (Q.length : Int) := by have := (List.getElem?_eq_some_iff.1 hx0).1; omega
  have HQL := Lib.hid hL; have H := Lib.hid h; have HM := Lib.hid hM; have HX := Lib.hid hx0
  clear h hM hn hst hp hx hne hc hg hL hx0 hQ
  go_enter Try.func31, Try.ntmps31
  go_wp2_with fail
  refine (ref_list_own w (wd Q : Int) (by have := wd_lt HQL.out; omega)).mono ?_
  rintro en w1 ⟨v1, rfl, hown, f1⟩
  rw [refLi_wd HQL.out] at hown
  obtain ⟨g3, c3, rfl, hI3⟩ := row_ints hown
  obtain ⟨b3, o3, hg3, hc3⟩ := hI3.base (by intro e; rw [e] at hlenN; simp at hlenN)
  have cx := hc3 0 x HX.out
  rw [Nat.add_zero] at cx
  subst hg3
  have hb3 := (hown.lt b3 rfl).1
  have hpm := HM.out.plt; have hqm := HM.out.qlt
  have HB3 := Lib.hid (show b3 ∉ [pm, qm] from by simp; omega)
  have HB3p := Lib.hid (show b3 ≠ p from by have := heap_lt (show w.heap[p]? = some _ from H.out); omega)
  have H1 := Lib.hid (H.out.fr f1 (by simp)); have HM1 := Lib.hid (HM.out.fr f1 (by simp) (by simp)); have HF1 := Lib.hid (f1.mono (S' := [p, pm, qm]) (by simp))
  have q0 := cell_of (i := 0) H1.out rfl; have q1 := cell_of (i := 1) H1.out rfl; have q2 := cell_of (i := 2) H1.out rfl; have q3 := cell_of (i := 3) H1.out rfl; have q4 := cell_of (i := 4) H1.out rfl
  clear hown hI3 hc3 f1 hb3 hpm hqm H HM q8 z8 q6
  go_wp2_with fail
  refine wp_region_held_drew (S := fun w' => w'.cell? ⟨p, 0, none⟩ = some (.int .i64 c.wo) ∧ w'.cell? ⟨p, 1, none⟩ = some (.int .i64 c.sl) ∧ w'.cell? ⟨p, 2, none⟩ = some (.int .i64 c.st) ∧ w'.cell? ⟨p, 3, none⟩ = some (.int .i64 c.wa) ∧ w'.cell? ⟨p, 4, none⟩ = some (.int .i64 c.us) ∧ w'.cell? ⟨b3, o3, none⟩ = some (.int .i64 x)) (by kernel_rfl) ⟨q0, q1, q2, q3, q4, cx⟩ (fun hHeld => ?_)
  refine wpAnyH_take (i := 0) (oi := _) (v := ?_) rfl (by kernel_rfl) (by kernel_rfl) (by kernel_rfl) (fun _ _ _ h => h) (Or.inl ⟨by rfl, ?_⟩) (by assumption) ?_
  rotate_left
  · intro w hSw
    try dsimp only at hSw
    try simp only [List.getElem_toArray, List.getElem_cons_zero]
    go_split_ands
    go_simp
    try with_reducible rfl
  try simp only [Act.put, List.getElem_toArray, List.getElem_cons_zero, List.setIfInBounds_toArray, List.set_cons_zero, List.set_cons_succ]
  refine wpAnyH_take (i := 1) (oi := _) (v := ?_) rfl (by kernel_rfl) (by kernel_rfl) (by kernel_rfl) (fun _ _ _ h => h) (Or.inl ⟨by rfl, ?_⟩) (by assumption) ?_
  rotate_left
  · intro w hSw
    try dsimp only at hSw
    try simp only [List.getElem_toArray, List.getElem_cons_succ, List.getElem_cons_zero]
    go_split_ands
    go_simp
    try with_reducible rfl
  try simp only [Act.put, List.getElem_toArray, List.getElem_cons_succ, List.getElem_cons_zero, List.setIfInBounds_toArray, List.set_cons_zero, List.set_cons_succ]
  refine wpAnyH_take (i := 2) (oi := _) (v := ?_) rfl (by kernel_rfl) (by kernel_rfl) (by kernel_rfl) (fun _ _ _ h => h) (Or.inl ⟨by rfl, ?_⟩) (by assumption) ?_
  rotate_left
  · intro w hSw
    try dsimp only at hSw
    try simp only [List.getElem_toArray, List.getElem_cons_succ, List.getElem_cons_zero]
    go_split_ands
    go_simp
    try with_reducible rfl
  try simp only [Act.put, List.getElem_toArray, List.getElem_cons_succ, List.getElem_cons_zero, List.setIfInBounds_toArray, List.set_cons_zero, List.set_cons_succ]
  refine wpAnyH_take (i := 3) (oi := _) (v := ?_) rfl (by kernel_rfl) (by kernel_rfl) (by kernel_rfl) (fun _ _ _ h => h) (Or.inl ⟨by rfl, ?_⟩) (by assumption) ?_
  rotate_left
  · intro w hSw
    try dsimp only at hSw
    try simp only [List.getElem_toArray, List.getElem_cons_succ, List.getElem_cons_zero]
    go_split_ands
    go_simp
    try with_reducible rfl
  try simp only [Act.put, List.getElem_toArray, List.getElem_cons_succ, List.getElem_cons_zero, List.setIfInBounds_toArray, List.set_cons_zero, List.set_cons_succ]
  refine wpAnyH_take (i := 4) (oi := _) (v := ?_) rfl (by kernel_rfl) (by kernel_rfl) (by kernel_rfl) (fun _ _ _ h => h) (Or.inl ⟨by rfl, ?_⟩) (by assumption) ?_
  rotate_left
  · intro w hSw
    try dsimp only at hSw
    try simp only [List.getElem_toArray, List.getElem_cons_succ, List.getElem_cons_zero]
    go_split_ands
    go_simp
    try with_reducible rfl
  try simp only [Act.put, List.getElem_toArray, List.getElem_cons_succ, List.getElem_cons_zero, List.setIfInBounds_toArray, List.set_cons_zero, List.set_cons_succ]
  refine wpAnyH_take (i := 5) (oi := _) (v := ?_) rfl (by kernel_rfl) (by kernel_rfl) (by kernel_rfl) (fun _ _ _ h => h) (Or.inl ⟨by rfl, ?_⟩) (by assumption) ?_
  rotate_left
  · intro w hSw
    try dsimp only at hSw
    try simp only [List.getElem_toArray, List.getElem_cons_succ, List.getElem_cons_zero]
    go_split_ands
    go_simp
    try with_reducible rfl
  try simp only [Act.put, List.getElem_toArray, List.getElem_cons_succ, List.getElem_cons_zero, List.setIfInBounds_toArray, List.set_cons_zero, List.set_cons_succ]
  refine wpAnyH_take (i := 6) (oi := _) (v := ?_) rfl (by kernel_rfl) (by kernel_rfl) (by kernel_rfl) (fun _ _ _ h => h) (Or.inl ⟨by rfl, ?_⟩) (by assumption) ?_
  rotate_left
  · intro w hSw
    try dsimp only at hSw
    try simp only [List.getElem_toArray, List.getElem_cons_succ, List.getElem_cons_zero]
    go_split_ands
    go_simp
    try with_reducible rfl
  try simp only [Act.put, List.getElem_toArray, List.getElem_cons_succ, List.getElem_cons_zero, List.setIfInBounds_toArray, List.set_cons_zero, List.set_cons_succ]
  refine wpAnyH_take (i := 7) (oi := _) (v := ?_) rfl (by kernel_rfl) (by kernel_rfl) (by kernel_rfl) (fun _ _ _ h => h) (Or.inl ⟨by rfl, ?_⟩) (by assumption) ?_
  rotate_left
  · intro w hSw
    try dsimp only at hSw
    try simp only [List.getElem_toArray, List.getElem_cons_succ, List.getElem_cons_zero]
    go_split_ands
    go_simp
    try with_reducible rfl
  try simp only [Act.put, List.getElem_toArray, List.getElem_cons_succ, List.getElem_cons_zero, List.setIfInBounds_toArray, List.set_cons_zero, List.set_cons_succ]
  refine wpAnyH_ready (rs := [8]) (by kernel_rfl) (by simp) ?_
  refine AllReadyH.cons (o := _) rfl (fun K hK => ?_) AllReadyH.nil
  simp only [List.getElem_toArray, List.getElem_cons_succ, List.getElem_cons_zero]
  go_simp
  refine (HG.out w1.drew).mono ?_
  rintro en w3 ⟨rfl, f3⟩
  have F3 := (Fr.refl [] w1).drew.trans f3
  have HST := Lib.hid (rstore_any w3 pm qm M t (3 + c.wo + x) (-1) (HM1.out.fr F3 (by simp) (by simp)) ht0 (by omega))
  go_wp2_with fail
  refine hK.out _ _ ⟨F3.cell q0 (by simp), F3.cell q1 (by simp), F3.cell q2 (by simp), F3.cell q3 (by simp), F3.cell q4 (by simp), F3.cell cx (by simp)⟩ (fun hHeld => ?_)
  clear hK K
  try simp only [Act.put, List.getElem_toArray, List.getElem_cons_succ, List.getElem_cons_zero, List.setIfInBounds_toArray, List.set_cons_zero, List.set_cons_succ]
  refine wpAnyH_ready (rs := [9]) (by kernel_rfl) (by simp) ?_
  refine AllReadyH.cons (o := _) rfl (fun K hK => ?_) AllReadyH.nil
  simp only [List.getElem_toArray, List.getElem_cons_succ, List.getElem_cons_zero]
  go_simp
  refine (HST.out).mono ?_
  rintro en w4 ⟨rfl, hm4, f4⟩
  go_wp2_with fail
  refine hK.out _ _ ⟨f4.cell (F3.cell q0 (by simp)) (by simp; exact HP.out), f4.cell (F3.cell q1 (by simp)) (by simp; exact HP.out), f4.cell (F3.cell q2 (by simp)) (by simp; exact HP.out), f4.cell (F3.cell q3 (by simp)) (by simp; exact HP.out), f4.cell (F3.cell q4 (by simp)) (by simp; exact HP.out), f4.cell (F3.cell cx (by simp)) HB3.out⟩ (fun hHeld => ?_)
  clear hK K
  try simp only [Act.put, List.getElem_toArray, List.getElem_cons_succ, List.getElem_cons_zero, List.setIfInBounds_toArray, List.set_cons_zero, List.set_cons_succ]
  refine wpAnyH_done (by kernel_rfl) ?_ _
  have h4 := (H1.out.fr F3 (by simp)).fr f4 (by simp; exact HP.out)
  have q8 := cell_of (i := 8) h4 rfl
  have z8 := frozen_of (i := 8) h4
  have FS := (Fr.refl [p] w4).setCell (p := ⟨p, 8, none⟩) (.inl (by simp)) (.string QSt.head.str)
  have H5 := Lib.hid (h4.setNx .head)
  have HM5 := Lib.hid (hm4.fr FS (by simp; exact Ne.symm HP.out.1) (by simp; exact Ne.symm HP.out.2))
  have HF5 := Lib.hid ((HF1.out.trans ((F3.mono (by simp)).trans (f4.mono (by simp +contextual)))).trans (FS.mono (by simp)))
  clear h4 hm4 f4 FS F3
  have HE := Lib.hid (show RStep w p pm qm c { s with nx := .head } (storeL M (3 + c.wo + x) (-1)) (t + tch M (3 + c.wo + x)) (.returned (.bool false)) (w4.setCell ⟨p, 8, none⟩ (.string QSt.head.str)) from ⟨rfl, H5.out, HM5.out, HF5.out⟩)
  have el_come : ((⟨#[67, 79, 77, 69]⟩ : ByteArray).toList == [68, 79, 78, 69]) = false := by decide +kernel
  have el_push : ((⟨#[80, 85, 83, 72]⟩ : ByteArray).toList == [68, 79, 78, 69]) = false := by decide +kernel
  have el_closed : ((⟨#[67, 76, 79, 83, 69, 68]⟩ : ByteArray).toList == [68, 79, 78, 69]) = false := by decide +kernel
  have el_look : ((⟨#[76, 79, 79, 75]⟩ : ByteArray).toList == [68, 79, 78, 69]) = false := by decide +kernel
  have el_drop : ((⟨#[68, 82, 79, 80]⟩ : ByteArray).toList == [68, 79, 78, 69]) = false := by decide +kernel
  have el_head : ((⟨#[70, 73, 82, 83, 84]⟩ : ByteArray).toList == [68, 79, 78, 69]) = false := by decide +kernel
  have el_pop : ((⟨#[80, 79, 80]⟩ : ByteArray).toList == [68, 79, 78, 69]) = false := by decide +kernel
  have el_tell : ((⟨#[84, 69, 76, 76]⟩ : ByteArray).toList == [68, 79, 78, 69]) = false := by decide +kernel
  have el_done : ((⟨#[68, 79, 78, 69]⟩ : ByteArray).toList == [68, 79, 78, 69]) = true := by decide +kernel
  go_wp2
  go_ret
  exact HE.out

end Go.Proofs.Ytdpefnebghljoaa
