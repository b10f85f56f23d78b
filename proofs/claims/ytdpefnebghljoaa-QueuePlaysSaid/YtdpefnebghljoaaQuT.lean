/- The document's Queue: one step, state by state. -/
import Derived.Test.YtdpefnebghljoaaQuS
namespace Go.Proofs.Ytdpefnebghljoaa
open Go.RowKit

set_option maxHeartbeats 8000000 in
set_option maxRecDepth 100000 in
theorem rstep_done (w : World) (p pm qm : Nat) (c : ConfV) (s : QuS) (M : List Int) (t : Int) (h : RqAt w p c s) (hM : MemAt 60 w pm qm M t) (ht0 : 0 ≤ t) (ht1 : t ≤ 1000000) (hp : p ≠ pm ∧ p ≠ qm) (hn : s.nx = .done) :
    Calls Try.prog 31 #[.pointer (some ⟨p, 0, none⟩), .pointer (some ⟨pm, 0, none⟩)] w (RStep w p pm qm c (s) (M) (t)) := by
  obtain ⟨st, hst⟩ : ∃ x, x = QSt.done.str := ⟨_, rfl⟩
  have est_come : (st.toList == [67, 79, 77, 69]) = false := by rw [hst]; decide +kernel
  have est_push : (st.toList == [80, 85, 83, 72]) = false := by rw [hst]; decide +kernel
  have est_closed : (st.toList == [67, 76, 79, 83, 69, 68]) = false := by rw [hst]; decide +kernel
  have est_look : (st.toList == [76, 79, 79, 75]) = false := by rw [hst]; decide +kernel
  have est_drop : (st.toList == [68, 82, 79, 80]) = false := by rw [hst]; decide +kernel
  have est_head : (st.toList == [70, 73, 82, 83, 84]) = false := by rw [hst]; decide +kernel
  have est_pop : (st.toList == [80, 79, 80]) = false := by rw [hst]; decide +kernel
  have est_tell : (st.toList == [84, 69, 76, 76]) = false := by rw [hst]; decide +kernel
  have est_done : (st.toList == [68, 79, 78, 69]) = true := by rw [hst]; decide +kernel
  have q8 : w.cell? ⟨p, 8, none⟩ = some (.string st) := by rw [cell_of (i := 8) h rfl, hst]; show some (Value.string s.nx.str) = _; rw [hn]
  have z8 := frozen_of (i := 8) h
  have HE := Lib.hid (show RStep w p pm qm c s M t (.returned (.bool true)) w from ⟨by rw [hn]; rfl, h, hM, Fr.refl _ _⟩)
  clear h hM hn hst
  go_enter Try.func31, Try.ntmps31
  go_wp2
  go_ret
  exact HE.out

set_option maxHeartbeats 8000000 in
set_option maxRecDepth 100000 in
theorem rstep_closed1 (w : World) (p pm qm : Nat) (c : ConfV) (s : QuS) (M : List Int) (t : Int) (h : RqAt w p c s) (hM : MemAt 60 w pm qm M t) (ht0 : 0 ≤ t) (ht1 : t ≤ 1000000) (hp : p ≠ pm ∧ p ≠ qm) (hn : s.nx = .closed) (hlen : 2 ≤ M.length) (h0 : loadV M 0 = 0) :
    Calls Try.prog 31 #[.pointer (some ⟨p, 0, none⟩), .pointer (some ⟨pm, 0, none⟩)] w (RStep w p pm qm c ({ s with e := 0, nx := .done }) (M) (t + 1)) := by
  obtain ⟨st, hst⟩ : ∃ x, x = QSt.closed.str := ⟨_, rfl⟩
  have est_come : (st.toList == [67, 79, 77, 69]) = false := by rw [hst]; decide +kernel
  have est_push : (st.toList == [80, 85, 83, 72]) = false := by rw [hst]; decide +kernel
  have est_closed : (st.toList == [67, 76, 79, 83, 69, 68]) = true := by rw [hst]; decide +kernel
  have est_look : (st.toList == [76, 79, 79, 75]) = false := by rw [hst]; decide +kernel
  have est_drop : (st.toList == [68, 82, 79, 80]) = false := by rw [hst]; decide +kernel
  have est_head : (st.toList == [70, 73, 82, 83, 84]) = false := by rw [hst]; decide +kernel
  have est_pop : (st.toList == [80, 79, 80]) = false := by rw [hst]; decide +kernel
  have est_tell : (st.toList == [84, 69, 76, 76]) = false := by rw [hst]; decide +kernel
  have est_done : (st.toList == [68, 79, 78, 69]) = false := by rw [hst]; decide +kernel
  have q8 : w.cell? ⟨p, 8, none⟩ = some (.string st) := by rw [cell_of (i := 8) h rfl, hst]; show some (Value.string s.nx.str) = _; rw [hn]
  have z8 := frozen_of (i := 8) h
  have HP := Lib.hid hp
  have F0 := (Fr.refl [p] w).setCell (p := ⟨p, 8, none⟩) (.inl (by simp)) (.string QSt.look.str)
  have H0 := Lib.hid (h.setNx .look)
  have HM0 := Lib.hid (hM.fr F0 (by simp; exact Ne.symm hp.1) (by simp; exact Ne.symm hp.2))
  have HF0 := Lib.hid (F0.mono (S' := [p, pm, qm]) (by simp))
  have t1 : tch M 0 = 1 := by unfold tch; rw [if_pos (isIn_yes (by omega) (by omega))]
  have hld := rload_any (w.setCell ⟨p, 8, none⟩ (.string QSt.look.str)) pm qm M t 0 HM0.out ht0 (by omega)
  rw [t1] at hld
  obtain ⟨v, hv⟩ : ∃ v, v = loadV M 0 := ⟨_, rfl⟩
  rw [← hv] at hld h0
  have HLD := Lib.hid hld
  clear h hM hn hst hp F0 hld t1 hv
  subst h0
  go_enter Try.func31, Try.ntmps31
  go_wp2_with fail
  refine HLD.out.mono ?_
  rintro en w1 ⟨rfl, hm1, f1⟩
  have H1 := Lib.hid (H0.out.fr f1 (by simp; exact HP.out)); have HM1 := Lib.hid hm1; have HF1 := Lib.hid (HF0.out.trans (f1.mono (by simp +contextual)))
  clear hm1 f1 HLD H0 HM0 HF0
  have HEND := Lib.hid (rend_any w1 p c _ 0 H1.out)
  go_wp2_with fail
  refine HEND.out.mono ?_
  rintro en w2 ⟨rfl, h2, f2⟩
  obtain ⟨sd, hsd⟩ : ∃ x, x = QSt.done.str := ⟨_, rfl⟩
  have esd_done : (sd.toList == [68, 79, 78, 69]) = true := by rw [hsd]; decide +kernel
  have r8 : w2.cell? ⟨p, 8, none⟩ = some (.string sd) := by rw [cell_of (i := 8) h2 rfl, hsd]; rfl
  have HE := Lib.hid (show RStep w p pm qm c { s with e := 0, nx := .done } M (t + 1) (.returned (.bool true)) w2 from ⟨rfl, h2, HM1.out.fr f2 (by simp; exact Ne.symm HP.out.1) (by simp; exact Ne.symm HP.out.2), HF1.out.trans (f2.mono (by simp))⟩)
  clear hsd h2 f2 HEND
  go_wp2
  go_ret
  exact HE.out
set_option maxHeartbeats 8000000 in
set_option maxRecDepth 100000 in
theorem rstep_closed0 (w : World) (p pm qm : Nat) (c : ConfV) (s : QuS) (M : List Int) (t : Int) (h : RqAt w p c s) (hM : MemAt 60 w pm qm M t) (ht0 : 0 ≤ t) (ht1 : t ≤ 1000000) (hp : p ≠ pm ∧ p ≠ qm) (hn : s.nx = .closed) (hlen : 2 ≤ M.length) (h0 : loadV M 0 ≠ 0) :
    Calls Try.prog 31 #[.pointer (some ⟨p, 0, none⟩), .pointer (some ⟨pm, 0, none⟩)] w (RStep w p pm qm c ({ s with nx := .look }) (M) (t + 1)) := by
  obtain ⟨st, hst⟩ : ∃ x, x = QSt.closed.str := ⟨_, rfl⟩
  have est_come : (st.toList == [67, 79, 77, 69]) = false := by rw [hst]; decide +kernel
  have est_push : (st.toList == [80, 85, 83, 72]) = false := by rw [hst]; decide +kernel
  have est_closed : (st.toList == [67, 76, 79, 83, 69, 68]) = true := by rw [hst]; decide +kernel
  have est_look : (st.toList == [76, 79, 79, 75]) = false := by rw [hst]; decide +kernel
  have est_drop : (st.toList == [68, 82, 79, 80]) = false := by rw [hst]; decide +kernel
  have est_head : (st.toList == [70, 73, 82, 83, 84]) = false := by rw [hst]; decide +kernel
  have est_pop : (st.toList == [80, 79, 80]) = false := by rw [hst]; decide +kernel
  have est_tell : (st.toList == [84, 69, 76, 76]) = false := by rw [hst]; decide +kernel
  have est_done : (st.toList == [68, 79, 78, 69]) = false := by rw [hst]; decide +kernel
  have q8 : w.cell? ⟨p, 8, none⟩ = some (.string st) := by rw [cell_of (i := 8) h rfl, hst]; show some (Value.string s.nx.str) = _; rw [hn]
  have z8 := frozen_of (i := 8) h
  have HP := Lib.hid hp
  have F0 := (Fr.refl [p] w).setCell (p := ⟨p, 8, none⟩) (.inl (by simp)) (.string QSt.look.str)
  have H0 := Lib.hid (h.setNx .look)
  have HM0 := Lib.hid (hM.fr F0 (by simp; exact Ne.symm hp.1) (by simp; exact Ne.symm hp.2))
  have HF0 := Lib.hid (F0.mono (S' := [p, pm, qm]) (by simp))
  have t1 : tch M 0 = 1 := by unfold tch; rw [if_pos (isIn_yes (by omega) (by omega))]
  have hld := rload_any (w.setCell ⟨p, 8, none⟩ (.string QSt.look.str)) pm qm M t 0 HM0.out ht0 (by omega)
  rw [t1] at hld
  obtain ⟨v, hv⟩ : ∃ v, v = loadV M 0 := ⟨_, rfl⟩
  rw [← hv] at hld h0
  have HLD := Lib.hid hld
  clear h hM hn hst hp F0 hld t1 hv
  go_enter Try.func31, Try.ntmps31
  go_wp2_with fail
  refine HLD.out.mono ?_
  rintro en w1 ⟨rfl, hm1, f1⟩
  have H1 := Lib.hid (H0.out.fr f1 (by simp; exact HP.out)); have HM1 := Lib.hid hm1; have HF1 := Lib.hid (HF0.out.trans (f1.mono (by simp +contextual)))
  clear hm1 f1 HLD H0 HM0 HF0
  obtain ⟨sd, hsd⟩ : ∃ x, x = QSt.look.str := ⟨_, rfl⟩
  have esd_done : (sd.toList == [68, 79, 78, 69]) = false := by rw [hsd]; decide +kernel
  have r8 : w1.cell? ⟨p, 8, none⟩ = some (.string sd) := by rw [cell_of (i := 8) H1.out rfl, hsd]; rfl
  have HE := Lib.hid (show RStep w p pm qm c { s with nx := .look } M (t + 1) (.returned (.bool false)) w1 from ⟨rfl, H1.out, HM1.out, HF1.out⟩)
  clear hsd
  go_wp2
  go_ret
  exact HE.out

set_option maxHeartbeats 8000000 in
set_option maxRecDepth 100000 in
theorem rstep_look1 (w : World) (p pm qm : Nat) (c : ConfV) (s : QuS) (M : List Int) (t : Int) (h : RqAt w p c s) (hM : MemAt 60 w pm qm M t) (ht0 : 0 ≤ t) (ht1 : t ≤ 1000000) (hp : p ≠ pm ∧ p ≠ qm) (hn : s.nx = .look) (hm : MOk M) (hin : s.w ∈ mQ M) :
    Calls Try.prog 31 #[.pointer (some ⟨p, 0, none⟩), .pointer (some ⟨pm, 0, none⟩)] w (RStep w p pm qm c ({ s with line := mQ M, nx := .drop }) (M) (t + 1)) := by
  obtain ⟨st, hst⟩ : ∃ x, x = QSt.look.str := ⟨_, rfl⟩
  have est_come : (st.toList == [67, 79, 77, 69]) = false := by rw [hst]; decide +kernel
  have est_push : (st.toList == [80, 85, 83, 72]) = false := by rw [hst]; decide +kernel
  have est_closed : (st.toList == [67, 76, 79, 83, 69, 68]) = false := by rw [hst]; decide +kernel
  have est_look : (st.toList == [76, 79, 79, 75]) = true := by rw [hst]; decide +kernel
  have est_drop : (st.toList == [68, 82, 79, 80]) = false := by rw [hst]; decide +kernel
  have est_head : (st.toList == [70, 73, 82, 83, 84]) = false := by rw [hst]; decide +kernel
  have est_pop : (st.toList == [80, 79, 80]) = false := by rw [hst]; decide +kernel
  have est_tell : (st.toList == [84, 69, 76, 76]) = false := by rw [hst]; decide +kernel
  have est_done : (st.toList == [68, 79, 78, 69]) = false := by rw [hst]; decide +kernel
  have q8 : w.cell? ⟨p, 8, none⟩ = some (.string st) := by rw [cell_of (i := 8) h rfl, hst]; show some (Value.string s.nx.str) = _; rw [hn]
  have z8 := frozen_of (i := 8) h
  have HP := Lib.hid hp
  have t1 : tch M 1 = 1 := by unfold tch; rw [if_pos (isIn_yes (by omega) (by have := hm.1; omega))]
  have hld := rload_any w pm qm M t 1 hM ht0 (by omega)
  rw [t1, hm.2.2] at hld
  obtain ⟨Q, hQ⟩ : ∃ Q, Q = mQ M := ⟨_, rfl⟩
  have HQL := Lib.hid (show Ln Q by rw [hQ]; exact hm.2.1)
  rw [← hQ] at hld hin ⊢
  have HLD := Lib.hid hld; have H := Lib.hid h
  clear h hM hn hst hp hld t1 hQ hm
  have HIN := Lib.hid hin
  clear hin
  go_enter Try.func31, Try.ntmps31
  go_wp2_with fail
  refine HLD.out.mono ?_
  rintro en w1 ⟨rfl, hm1, f1⟩
  have h1 := H.out.fr f1 (by simp; exact HP.out)
  have q6 := cell_of (i := 6) h1 rfl
  have z6 := frozen_of (i := 6) h1
  have FS := (Fr.refl [p] w1).setCell (p := ⟨p, 6, none⟩) (.inl (by simp)) (.int .i64 (wd Q : Int))
  have H2 := Lib.hid (h1.setLine Q)
  have HM2 := Lib.hid (hm1.fr FS (by simp; exact Ne.symm HP.out.1) (by simp; exact Ne.symm HP.out.2))
  have HF2 := Lib.hid ((f1.mono (S' := [p, pm, qm]) (by simp +contextual)).trans (FS.mono (by simp)))
  clear h1 hm1 f1 FS HLD H
  go_wp2_with fail
  generalize w1.setCell ⟨p, 6, none⟩ (.int .i64 (wd Q : Int)) = w2 at H2 HM2 HF2 ⊢
  refine (ref_list_any w2 (wd Q : Int) (by have := wd_lt HQL.out; omega)).mono ?_
  rintro en w3 ⟨g3, c3, rfl, hI3, f3, -⟩
  rw [refLi_wd HQL.out] at hI3 ⊢
  have H3 := Lib.hid (H2.out.fr f3 (by simp)); have HM3 := Lib.hid (HM2.out.fr f3 (by simp) (by simp)); have HF3 := Lib.hid (HF2.out.trans (f3.mono (by simp)))
  have r5 := cell_of (i := 5) H3.out rfl
  have HI3 := Lib.hid hI3
  clear hI3 f3 q6 z6 q8 z8
  go_wp2_with fail
  refine (ref_has_any w3 g3 c3 Q s.w HI3.out).mono ?_
  rintro en w4 ⟨rfl, f4⟩
  rw [decide_eq_true HIN.out]
  have h4 := H3.out.fr f4 (by simp)
  have q8 := cell_of (i := 8) h4 rfl
  have z8 := frozen_of (i := 8) h4
  have FS := (Fr.refl [p] w4).setCell (p := ⟨p, 8, none⟩) (.inl (by simp)) (.string QSt.drop.str)
  have H5 := Lib.hid (h4.setNx .drop)
  have HM5 := Lib.hid ((HM3.out.fr f4 (by simp) (by simp)).fr FS (by simp; exact Ne.symm HP.out.1) (by simp; exact Ne.symm HP.out.2))
  have HF5 := Lib.hid ((HF3.out.trans (f4.mono (by simp))).trans (FS.mono (by simp)))
  clear h4 f4 FS r5
  have HE := Lib.hid (show RStep w p pm qm c { s with line := Q, nx := .drop } M (t + 1) (.returned (.bool false)) (w4.setCell ⟨p, 8, none⟩ (.string QSt.drop.str)) from ⟨rfl, H5.out, HM5.out, HF5.out⟩)
  have el_come : ((⟨#[67, 79, 77, 69]⟩ : ByteArray).toList == [68, 79, 78, 69]) = false := by decide +kernel
  have el_push : ((⟨#[80, 85, 83, 72]⟩ : ByteArray).toList == [68, 79, 78, 69]) = false := by decide +kernel
  have el_closed : ((⟨#[67, 76, 79, 83, 69, 68]⟩ : ByteArray).toList == [68, 79, 78, 69]) = false := by decide +kernel
  have el_look : ((⟨#[76, 79, 79, 75]⟩ : ByteArray).toList == [68, 79, 78, 69]) = false := by decide +kernel
  have el_drop : ((⟨#[68, 82, 79, 80]⟩ : ByteArray).toList == [68, 79, 78, 69]) = false := by decide +kernel
  have el_head : ((⟨#[70, 73, 82, 83, 84]⟩ : ByteArray).toList == [68, 79, 78, 69]) = false := by decide +kernel
  have el_pop : ((⟨#[80, 79, 80]⟩ : ByteArray).toList == [68, 79, 78, 69]) = false := by decide +kernel
  have el_tell : ((⟨#[84, 69, 76, 76]⟩ : ByteArray).toList == [68, 79, 78, 69]) = false := by decide +kernel
  have el_done : ((⟨#[68, 79, 78, 69]⟩ : ByteArray).toList == [68, 79, 78, 69]) = true := by decide +kernel
  go_wp2
  go_ret
  exact HE.out

set_option maxHeartbeats 8000000 in
set_option maxRecDepth 100000 in
theorem rstep_look0 (w : World) (p pm qm : Nat) (c : ConfV) (s : QuS) (M : List Int) (t : Int) (h : RqAt w p c s) (hM : MemAt 60 w pm qm M t) (ht0 : 0 ≤ t) (ht1 : t ≤ 1000000) (hp : p ≠ pm ∧ p ≠ qm) (hn : s.nx = .look) (hm : MOk M) (hin : s.w ∉ mQ M) :
    Calls Try.prog 31 #[.pointer (some ⟨p, 0, none⟩), .pointer (some ⟨pm, 0, none⟩)] w (RStep w p pm qm c ({ s with line := mQ M, e := 8, nx := .done }) (M) (t + 1)) := by
  obtain ⟨st, hst⟩ : ∃ x, x = QSt.look.str := ⟨_, rfl⟩
  have est_come : (st.toList == [67, 79, 77, 69]) = false := by rw [hst]; decide +kernel
  have est_push : (st.toList == [80, 85, 83, 72]) = false := by rw [hst]; decide +kernel
  have est_closed : (st.toList == [67, 76, 79, 83, 69, 68]) = false := by rw [hst]; decide +kernel
  have est_look : (st.toList == [76, 79, 79, 75]) = true := by rw [hst]; decide +kernel
  have est_drop : (st.toList == [68, 82, 79, 80]) = false := by rw [hst]; decide +kernel
  have est_head : (st.toList == [70, 73, 82, 83, 84]) = false := by rw [hst]; decide +kernel
  have est_pop : (st.toList == [80, 79, 80]) = false := by rw [hst]; decide +kernel
  have est_tell : (st.toList == [84, 69, 76, 76]) = false := by rw [hst]; decide +kernel
  have est_done : (st.toList == [68, 79, 78, 69]) = false := by rw [hst]; decide +kernel
  have q8 : w.cell? ⟨p, 8, none⟩ = some (.string st) := by rw [cell_of (i := 8) h rfl, hst]; show some (Value.string s.nx.str) = _; rw [hn]
  have z8 := frozen_of (i := 8) h
  have HP := Lib.hid hp
  have t1 : tch M 1 = 1 := by unfold tch; rw [if_pos (isIn_yes (by omega) (by have := hm.1; omega))]
  have hld := rload_any w pm qm M t 1 hM ht0 (by omega)
  rw [t1, hm.2.2] at hld
  obtain ⟨Q, hQ⟩ : ∃ Q, Q = mQ M := ⟨_, rfl⟩
  have HQL := Lib.hid (show Ln Q by rw [hQ]; exact hm.2.1)
  rw [← hQ] at hld hin ⊢
  have HLD := Lib.hid hld; have H := Lib.hid h
  clear h hM hn hst hp hld t1 hQ hm
  have HIN := Lib.hid hin
  clear hin
  go_enter Try.func31, Try.ntmps31
  go_wp2_with fail
  refine HLD.out.mono ?_
  rintro en w1 ⟨rfl, hm1, f1⟩
  have h1 := H.out.fr f1 (by simp; exact HP.out)
  have q6 := cell_of (i := 6) h1 rfl
  have z6 := frozen_of (i := 6) h1
  have FS := (Fr.refl [p] w1).setCell (p := ⟨p, 6, none⟩) (.inl (by simp)) (.int .i64 (wd Q : Int))
  have H2 := Lib.hid (h1.setLine Q)
  have HM2 := Lib.hid (hm1.fr FS (by simp; exact Ne.symm HP.out.1) (by simp; exact Ne.symm HP.out.2))
  have HF2 := Lib.hid ((f1.mono (S' := [p, pm, qm]) (by simp +contextual)).trans (FS.mono (by simp)))
  clear h1 hm1 f1 FS HLD H
  go_wp2_with fail
  generalize w1.setCell ⟨p, 6, none⟩ (.int .i64 (wd Q : Int)) = w2 at H2 HM2 HF2 ⊢
  refine (ref_list_any w2 (wd Q : Int) (by have := wd_lt HQL.out; omega)).mono ?_
  rintro en w3 ⟨g3, c3, rfl, hI3, f3, -⟩
  rw [refLi_wd HQL.out] at hI3 ⊢
  have H3 := Lib.hid (H2.out.fr f3 (by simp)); have HM3 := Lib.hid (HM2.out.fr f3 (by simp) (by simp)); have HF3 := Lib.hid (HF2.out.trans (f3.mono (by simp)))
  have r5 := cell_of (i := 5) H3.out rfl
  have HI3 := Lib.hid hI3
  clear hI3 f3 q6 z6 q8 z8
  go_wp2_with fail
  refine (ref_has_any w3 g3 c3 Q s.w HI3.out).mono ?_
  rintro en w4 ⟨rfl, f4⟩
  rw [decide_eq_false HIN.out]
  have h4 := H3.out.fr f4 (by simp)
  have q8 := cell_of (i := 8) h4 rfl
  have z8 := frozen_of (i := 8) h4
  have FS := (Fr.refl [p] w4).setCell (p := ⟨p, 8, none⟩) (.inl (by simp)) (.string QSt.drop.str)
  have H5 := Lib.hid (h4.setNx .drop)
  have HM5 := Lib.hid ((HM3.out.fr f4 (by simp) (by simp)).fr FS (by simp; exact Ne.symm HP.out.1) (by simp; exact Ne.symm HP.out.2))
  have HF5 := Lib.hid ((HF3.out.trans (f4.mono (by simp))).trans (FS.mono (by simp)))
  clear h4 f4 FS r5
  have HEND := Lib.hid (rend_any (w4.setCell ⟨p, 8, none⟩ (.string QSt.drop.str)) p c _ 8 H5.out)
  go_wp2_with fail
  refine HEND.out.mono ?_
  rintro en w6 ⟨rfl, h6, f6⟩
  obtain ⟨sd, hsd⟩ : ∃ x, x = QSt.done.str := ⟨_, rfl⟩
  have esd_done : (sd.toList == [68, 79, 78, 69]) = true := by rw [hsd]; decide +kernel
  have r8 : w6.cell? ⟨p, 8, none⟩ = some (.string sd) := by rw [cell_of (i := 8) h6 rfl, hsd]; rfl
  have HE := Lib.hid (show RStep w p pm qm c { s with line := Q, e := 8, nx := .done } M (t + 1) (.returned (.bool true)) w6 from ⟨rfl, h6, HM5.out.fr f6 (by simp; exact Ne.symm HP.out.1) (by simp; exact Ne.symm HP.out.2), HF5.out.trans (f6.mono (by simp))⟩)
  clear hsd h6 f6 HEND
  go_wp2
  go_ret
  exact HE.out

set_option maxHeartbeats 8000000 in
set_option maxRecDepth 100000 in
theorem rstep_come_in (w : World) (p pm qm : Nat) (c : ConfV) (s : QuS) (M : List Int) (t : Int) (h : RqAt w p c s) (hM : MemAt 60 w pm qm M t) (ht0 : 0 ≤ t) (ht1 : t ≤ 1000000) (hp : p ≠ pm ∧ p ≠ qm) (hn : s.nx = .come) (hm : MOk M) (hin : s.w ∈ mQ M) :
    Calls Try.prog 31 #[.pointer (some ⟨p, 0, none⟩), .pointer (some ⟨pm, 0, none⟩)] w (RStep w p pm qm c ({ s with line := mQ M, e := 7, nx := .done }) (M) (t + 1)) := by
  obtain ⟨st, hst⟩ : ∃ x, x = QSt.come.str := ⟨_, rfl⟩
  have est_come : (st.toList == [67, 79, 77, 69]) = true := by rw [hst]; decide +kernel
  have est_push : (st.toList == [80, 85, 83, 72]) = false := by rw [hst]; decide +kernel
  have est_closed : (st.toList == [67, 76, 79, 83, 69, 68]) = false := by rw [hst]; decide +kernel
  have est_look : (st.toList == [76, 79, 79, 75]) = false := by rw [hst]; decide +kernel
  have est_drop : (st.toList == [68, 82, 79, 80]) = false := by rw [hst]; decide +kernel
  have est_head : (st.toList == [70, 73, 82, 83, 84]) = false := by rw [hst]; decide +kernel
  have est_pop : (st.toList == [80, 79, 80]) = false := by rw [hst]; decide +kernel
  have est_tell : (st.toList == [84, 69, 76, 76]) = false := by rw [hst]; decide +kernel
  have est_done : (st.toList == [68, 79, 78, 69]) = false := by rw [hst]; decide +kernel
  have q8 : w.cell? ⟨p, 8, none⟩ = some (.string st) := by rw [cell_of (i := 8) h rfl, hst]; show some (Value.string s.nx.str) = _; rw [hn]
  have z8 := frozen_of (i := 8) h
  have HP := Lib.hid hp
  have t1 : tch M 1 = 1 := by unfold tch; rw [if_pos (isIn_yes (by omega) (by have := hm.1; omega))]
  have hld := rload_any w pm qm M t 1 hM ht0 (by omega)
  rw [t1, hm.2.2] at hld
  obtain ⟨Q, hQ⟩ : ∃ Q, Q = mQ M := ⟨_, rfl⟩
  have HQL := Lib.hid (show Ln Q by rw [hQ]; exact hm.2.1)
  rw [← hQ] at hld hin ⊢
  have HLD := Lib.hid hld; have H := Lib.hid h
  clear h hM hn hst hp hld t1 hQ hm
  have HIN := Lib.hid hin
  clear hin
  go_enter Try.func31, Try.ntmps31
  go_wp2_with fail
  refine HLD.out.mono ?_
  rintro en w1 ⟨rfl, hm1, f1⟩
  have h1 := H.out.fr f1 (by simp; exact HP.out)
  have q6 := cell_of (i := 6) h1 rfl
  have z6 := frozen_of (i := 6) h1
  have FS := (Fr.refl [p] w1).setCell (p := ⟨p, 6, none⟩) (.inl (by simp)) (.int .i64 (wd Q : Int))
  have H2 := Lib.hid (h1.setLine Q)
  have HM2 := Lib.hid (hm1.fr FS (by simp; exact Ne.symm HP.out.1) (by simp; exact Ne.symm HP.out.2))
  have HF2 := Lib.hid ((f1.mono (S' := [p, pm, qm]) (by simp +contextual)).trans (FS.mono (by simp)))
  clear h1 hm1 f1 FS HLD H
  go_wp2_with fail
  generalize w1.setCell ⟨p, 6, none⟩ (.int .i64 (wd Q : Int)) = w2 at H2 HM2 HF2 ⊢
  refine (ref_list_any w2 (wd Q : Int) (by have := wd_lt HQL.out; omega)).mono ?_
  rintro en w3 ⟨g3, c3, rfl, hI3, f3, -⟩
  rw [refLi_wd HQL.out] at hI3 ⊢
  have H3 := Lib.hid (H2.out.fr f3 (by simp)); have HM3 := Lib.hid (HM2.out.fr f3 (by simp) (by simp)); have HF3 := Lib.hid (HF2.out.trans (f3.mono (by simp)))
  have r5 := cell_of (i := 5) H3.out rfl
  have HI3 := Lib.hid hI3
  clear hI3 f3 q6 z6 q8 z8
  go_wp2_with fail
  refine (ref_has_any w3 g3 c3 Q s.w HI3.out).mono ?_
  rintro en w4 ⟨rfl, f4⟩
  rw [decide_eq_true HIN.out]
  have h4 := H3.out.fr f4 (by simp)
  have q8 := cell_of (i := 8) h4 rfl
  have z8 := frozen_of (i := 8) h4
  have FS := (Fr.refl [p] w4).setCell (p := ⟨p, 8, none⟩) (.inl (by simp)) (.string QSt.push.str)
  have H5 := Lib.hid (h4.setNx .push)
  have HM5 := Lib.hid ((HM3.out.fr f4 (by simp) (by simp)).fr FS (by simp; exact Ne.symm HP.out.1) (by simp; exact Ne.symm HP.out.2))
  have HF5 := Lib.hid ((HF3.out.trans (f4.mono (by simp))).trans (FS.mono (by simp)))
  have q3 := cell_of (i := 3) h4 rfl
  clear h4 f4 FS r5
  have HEND := Lib.hid (rend_any (w4.setCell ⟨p, 8, none⟩ (.string QSt.push.str)) p c _ 7 H5.out)
  go_wp2_with fail
  refine HEND.out.mono ?_
  rintro en w6 ⟨rfl, h6, f6⟩
  obtain ⟨sd, hsd⟩ : ∃ x, x = QSt.done.str := ⟨_, rfl⟩
  have esd_done : (sd.toList == [68, 79, 78, 69]) = true := by rw [hsd]; decide +kernel
  have r8 : w6.cell? ⟨p, 8, none⟩ = some (.string sd) := by rw [cell_of (i := 8) h6 rfl, hsd]; rfl
  have HE := Lib.hid (show RStep w p pm qm c { s with line := Q, e := 7, nx := .done } M (t + 1) (.returned (.bool true)) w6 from ⟨rfl, h6, HM5.out.fr f6 (by simp; exact Ne.symm HP.out.1) (by simp; exact Ne.symm HP.out.2), HF5.out.trans (f6.mono (by simp))⟩)
  clear hsd h6 f6 HEND
  go_wp2
  go_ret
  exact HE.out

set_option maxHeartbeats 8000000 in
set_option maxRecDepth 100000 in
theorem rstep_come_full (w : World) (p pm qm : Nat) (c : ConfV) (s : QuS) (M : List Int) (t : Int) (h : RqAt w p c s) (hM : MemAt 60 w pm qm M t) (ht0 : 0 ≤ t) (ht1 : t ≤ 1000000) (hp : p ≠ pm ∧ p ≠ qm) (hn : s.nx = .come) (hm : MOk M) (hin : s.w ∉ mQ M) (hfu : c.wa ≤ ((mQ M).length : Int)) :
    Calls Try.prog 31 #[.pointer (some ⟨p, 0, none⟩), .pointer (some ⟨pm, 0, none⟩)] w (RStep w p pm qm c ({ s with line := mQ M, e := 7, nx := .done }) (M) (t + 1)) := by
  obtain ⟨st, hst⟩ : ∃ x, x = QSt.come.str := ⟨_, rfl⟩
  have est_come : (st.toList == [67, 79, 77, 69]) = true := by rw [hst]; decide +kernel
  have est_push : (st.toList == [80, 85, 83, 72]) = false := by rw [hst]; decide +kernel
  have est_closed : (st.toList == [67, 76, 79, 83, 69, 68]) = false := by rw [hst]; decide +kernel
  have est_look : (st.toList == [76, 79, 79, 75]) = false := by rw [hst]; decide +kernel
  have est_drop : (st.toList == [68, 82, 79, 80]) = false := by rw [hst]; decide +kernel
  have est_head : (st.toList == [70, 73, 82, 83, 84]) = false := by rw [hst]; decide +kernel
  have est_pop : (st.toList == [80, 79, 80]) = false := by rw [hst]; decide +kernel
  have est_tell : (st.toList == [84, 69, 76, 76]) = false := by rw [hst]; decide +kernel
  have est_done : (st.toList == [68, 79, 78, 69]) = false := by rw [hst]; decide +kernel
  have q8 : w.cell? ⟨p, 8, none⟩ = some (.string st) := by rw [cell_of (i := 8) h rfl, hst]; show some (Value.string s.nx.str) = _; rw [hn]
  have z8 := frozen_of (i := 8) h
  have HP := Lib.hid hp
  have t1 : tch M 1 = 1 := by unfold tch; rw [if_pos (isIn_yes (by omega) (by have := hm.1; omega))]
  have hld := rload_any w pm qm M t 1 hM ht0 (by omega)
  rw [t1, hm.2.2] at hld
  obtain ⟨Q, hQ⟩ : ∃ Q, Q = mQ M := ⟨_, rfl⟩
  have HQL := Lib.hid (show Ln Q by rw [hQ]; exact hm.2.1)
  rw [← hQ] at hld hin hfu ⊢
  have HLD := Lib.hid hld; have H := Lib.hid h
  clear h hM hn hst hp hld t1 hQ hm
  have HIN := Lib.hid hin
  clear hin
  go_enter Try.func31, Try.ntmps31
  go_wp2_with fail
  refine HLD.out.mono ?_
  rintro en w1 ⟨rfl, hm1, f1⟩
  have h1 := H.out.fr f1 (by simp; exact HP.out)
  have q6 := cell_of (i := 6) h1 rfl
  have z6 := frozen_of (i := 6) h1
  have FS := (Fr.refl [p] w1).setCell (p := ⟨p, 6, none⟩) (.inl (by simp)) (.int .i64 (wd Q : Int))
  have H2 := Lib.hid (h1.setLine Q)
  have HM2 := Lib.hid (hm1.fr FS (by simp; exact Ne.symm HP.out.1) (by simp; exact Ne.symm HP.out.2))
  have HF2 := Lib.hid ((f1.mono (S' := [p, pm, qm]) (by simp +contextual)).trans (FS.mono (by simp)))
  clear h1 hm1 f1 FS HLD H
  go_wp2_with fail
  generalize w1.setCell ⟨p, 6, none⟩ (.int .i64 (wd Q : Int)) = w2 at H2 HM2 HF2 ⊢
  refine (ref_list_any w2 (wd Q : Int) (by have := wd_lt HQL.out; omega)).mono ?_
  rintro en w3 ⟨g3, c3, rfl, hI3, f3, -⟩
  rw [refLi_wd HQL.out] at hI3 ⊢
  have H3 := Lib.hid (H2.out.fr f3 (by simp)); have HM3 := Lib.hid (HM2.out.fr f3 (by simp) (by simp)); have HF3 := Lib.hid (HF2.out.trans (f3.mono (by simp)))
  have r5 := cell_of (i := 5) H3.out rfl
  have HI3 := Lib.hid hI3
  clear hI3 f3 q6 z6 q8 z8
  go_wp2_with fail
  refine (ref_has_any w3 g3 c3 Q s.w HI3.out).mono ?_
  rintro en w4 ⟨rfl, f4⟩
  rw [decide_eq_false HIN.out]
  have h4 := H3.out.fr f4 (by simp)
  have q8 := cell_of (i := 8) h4 rfl
  have z8 := frozen_of (i := 8) h4
  have FS := (Fr.refl [p] w4).setCell (p := ⟨p, 8, none⟩) (.inl (by simp)) (.string QSt.push.str)
  have H5 := Lib.hid (h4.setNx .push)
  have HM5 := Lib.hid ((HM3.out.fr f4 (by simp) (by simp)).fr FS (by simp; exact Ne.symm HP.out.1) (by simp; exact Ne.symm HP.out.2))
  have HF5 := Lib.hid ((HF3.out.trans (f4.mono (by simp))).trans (FS.mono (by simp)))
  have q3 := cell_of (i := 3) h4 rfl
  clear h4 f4 FS r5
  have HEND := Lib.hid (rend_any (w4.setCell ⟨p, 8, none⟩ (.string QSt.push.str)) p c _ 7 H5.out)
  go_wp2_with fail
  refine HEND.out.mono ?_
  rintro en w6 ⟨rfl, h6, f6⟩
  obtain ⟨sd, hsd⟩ : ∃ x, x = QSt.done.str := ⟨_, rfl⟩
  have esd_done : (sd.toList == [68, 79, 78, 69]) = true := by rw [hsd]; decide +kernel
  have r8 : w6.cell? ⟨p, 8, none⟩ = some (.string sd) := by rw [cell_of (i := 8) h6 rfl, hsd]; rfl
  have HE := Lib.hid (show RStep w p pm qm c { s with line := Q, e := 7, nx := .done } M (t + 1) (.returned (.bool true)) w6 from ⟨rfl, h6, HM5.out.fr f6 (by simp; exact Ne.symm HP.out.1) (by simp; exact Ne.symm HP.out.2), HF5.out.trans (f6.mono (by simp))⟩)
  clear hsd h6 f6 HEND
  go_wp2
  go_ret
  exact HE.out

set_option maxHeartbeats 8000000 in
set_option maxRecDepth 100000 in
theorem rstep_come_room (w : World) (p pm qm : Nat) (c : ConfV) (s : QuS) (M : List Int) (t : Int) (h : RqAt w p c s) (hM : MemAt 60 w pm qm M t) (ht0 : 0 ≤ t) (ht1 : t ≤ 1000000) (hp : p ≠ pm ∧ p ≠ qm) (hn : s.nx = .come) (hm : MOk M) (hin : s.w ∉ mQ M) (hfu : ¬ c.wa ≤ ((mQ M).length : Int)) :
    Calls Try.prog 31 #[.pointer (some ⟨p, 0, none⟩), .pointer (some ⟨pm, 0, none⟩)] w (RStep w p pm qm c ({ s with line := mQ M, nx := .push }) (M) (t + 1)) := by
  obtain ⟨st, hst⟩ : ∃ x, x = QSt.come.str := ⟨_, rfl⟩
  have est_come : (st.toList == [67, 79, 77, 69]) = true := by rw [hst]; decide +kernel
  have est_push : (st.toList == [80, 85, 83, 72]) = false := by rw [hst]; decide +kernel
  have est_closed : (st.toList == [67, 76, 79, 83, 69, 68]) = false := by rw [hst]; decide +kernel
  have est_look : (st.toList == [76, 79, 79, 75]) = false := by rw [hst]; decide +kernel
  have est_drop : (st.toList == [68, 82, 79, 80]) = false := by rw [hst]; decide +kernel
  have est_head : (st.toList == [70, 73, 82, 83, 84]) = false := by rw [hst]; decide +kernel
  have est_pop : (st.toList == [80, 79, 80]) = false := by rw [hst]; decide +kernel
  have est_tell : (st.toList == [84, 69, 76, 76]) = false := by rw [hst]; decide +kernel
  have est_done : (st.toList == [68, 79, 78, 69]) = false := by rw [hst]; decide +kernel
  have q8 : w.cell? ⟨p, 8, none⟩ = some (.string st) := by rw [cell_of (i := 8) h rfl, hst]; show some (Value.string s.nx.str) = _; rw [hn]
  have z8 := frozen_of (i := 8) h
  have HP := Lib.hid hp
  have t1 : tch M 1 = 1 := by unfold tch; rw [if_pos (isIn_yes (by omega) (by have := hm.1; omega))]
  have hld := rload_any w pm qm M t 1 hM ht0 (by omega)
  rw [t1, hm.2.2] at hld
  obtain ⟨Q, hQ⟩ : ∃ Q, Q = mQ M := ⟨_, rfl⟩
  have HQL := Lib.hid (show Ln Q by rw [hQ]; exact hm.2.1)
  rw [← hQ] at hld hin hfu ⊢
  have HLD := Lib.hid hld; have H := Lib.hid h
  clear h hM hn hst hp hld t1 hQ hm
  have HIN := Lib.hid hin
  clear hin
  go_enter Try.func31, Try.ntmps31
  go_wp2_with fail
  refine HLD.out.mono ?_
  rintro en w1 ⟨rfl, hm1, f1⟩
  have h1 := H.out.fr f1 (by simp; exact HP.out)
  have q6 := cell_of (i := 6) h1 rfl
  have z6 := frozen_of (i := 6) h1
  have FS := (Fr.refl [p] w1).setCell (p := ⟨p, 6, none⟩) (.inl (by simp)) (.int .i64 (wd Q : Int))
  have H2 := Lib.hid (h1.setLine Q)
  have HM2 := Lib.hid (hm1.fr FS (by simp; exact Ne.symm HP.out.1) (by simp; exact Ne.symm HP.out.2))
  have HF2 := Lib.hid ((f1.mono (S' := [p, pm, qm]) (by simp +contextual)).trans (FS.mono (by simp)))
  clear h1 hm1 f1 FS HLD H
  go_wp2_with fail
  generalize w1.setCell ⟨p, 6, none⟩ (.int .i64 (wd Q : Int)) = w2 at H2 HM2 HF2 ⊢
  refine (ref_list_any w2 (wd Q : Int) (by have := wd_lt HQL.out; omega)).mono ?_
  rintro en w3 ⟨g3, c3, rfl, hI3, f3, -⟩
  rw [refLi_wd HQL.out] at hI3 ⊢
  have H3 := Lib.hid (H2.out.fr f3 (by simp)); have HM3 := Lib.hid (HM2.out.fr f3 (by simp) (by simp)); have HF3 := Lib.hid (HF2.out.trans (f3.mono (by simp)))
  have r5 := cell_of (i := 5) H3.out rfl
  have HI3 := Lib.hid hI3
  clear hI3 f3 q6 z6 q8 z8
  go_wp2_with fail
  refine (ref_has_any w3 g3 c3 Q s.w HI3.out).mono ?_
  rintro en w4 ⟨rfl, f4⟩
  rw [decide_eq_false HIN.out]
  have h4 := H3.out.fr f4 (by simp)
  have q8 := cell_of (i := 8) h4 rfl
  have z8 := frozen_of (i := 8) h4
  have FS := (Fr.refl [p] w4).setCell (p := ⟨p, 8, none⟩) (.inl (by simp)) (.string QSt.push.str)
  have H5 := Lib.hid (h4.setNx .push)
  have HM5 := Lib.hid ((HM3.out.fr f4 (by simp) (by simp)).fr FS (by simp; exact Ne.symm HP.out.1) (by simp; exact Ne.symm HP.out.2))
  have HF5 := Lib.hid ((HF3.out.trans (f4.mono (by simp))).trans (FS.mono (by simp)))
  have q3 := cell_of (i := 3) h4 rfl
  clear h4 f4 FS r5
  have HE := Lib.hid (show RStep w p pm qm c { s with line := Q, nx := .push } M (t + 1) (.returned (.bool false)) (w4.setCell ⟨p, 8, none⟩ (.string QSt.push.str)) from ⟨rfl, H5.out, HM5.out, HF5.out⟩)
  have el_come : ((⟨#[67, 79, 77, 69]⟩ : ByteArray).toList == [68, 79, 78, 69]) = false := by decide +kernel
  have el_push : ((⟨#[80, 85, 83, 72]⟩ : ByteArray).toList == [68, 79, 78, 69]) = false := by decide +kernel
  have el_closed : ((⟨#[67, 76, 79, 83, 69, 68]⟩ : ByteArray).toList == [68, 79, 78, 69]) = false := by decide +kernel
  have el_look : ((⟨#[76, 79, 79, 75]⟩ : ByteArray).toList == [68, 79, 78, 69]) = false := by decide +kernel
  have el_drop : ((⟨#[68, 82, 79, 80]⟩ : ByteArray).toList == [68, 79, 78, 69]) = false := by decide +kernel
  have el_head : ((⟨#[70, 73, 82, 83, 84]⟩ : ByteArray).toList == [68, 79, 78, 69]) = false := by decide +kernel
  have el_pop : ((⟨#[80, 79, 80]⟩ : ByteArray).toList == [68, 79, 78, 69]) = false := by decide +kernel
  have el_tell : ((⟨#[84, 69, 76, 76]⟩ : ByteArray).toList == [68, 79, 78, 69]) = false := by decide +kernel
  have el_done : ((⟨#[68, 79, 78, 69]⟩ : ByteArray).toList == [68, 79, 78, 69]) = true := by decide +kernel
  go_wp2
  go_ret
  exact HE.out

set_option maxHeartbeats 8000000 in
set_option maxRecDepth 100000 in
theorem rstep_head1 (w : World) (p pm qm : Nat) (c : ConfV) (s : QuS) (M : List Int) (t : Int) (h : RqAt w p c s) (hM : MemAt 60 w pm qm M t) (ht0 : 0 ≤ t) (ht1 : t ≤ 1000000) (hp : p ≠ pm ∧ p ≠ qm) (hn : s.nx = .head) (hm : MOk M) (hin : mQ M = []) :
    Calls Try.prog 31 #[.pointer (some ⟨p, 0, none⟩), .pointer (some ⟨pm, 0, none⟩)] w (RStep w p pm qm c ({ s with line := mQ M, e := 0, nx := .done }) (M) (t + 1)) := by
  obtain ⟨st, hst⟩ : ∃ x, x = QSt.head.str := ⟨_, rfl⟩
  have est_come : (st.toList == [67, 79, 77, 69]) = false := by rw [hst]; decide +kernel
  have est_push : (st.toList == [80, 85, 83, 72]) = false := by rw [hst]; decide +kernel
  have est_closed : (st.toList == [67, 76, 79, 83, 69, 68]) = false := by rw [hst]; decide +kernel
  have est_look : (st.toList == [76, 79, 79, 75]) = false := by rw [hst]; decide +kernel
  have est_drop : (st.toList == [68, 82, 79, 80]) = false := by rw [hst]; decide +kernel
  have est_head : (st.toList == [70, 73, 82, 83, 84]) = true := by rw [hst]; decide +kernel
  have est_pop : (st.toList == [80, 79, 80]) = false := by rw [hst]; decide +kernel
  have est_tell : (st.toList == [84, 69, 76, 76]) = false := by rw [hst]; decide +kernel
  have est_done : (st.toList == [68, 79, 78, 69]) = false := by rw [hst]; decide +kernel
  have q8 : w.cell? ⟨p, 8, none⟩ = some (.string st) := by rw [cell_of (i := 8) h rfl, hst]; show some (Value.string s.nx.str) = _; rw [hn]
  have z8 := frozen_of (i := 8) h
  have HP := Lib.hid hp
  have t1 : tch M 1 = 1 := by unfold tch; rw [if_pos (isIn_yes (by omega) (by have := hm.1; omega))]
  have hld := rload_any w pm qm M t 1 hM ht0 (by omega)
  rw [t1, hm.2.2] at hld
  obtain ⟨Q, hQ⟩ : ∃ Q, Q = mQ M := ⟨_, rfl⟩
  have HQL := Lib.hid (show Ln Q by rw [hQ]; exact hm.2.1)
  rw [← hQ] at hld hin ⊢
  have HLD := Lib.hid hld; have H := Lib.hid h
  clear h hM hn hst hp hld t1 hQ hm
  have hb : ((wd Q : Int) == 0) = true := by rw [hin]; rfl
  clear hin
  go_enter Try.func31, Try.ntmps31
  go_wp2_with fail
  refine HLD.out.mono ?_
  rintro en w1 ⟨rfl, hm1, f1⟩
  have h1 := H.out.fr f1 (by simp; exact HP.out)
  have q6 := cell_of (i := 6) h1 rfl
  have z6 := frozen_of (i := 6) h1
  have FS := (Fr.refl [p] w1).setCell (p := ⟨p, 6, none⟩) (.inl (by simp)) (.int .i64 (wd Q : Int))
  have H2 := Lib.hid (h1.setLine Q)
  have HM2 := Lib.hid (hm1.fr FS (by simp; exact Ne.symm HP.out.1) (by simp; exact Ne.symm HP.out.2))
  have HF2 := Lib.hid ((f1.mono (S' := [p, pm, qm]) (by simp +contextual)).trans (FS.mono (by simp)))
  have q8 := cell_of (i := 8) h1 rfl
  have z8 := frozen_of (i := 8) h1
  have FS2 := (Fr.refl [p] (w1.setCell ⟨p, 6, none⟩ (.int .i64 (wd Q : Int)))).setCell (p := ⟨p, 8, none⟩) (.inl (by simp)) (.string QSt.pop.str)
  have H3 := Lib.hid (H2.out.setNx .pop)
  have HM3 := Lib.hid (HM2.out.fr FS2 (by simp; exact Ne.symm HP.out.1) (by simp; exact Ne.symm HP.out.2))
  have HF3 := Lib.hid (HF2.out.trans (FS2.mono (by simp)))
  clear h1 hm1 f1 FS FS2 HLD H
  have HEND := Lib.hid (rend_any ((w1.setCell ⟨p, 6, none⟩ (.int .i64 (wd Q : Int))).setCell ⟨p, 8, none⟩ (.string QSt.pop.str)) p c _ 0 H3.out)
  go_wp2_with fail
  refine HEND.out.mono ?_
  rintro en w4 ⟨rfl, h4, f4⟩
  obtain ⟨sd, hsd⟩ : ∃ x, x = QSt.done.str := ⟨_, rfl⟩
  have esd_done : (sd.toList == [68, 79, 78, 69]) = true := by rw [hsd]; decide +kernel
  have r8 : w4.cell? ⟨p, 8, none⟩ = some (.string sd) := by rw [cell_of (i := 8) h4 rfl, hsd]; rfl
  have HE := Lib.hid (show RStep w p pm qm c { s with line := Q, e := 0, nx := .done } M (t + 1) (.returned (.bool true)) w4 from ⟨rfl, h4, HM3.out.fr f4 (by simp; exact Ne.symm HP.out.1) (by simp; exact Ne.symm HP.out.2), HF3.out.trans (f4.mono (by simp))⟩)
  clear hsd h4 f4 HEND
  go_wp2
  go_ret
  exact HE.out

set_option maxHeartbeats 8000000 in
set_option maxRecDepth 100000 in
theorem rstep_head0 (w : World) (p pm qm : Nat) (c : ConfV) (s : QuS) (M : List Int) (t : Int) (h : RqAt w p c s) (hM : MemAt 60 w pm qm M t) (ht0 : 0 ≤ t) (ht1 : t ≤ 1000000) (hp : p ≠ pm ∧ p ≠ qm) (hn : s.nx = .head) (hm : MOk M) (hin : mQ M ≠ []) :
    Calls Try.prog 31 #[.pointer (some ⟨p, 0, none⟩), .pointer (some ⟨pm, 0, none⟩)] w (RStep w p pm qm c ({ s with line := mQ M, nx := .pop }) (M) (t + 1)) := by
  obtain ⟨st, hst⟩ : ∃ x, x = QSt.head.str := ⟨_, rfl⟩
  have est_come : (st.toList == [67, 79, 77, 69]) = false := by rw [hst]; decide +kernel
  have est_push : (st.toList == [80, 85, 83, 72]) = false := by rw [hst]; decide +kernel
  have est_closed : (st.toList == [67, 76, 79, 83, 69, 68]) = false := by rw [hst]; decide +kernel
  have est_look : (st.toList == [76, 79, 79, 75]) = false := by rw [hst]; decide +kernel
  have est_drop : (st.toList == [68, 82, 79, 80]) = false := by rw [hst]; decide +kernel
  have est_head : (st.toList == [70, 73, 82, 83, 84]) = true := by rw [hst]; decide +kernel
  have est_pop : (st.toList == [80, 79, 80]) = false := by rw [hst]; decide +kernel
  have est_tell : (st.toList == [84, 69, 76, 76]) = false := by rw [hst]; decide +kernel
  have est_done : (st.toList == [68, 79, 78, 69]) = false := by rw [hst]; decide +kernel
  have q8 : w.cell? ⟨p, 8, none⟩ = some (.string st) := by rw [cell_of (i := 8) h rfl, hst]; show some (Value.string s.nx.str) = _; rw [hn]
  have z8 := frozen_of (i := 8) h
  have HP := Lib.hid hp
  have t1 : tch M 1 = 1 := by unfold tch; rw [if_pos (isIn_yes (by omega) (by have := hm.1; omega))]
  have hld := rload_any w pm qm M t 1 hM ht0 (by omega)
  rw [t1, hm.2.2] at hld
  obtain ⟨Q, hQ⟩ : ∃ Q, Q = mQ M := ⟨_, rfl⟩
  have HQL := Lib.hid (show Ln Q by rw [hQ]; exact hm.2.1)
  rw [← hQ] at hld hin ⊢
  have HLD := Lib.hid hld; have H := Lib.hid h
  clear h hM hn hst hp hld t1 hQ hm
  have hb : ((wd Q : Int) == 0) = false := by have := wd_pos HQL.out hin; exact beq_eq_false_iff_ne.2 (by omega)
  clear hin
  go_enter Try.func31, Try.ntmps31
  go_wp2_with fail
  refine HLD.out.mono ?_
  rintro en w1 ⟨rfl, hm1, f1⟩
  have h1 := H.out.fr f1 (by simp; exact HP.out)
  have q6 := cell_of (i := 6) h1 rfl
  have z6 := frozen_of (i := 6) h1
  have FS := (Fr.refl [p] w1).setCell (p := ⟨p, 6, none⟩) (.inl (by simp)) (.int .i64 (wd Q : Int))
  have H2 := Lib.hid (h1.setLine Q)
  have HM2 := Lib.hid (hm1.fr FS (by simp; exact Ne.symm HP.out.1) (by simp; exact Ne.symm HP.out.2))
  have HF2 := Lib.hid ((f1.mono (S' := [p, pm, qm]) (by simp +contextual)).trans (FS.mono (by simp)))
  have q8 := cell_of (i := 8) h1 rfl
  have z8 := frozen_of (i := 8) h1
  have FS2 := (Fr.refl [p] (w1.setCell ⟨p, 6, none⟩ (.int .i64 (wd Q : Int)))).setCell (p := ⟨p, 8, none⟩) (.inl (by simp)) (.string QSt.pop.str)
  have H3 := Lib.hid (H2.out.setNx .pop)
  have HM3 := Lib.hid (HM2.out.fr FS2 (by simp; exact Ne.symm HP.out.1) (by simp; exact Ne.symm HP.out.2))
  have HF3 := Lib.hid (HF2.out.trans (FS2.mono (by simp)))
  clear h1 hm1 f1 FS FS2 HLD H
  have HE := Lib.hid (show RStep w p pm qm c { s with line := Q, nx := .pop } M (t + 1) (.returned (.bool false)) ((w1.setCell ⟨p, 6, none⟩ (.int .i64 (wd Q : Int))).setCell ⟨p, 8, none⟩ (.string QSt.pop.str)) from ⟨rfl, H3.out, HM3.out, HF3.out⟩)
  have el_come : ((⟨#[67, 79, 77, 69]⟩ : ByteArray).toList == [68, 79, 78, 69]) = false := by decide +kernel
  have el_push : ((⟨#[80, 85, 83, 72]⟩ : ByteArray).toList == [68, 79, 78, 69]) = false := by decide +kernel
  have el_closed : ((⟨#[67, 76, 79, 83, 69, 68]⟩ : ByteArray).toList == [68, 79, 78, 69]) = false := by decide +kernel
  have el_look : ((⟨#[76, 79, 79, 75]⟩ : ByteArray).toList == [68, 79, 78, 69]) = false := by decide +kernel
  have el_drop : ((⟨#[68, 82, 79, 80]⟩ : ByteArray).toList == [68, 79, 78, 69]) = false := by decide +kernel
  have el_head : ((⟨#[70, 73, 82, 83, 84]⟩ : ByteArray).toList == [68, 79, 78, 69]) = false := by decide +kernel
  have el_pop : ((⟨#[80, 79, 80]⟩ : ByteArray).toList == [68, 79, 78, 69]) = false := by decide +kernel
  have el_tell : ((⟨#[84, 69, 76, 76]⟩ : ByteArray).toList == [68, 79, 78, 69]) = false := by decide +kernel
  have el_done : ((⟨#[68, 79, 78, 69]⟩ : ByteArray).toList == [68, 79, 78, 69]) = true := by decide +kernel
  go_wp2
  go_ret
  exact HE.out

end Go.Proofs.Ytdpefnebghljoaa
