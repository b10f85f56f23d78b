/- The queue of workers: its states. -/
import Derived.Test.YtdpefnebghljoaaQuA
namespace Go.Proofs.Ytdpefnebghljoaa
open Go.RowKit

theorem QuAt.setWhy {w : World} {p : Nat} {c : ConfV} {s : QuS} (h : QuAt w p c s) (e : Int) : QuAt (w.setCell ⟨p, 9, none⟩ (.int .i64 e)) p c { s with why := e } := by
  have hb := heap_setCell_same (i := 9) h (.int .i64 e)
  simp only [List.setIfInBounds_toArray, List.set_cons_zero, List.set_cons_succ] at hb
  exact hb
theorem QuAt.setFirst {w : World} {p : Nat} {c : ConfV} {s : QuS} (h : QuAt w p c s) (e : Int) : QuAt (w.setCell ⟨p, 7, none⟩ (.int .i64 e)) p c { s with first := e } := by
  have hb := heap_setCell_same (i := 7) h (.int .i64 e)
  simp only [List.setIfInBounds_toArray, List.set_cons_zero, List.set_cons_succ] at hb
  exact hb
theorem QuAt.setNx {w : World} {p : Nat} {c : ConfV} {s : QuS} (h : QuAt w p c s) (n : QSt) : QuAt (w.setCell ⟨p, 8, none⟩ (n.val p)) p c { s with nx := n } := by
  have hb := heap_setCell_same (i := 8) h (n.val p)
  simp only [List.setIfInBounds_toArray, List.set_cons_zero, List.set_cons_succ] at hb
  exact hb

set_option maxHeartbeats 4000000 in
set_option maxRecDepth 100000 in
theorem qclosed_any (w : World) (p pm qm : Nat) (c : ConfV) (s : QuS) (M : List Int) (t : Int) (h : QuAt w p c s) (hM : MemAt 83 w pm qm M t) (ht0 : 0 ≤ t) (ht1 : t ≤ 1000000) (hp : p ≠ pm ∧ p ≠ qm) :
    Calls Try.prog 64 #[.pointer (some ⟨p, 0, none⟩), .pointer (some ⟨pm, 0, none⟩)] w
      (QPost w p pm qm c (if loadV M 0 = 0 then { s with e := 0 } else { s with why := 5 }) (if loadV M 0 = 0 then .done else .look) M (t + tch M 0)) := by
  by_cases h0 : loadV M 0 = 0
  · rw [if_pos h0, if_pos h0]
    have HLD := Lib.hid (load_any w pm qm M t 0 hM ht0 (by omega))
    have H := Lib.hid h; have HP := Lib.hid hp
    clear h hM
    go_enter Try.func64, Try.ntmps64
    go_wp2_with fail
    refine HLD.out.mono ?_
    rintro en w1 ⟨rfl, hm1, f1⟩
    have H1 := Lib.hid (H.out.fr f1 (by simp; exact HP.out))
    have HM1 := Lib.hid hm1; have HF1 := Lib.hid (f1.mono (S' := [p, pm, qm]) (by simp +contextual))
    clear hm1 f1
    have HE := Lib.hid (qend_any w1 p c s 0 H1.out)
    rw [h0]
    go_wp2_with fail
    refine HE.out.mono ?_
    rintro en w4 ⟨rfl, h4, f4⟩
    have HQ := Lib.hid (show QPost w p pm qm c { s with e := 0 } .done M (t + tch M 0) (.returned .nilFunc) w4 from ⟨rfl, h4, HM1.out.fr f4 (by simp; exact Ne.symm HP.out.1) (by simp; exact Ne.symm HP.out.2), HF1.out.trans (f4.mono (by simp))⟩)
    clear h4 f4
    go_wp2
    go_ret
    exact HQ.out
  · rw [if_neg h0, if_neg h0]
    have HLD := Lib.hid (load_any w pm qm M t 0 hM ht0 (by omega))
    have H := Lib.hid h; have HP := Lib.hid hp
    clear h hM
    go_enter Try.func64, Try.ntmps64
    go_wp2_with fail
    refine HLD.out.mono ?_
    rintro en w1 ⟨rfl, hm1, f1⟩
    have H1 := Lib.hid (H.out.fr f1 (by simp; exact HP.out))
    have HM1 := Lib.hid hm1; have HF1 := Lib.hid (f1.mono (S' := [p, pm, qm]) (by simp +contextual))
    clear hm1 f1
    have q9 := cell_of (i := 9) H1.out rfl
    have z9 := frozen_of (i := 9) H1.out
    have HQ := Lib.hid (show QPost w p pm qm c { s with why := 5 } .look M (t + tch M 0) (.returned (QSt.look.val p)) (w1.setCell ⟨p, 9, none⟩ (.int .i64 5)) from ⟨rfl, H1.out.setWhy 5, HM1.out.fr ((Fr.refl [p] w1).setCell (p := ⟨p, 9, none⟩) (.inl (by simp)) _) (by simp; exact Ne.symm HP.out.1) (by simp; exact Ne.symm HP.out.2), HF1.out.setCell (p := ⟨p, 9, none⟩) (.inl (by simp)) _⟩)
    go_wp2
    go_ret
    exact HQ.out

set_option maxHeartbeats 4000000 in
set_option maxRecDepth 100000 in
theorem qpush_any (w : World) (p pm qm : Nat) (c : ConfV) (s : QuS) (M : List Int) (t : Int) (h : QuAt w p c s) (hM : MemAt 83 w pm qm M t) (ht0 : 0 ≤ t) (ht1 : t ≤ 1000000) (hp : p ≠ pm ∧ p ≠ qm) (hL : Ln s.line) :
    Calls Try.prog 54 #[.pointer (some ⟨p, 0, none⟩), .pointer (some ⟨pm, 0, none⟩)] w
      (QPost w p pm qm c (if Ln (s.line ++ [s.w]) ∧ casB M 1 (wd s.line) = true then s else s) (if Ln (s.line ++ [s.w]) ∧ casB M 1 (wd s.line) = true then .closed else .come) (if Ln (s.line ++ [s.w]) then casL M 1 (wd s.line) (wd (pushL s.line s.w) : Int) else M) (if Ln (s.line ++ [s.w]) then t + tch M 1 else t)) := by
  by_cases hok : Ln (s.line ++ [s.w])
  · have HOKD := Lib.hid (show decide (Ln (s.line ++ [s.w])) = true from decide_eq_true hok)
    by_cases hcs : casB M 1 (wd s.line) = true
    · rw [if_pos ⟨hok, hcs⟩, if_pos ⟨hok, hcs⟩, if_pos hok, if_pos hok]
      have HCS := Lib.hid (show casB M 1 (wd s.line) = true from hcs)
      clear hok hcs
      have q6 := cell_of (i := 6) h rfl
      have q5 := cell_of (i := 5) h rfl
      have HC := Lib.hid (push_L w.drew s.line s.w hL)
      have H := Lib.hid h; have HP := Lib.hid hp; have HM := Lib.hid hM
      clear h hM
      go_enter Try.func54, Try.ntmps54
      go_wp2_with fail
      go_region_held3 (fun w' => w'.cell? ⟨p, 6, none⟩ = some (.int .i64 (wd s.line : Int)) ∧ w'.cell? ⟨p, 5, none⟩ = some (.int .i64 s.w)) (first | go_keep | exact ⟨f3.cell q6 (by simp), f3.cell q5 (by simp)⟩)
        (first | (go_at_call 62; refine HC.out.mono ?_; rintro en w3 ⟨rfl, f3⟩; rw [HOKD.out]))
      have F3 := (Fr.refl [] w).drew.trans f3
      have H3 := Lib.hid (H.out.fr F3 (by simp)); have HM3 := Lib.hid (HM.out.fr F3 (by simp) (by simp)); have HF3 := Lib.hid (F3.mono (S' := [p, pm, qm]) (by simp))
      have r6 := F3.cell q6 (by simp)
      clear q6 q5 f3 F3
      have hcas := cas_any w3 pm qm M t 1 (wd s.line) (wd (pushL s.line s.w) : Int) HM3.out ht0 (by omega)
      rw [HCS.out] at hcas
      have HCAS := Lib.hid hcas
      clear hcas
      go_wp2_with fail
      refine HCAS.out.mono ?_
      rintro en w4 ⟨rfl, hm4, f4⟩
      have H4 := Lib.hid (H3.out.fr f4 (by simp; exact HP.out)); have HM4 := Lib.hid hm4; have HF4 := Lib.hid (HF3.out.trans (f4.mono (S' := [p, pm, qm]) (by simp +contextual)))
      clear r6 hm4 f4
      have HQ := Lib.hid (show QPost w p pm qm c s .closed _ _ (.returned (QSt.val p .closed)) w4 from ⟨rfl, H4.out, HM4.out, HF4.out⟩)
      go_wp2
      go_ret
      exact HQ.out
    · rw [if_neg (fun e => hcs e.2), if_neg (fun e => hcs e.2), if_pos hok, if_pos hok]
      have HCS := Lib.hid (show casB M 1 (wd s.line) = false from (by simpa using hcs))
      clear hok hcs
      have q6 := cell_of (i := 6) h rfl
      have q5 := cell_of (i := 5) h rfl
      have HC := Lib.hid (push_L w.drew s.line s.w hL)
      have H := Lib.hid h; have HP := Lib.hid hp; have HM := Lib.hid hM
      clear h hM
      go_enter Try.func54, Try.ntmps54
      go_wp2_with fail
      go_region_held3 (fun w' => w'.cell? ⟨p, 6, none⟩ = some (.int .i64 (wd s.line : Int)) ∧ w'.cell? ⟨p, 5, none⟩ = some (.int .i64 s.w)) (first | go_keep | exact ⟨f3.cell q6 (by simp), f3.cell q5 (by simp)⟩)
        (first | (go_at_call 62; refine HC.out.mono ?_; rintro en w3 ⟨rfl, f3⟩; rw [HOKD.out]))
      have F3 := (Fr.refl [] w).drew.trans f3
      have H3 := Lib.hid (H.out.fr F3 (by simp)); have HM3 := Lib.hid (HM.out.fr F3 (by simp) (by simp)); have HF3 := Lib.hid (F3.mono (S' := [p, pm, qm]) (by simp))
      have r6 := F3.cell q6 (by simp)
      clear q6 q5 f3 F3
      have hcas := cas_any w3 pm qm M t 1 (wd s.line) (wd (pushL s.line s.w) : Int) HM3.out ht0 (by omega)
      rw [HCS.out] at hcas
      have HCAS := Lib.hid hcas
      clear hcas
      go_wp2_with fail
      refine HCAS.out.mono ?_
      rintro en w4 ⟨rfl, hm4, f4⟩
      have H4 := Lib.hid (H3.out.fr f4 (by simp; exact HP.out)); have HM4 := Lib.hid hm4; have HF4 := Lib.hid (HF3.out.trans (f4.mono (S' := [p, pm, qm]) (by simp +contextual)))
      clear r6 hm4 f4
      have HQ := Lib.hid (show QPost w p pm qm c s .come _ _ (.returned (QSt.val p .come)) w4 from ⟨rfl, H4.out, HM4.out, HF4.out⟩)
      go_wp2
      go_ret
      exact HQ.out
  · have HOKD := Lib.hid (show decide (Ln (s.line ++ [s.w])) = false from decide_eq_false hok)
    rw [if_neg (fun e => hok e.1), if_neg (fun e => hok e.1), if_neg hok, if_neg hok]
    clear hok
    have q6 := cell_of (i := 6) h rfl
    have q5 := cell_of (i := 5) h rfl
    have HC := Lib.hid (push_L w.drew s.line s.w hL)
    have H := Lib.hid h; have HP := Lib.hid hp; have HM := Lib.hid hM
    clear h hM
    go_enter Try.func54, Try.ntmps54
    go_wp2_with fail
    go_region_held3 (fun w' => w'.cell? ⟨p, 6, none⟩ = some (.int .i64 (wd s.line : Int)) ∧ w'.cell? ⟨p, 5, none⟩ = some (.int .i64 s.w)) (first | go_keep | exact ⟨f3.cell q6 (by simp), f3.cell q5 (by simp)⟩)
      (first | (go_at_call 62; refine HC.out.mono ?_; rintro en w3 ⟨rfl, f3⟩; rw [HOKD.out]))
    have F3 := (Fr.refl [] w).drew.trans f3
    have H3 := Lib.hid (H.out.fr F3 (by simp)); have HM3 := Lib.hid (HM.out.fr F3 (by simp) (by simp)); have HF3 := Lib.hid (F3.mono (S' := [p, pm, qm]) (by simp))
    have r6 := F3.cell q6 (by simp)
    clear q6 q5 f3 F3
    have HQ := Lib.hid (show QPost w p pm qm c s .come M t (.returned (QSt.val p .come)) w3 from ⟨rfl, H3.out, HM3.out, HF3.out⟩)
    go_wp2
    go_ret
    exact HQ.out

set_option maxHeartbeats 4000000 in
set_option maxRecDepth 100000 in
theorem qdrop_any (w : World) (p pm qm : Nat) (c : ConfV) (s : QuS) (M : List Int) (t : Int) (h : QuAt w p c s) (hM : MemAt 83 w pm qm M t) (ht0 : 0 ≤ t) (ht1 : t ≤ 1000000) (hp : p ≠ pm ∧ p ≠ qm) (hL : Ln s.line) :
    Calls Try.prog 55 #[.pointer (some ⟨p, 0, none⟩), .pointer (some ⟨pm, 0, none⟩)] w
      (QPost w p pm qm c (if s.w ∈ s.line ∧ casB M 1 (wd s.line) = true then { s with e := s.why } else s) (if s.w ∈ s.line ∧ casB M 1 (wd s.line) = true then .done else .look) (if s.w ∈ s.line then casL M 1 (wd s.line) (wd (rm s.line s.w) : Int) else M) (if s.w ∈ s.line then t + tch M 1 else t)) := by
  by_cases hok : s.w ∈ s.line
  · have HOKD := Lib.hid (show decide (s.w ∈ s.line) = true from decide_eq_true hok)
    by_cases hcs : casB M 1 (wd s.line) = true
    · rw [if_pos ⟨hok, hcs⟩, if_pos ⟨hok, hcs⟩, if_pos hok, if_pos hok]
      have HCS := Lib.hid (show casB M 1 (wd s.line) = true from hcs)
      clear hok hcs
      have q6 := cell_of (i := 6) h rfl
      have q5 := cell_of (i := 5) h rfl
      have HC := Lib.hid (drop_L w.drew s.line s.w hL)
      have H := Lib.hid h; have HP := Lib.hid hp; have HM := Lib.hid hM
      clear h hM
      go_enter Try.func55, Try.ntmps55
      go_wp2_with fail
      go_region_held3 (fun w' => w'.cell? ⟨p, 6, none⟩ = some (.int .i64 (wd s.line : Int)) ∧ w'.cell? ⟨p, 5, none⟩ = some (.int .i64 s.w)) (first | go_keep | exact ⟨f3.cell q6 (by simp), f3.cell q5 (by simp)⟩)
        (first | (go_at_call 65; refine HC.out.mono ?_; rintro en w3 ⟨rfl, f3⟩; rw [HOKD.out]))
      have F3 := (Fr.refl [] w).drew.trans f3
      have H3 := Lib.hid (H.out.fr F3 (by simp)); have HM3 := Lib.hid (HM.out.fr F3 (by simp) (by simp)); have HF3 := Lib.hid (F3.mono (S' := [p, pm, qm]) (by simp))
      have r6 := F3.cell q6 (by simp)
      clear q6 q5 f3 F3
      have hcas := cas_any w3 pm qm M t 1 (wd s.line) (wd (rm s.line s.w) : Int) HM3.out ht0 (by omega)
      rw [HCS.out] at hcas
      have HCAS := Lib.hid hcas
      clear hcas
      go_wp2_with fail
      refine HCAS.out.mono ?_
      rintro en w4 ⟨rfl, hm4, f4⟩
      have H4 := Lib.hid (H3.out.fr f4 (by simp; exact HP.out)); have HM4 := Lib.hid hm4; have HF4 := Lib.hid (HF3.out.trans (f4.mono (S' := [p, pm, qm]) (by simp +contextual)))
      clear r6 hm4 f4
      have q9 := cell_of (i := 9) H4.out rfl
      have HE := Lib.hid (qend_any w4 p c s s.why H4.out)
      go_wp2_with fail
      refine HE.out.mono ?_
      rintro en w5 ⟨rfl, h5, f5⟩
      have HQ := Lib.hid (show QPost w p pm qm c { s with e := s.why } .done _ _ (.returned .nilFunc) w5 from ⟨rfl, h5, HM4.out.fr f5 (by simp; exact Ne.symm HP.out.1) (by simp; exact Ne.symm HP.out.2), HF4.out.trans (f5.mono (by simp))⟩)
      clear h5 f5
      go_wp2
      go_ret
      exact HQ.out
    · rw [if_neg (fun e => hcs e.2), if_neg (fun e => hcs e.2), if_pos hok, if_pos hok]
      have HCS := Lib.hid (show casB M 1 (wd s.line) = false from (by simpa using hcs))
      clear hok hcs
      have q6 := cell_of (i := 6) h rfl
      have q5 := cell_of (i := 5) h rfl
      have HC := Lib.hid (drop_L w.drew s.line s.w hL)
      have H := Lib.hid h; have HP := Lib.hid hp; have HM := Lib.hid hM
      clear h hM
      go_enter Try.func55, Try.ntmps55
      go_wp2_with fail
      go_region_held3 (fun w' => w'.cell? ⟨p, 6, none⟩ = some (.int .i64 (wd s.line : Int)) ∧ w'.cell? ⟨p, 5, none⟩ = some (.int .i64 s.w)) (first | go_keep | exact ⟨f3.cell q6 (by simp), f3.cell q5 (by simp)⟩)
        (first | (go_at_call 65; refine HC.out.mono ?_; rintro en w3 ⟨rfl, f3⟩; rw [HOKD.out]))
      have F3 := (Fr.refl [] w).drew.trans f3
      have H3 := Lib.hid (H.out.fr F3 (by simp)); have HM3 := Lib.hid (HM.out.fr F3 (by simp) (by simp)); have HF3 := Lib.hid (F3.mono (S' := [p, pm, qm]) (by simp))
      have r6 := F3.cell q6 (by simp)
      clear q6 q5 f3 F3
      have hcas := cas_any w3 pm qm M t 1 (wd s.line) (wd (rm s.line s.w) : Int) HM3.out ht0 (by omega)
      rw [HCS.out] at hcas
      have HCAS := Lib.hid hcas
      clear hcas
      go_wp2_with fail
      refine HCAS.out.mono ?_
      rintro en w4 ⟨rfl, hm4, f4⟩
      have H4 := Lib.hid (H3.out.fr f4 (by simp; exact HP.out)); have HM4 := Lib.hid hm4; have HF4 := Lib.hid (HF3.out.trans (f4.mono (S' := [p, pm, qm]) (by simp +contextual)))
      clear r6 hm4 f4
      have HQ := Lib.hid (show QPost w p pm qm c s .look _ _ (.returned (QSt.val p .look)) w4 from ⟨rfl, H4.out, HM4.out, HF4.out⟩)
      go_wp2
      go_ret
      exact HQ.out
  · have HOKD := Lib.hid (show decide (s.w ∈ s.line) = false from decide_eq_false hok)
    rw [if_neg (fun e => hok e.1), if_neg (fun e => hok e.1), if_neg hok, if_neg hok]
    clear hok
    have q6 := cell_of (i := 6) h rfl
    have q5 := cell_of (i := 5) h rfl
    have HC := Lib.hid (drop_L w.drew s.line s.w hL)
    have H := Lib.hid h; have HP := Lib.hid hp; have HM := Lib.hid hM
    clear h hM
    go_enter Try.func55, Try.ntmps55
    go_wp2_with fail
    go_region_held3 (fun w' => w'.cell? ⟨p, 6, none⟩ = some (.int .i64 (wd s.line : Int)) ∧ w'.cell? ⟨p, 5, none⟩ = some (.int .i64 s.w)) (first | go_keep | exact ⟨f3.cell q6 (by simp), f3.cell q5 (by simp)⟩)
      (first | (go_at_call 65; refine HC.out.mono ?_; rintro en w3 ⟨rfl, f3⟩; rw [HOKD.out]))
    have F3 := (Fr.refl [] w).drew.trans f3
    have H3 := Lib.hid (H.out.fr F3 (by simp)); have HM3 := Lib.hid (HM.out.fr F3 (by simp) (by simp)); have HF3 := Lib.hid (F3.mono (S' := [p, pm, qm]) (by simp))
    have r6 := F3.cell q6 (by simp)
    clear q6 q5 f3 F3
    have HQ := Lib.hid (show QPost w p pm qm c s .look M t (.returned (QSt.val p .look)) w3 from ⟨rfl, H3.out, HM3.out, HF3.out⟩)
    go_wp2
    go_ret
    exact HQ.out

end Go.Proofs.Ytdpefnebghljoaa
