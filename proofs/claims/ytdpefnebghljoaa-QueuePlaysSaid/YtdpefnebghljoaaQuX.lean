/- The document's Queue: its step, beside the Queue's. -/
import Derived.Test.YtdpefnebghljoaaQuW
namespace Go.Proofs.Ytdpefnebghljoaa
open Go.RowKit

theorem str_done (n : QSt) : (n.str.toList == [68, 79, 78, 69]) = n.isDone := by cases n <;> decide +kernel
set_option maxHeartbeats 8000000 in
set_option maxRecDepth 100000 in
theorem rstep_sw_push (w : World) (p pm qm : Nat) (c : ConfV) (s s' : QuS) (M' : List Int) (t' : Int) (h : RqAt w p c s) (hn : s.nx = .push)
    (hS : Calls Try.prog 46 #[.pointer (some ⟨p, 0, none⟩), .pointer (some ⟨pm, 0, none⟩)] w (SwPost w p pm qm c s' M' t')) :
    Calls Try.prog 31 #[.pointer (some ⟨p, 0, none⟩), .pointer (some ⟨pm, 0, none⟩)] w (RStep w p pm qm c s' M' t') := by
  obtain ⟨st, hst⟩ : ∃ x, x = QSt.push.str := ⟨_, rfl⟩
  have est_come : (st.toList == [67, 79, 77, 69]) = false := by rw [hst]; decide +kernel
  have est_push : (st.toList == [80, 85, 83, 72]) = true := by rw [hst]; decide +kernel
  have est_closed : (st.toList == [67, 76, 79, 83, 69, 68]) = false := by rw [hst]; decide +kernel
  have est_look : (st.toList == [76, 79, 79, 75]) = false := by rw [hst]; decide +kernel
  have est_drop : (st.toList == [68, 82, 79, 80]) = false := by rw [hst]; decide +kernel
  have est_head : (st.toList == [70, 73, 82, 83, 84]) = false := by rw [hst]; decide +kernel
  have est_pop : (st.toList == [80, 79, 80]) = false := by rw [hst]; decide +kernel
  have est_tell : (st.toList == [84, 69, 76, 76]) = false := by rw [hst]; decide +kernel
  have est_done : (st.toList == [68, 79, 78, 69]) = false := by rw [hst]; decide +kernel
  have q8 : w.cell? ⟨p, 8, none⟩ = some (.string st) := by rw [cell_of (i := 8) h rfl, hst]; show some (Value.string s.nx.str) = _; rw [hn]
  have z8 := frozen_of (i := 8) h
  have HS := Lib.hid hS
  clear h hn hst hS
  go_enter Try.func31, Try.ntmps31
  go_wp2_with fail
  refine HS.out.mono ?_
  rintro en w1 ⟨rfl, h1, hm1, f1⟩
  obtain ⟨sd, hsd⟩ : ∃ x, x = s'.nx.str := ⟨_, rfl⟩
  obtain ⟨b, hb⟩ : ∃ b, b = s'.nx.isDone := ⟨_, rfl⟩
  have esd : (sd.toList == [68, 79, 78, 69]) = b := by rw [hsd, hb]; exact str_done _
  have r8 : w1.cell? ⟨p, 8, none⟩ = some (.string sd) := by rw [cell_of (i := 8) h1 rfl, hsd]; rfl
  have HE := Lib.hid (show RStep w p pm qm c s' M' t' (.returned (.bool b)) w1 from ⟨by rw [hb], h1, hm1, f1⟩)
  clear hsd hb h1 hm1 f1 HS
  go_wp2
  go_ret
  exact HE.out
set_option maxHeartbeats 8000000 in
set_option maxRecDepth 100000 in
theorem rstep_sw_drop (w : World) (p pm qm : Nat) (c : ConfV) (s s' : QuS) (M' : List Int) (t' : Int) (h : RqAt w p c s) (hn : s.nx = .drop)
    (hS : Calls Try.prog 46 #[.pointer (some ⟨p, 0, none⟩), .pointer (some ⟨pm, 0, none⟩)] w (SwPost w p pm qm c s' M' t')) :
    Calls Try.prog 31 #[.pointer (some ⟨p, 0, none⟩), .pointer (some ⟨pm, 0, none⟩)] w (RStep w p pm qm c s' M' t') := by
  obtain ⟨st, hst⟩ : ∃ x, x = QSt.drop.str := ⟨_, rfl⟩
  have est_come : (st.toList == [67, 79, 77, 69]) = false := by rw [hst]; decide +kernel
  have est_push : (st.toList == [80, 85, 83, 72]) = false := by rw [hst]; decide +kernel
  have est_closed : (st.toList == [67, 76, 79, 83, 69, 68]) = false := by rw [hst]; decide +kernel
  have est_look : (st.toList == [76, 79, 79, 75]) = false := by rw [hst]; decide +kernel
  have est_drop : (st.toList == [68, 82, 79, 80]) = true := by rw [hst]; decide +kernel
  have est_head : (st.toList == [70, 73, 82, 83, 84]) = false := by rw [hst]; decide +kernel
  have est_pop : (st.toList == [80, 79, 80]) = false := by rw [hst]; decide +kernel
  have est_tell : (st.toList == [84, 69, 76, 76]) = false := by rw [hst]; decide +kernel
  have est_done : (st.toList == [68, 79, 78, 69]) = false := by rw [hst]; decide +kernel
  have q8 : w.cell? ⟨p, 8, none⟩ = some (.string st) := by rw [cell_of (i := 8) h rfl, hst]; show some (Value.string s.nx.str) = _; rw [hn]
  have z8 := frozen_of (i := 8) h
  have HS := Lib.hid hS
  clear h hn hst hS
  go_enter Try.func31, Try.ntmps31
  go_wp2_with fail
  refine HS.out.mono ?_
  rintro en w1 ⟨rfl, h1, hm1, f1⟩
  obtain ⟨sd, hsd⟩ : ∃ x, x = s'.nx.str := ⟨_, rfl⟩
  obtain ⟨b, hb⟩ : ∃ b, b = s'.nx.isDone := ⟨_, rfl⟩
  have esd : (sd.toList == [68, 79, 78, 69]) = b := by rw [hsd, hb]; exact str_done _
  have r8 : w1.cell? ⟨p, 8, none⟩ = some (.string sd) := by rw [cell_of (i := 8) h1 rfl, hsd]; rfl
  have HE := Lib.hid (show RStep w p pm qm c s' M' t' (.returned (.bool b)) w1 from ⟨by rw [hb], h1, hm1, f1⟩)
  clear hsd hb h1 hm1 f1 HS
  go_wp2
  go_ret
  exact HE.out
set_option maxHeartbeats 8000000 in
set_option maxRecDepth 100000 in
theorem rstep_sw_pop (w : World) (p pm qm : Nat) (c : ConfV) (s s' : QuS) (M' : List Int) (t' : Int) (h : RqAt w p c s) (hn : s.nx = .pop)
    (hS : Calls Try.prog 46 #[.pointer (some ⟨p, 0, none⟩), .pointer (some ⟨pm, 0, none⟩)] w (SwPost w p pm qm c s' M' t')) :
    Calls Try.prog 31 #[.pointer (some ⟨p, 0, none⟩), .pointer (some ⟨pm, 0, none⟩)] w (RStep w p pm qm c s' M' t') := by
  obtain ⟨st, hst⟩ : ∃ x, x = QSt.pop.str := ⟨_, rfl⟩
  have est_come : (st.toList == [67, 79, 77, 69]) = false := by rw [hst]; decide +kernel
  have est_push : (st.toList == [80, 85, 83, 72]) = false := by rw [hst]; decide +kernel
  have est_closed : (st.toList == [67, 76, 79, 83, 69, 68]) = false := by rw [hst]; decide +kernel
  have est_look : (st.toList == [76, 79, 79, 75]) = false := by rw [hst]; decide +kernel
  have est_drop : (st.toList == [68, 82, 79, 80]) = false := by rw [hst]; decide +kernel
  have est_head : (st.toList == [70, 73, 82, 83, 84]) = false := by rw [hst]; decide +kernel
  have est_pop : (st.toList == [80, 79, 80]) = true := by rw [hst]; decide +kernel
  have est_tell : (st.toList == [84, 69, 76, 76]) = false := by rw [hst]; decide +kernel
  have est_done : (st.toList == [68, 79, 78, 69]) = false := by rw [hst]; decide +kernel
  have q8 : w.cell? ⟨p, 8, none⟩ = some (.string st) := by rw [cell_of (i := 8) h rfl, hst]; show some (Value.string s.nx.str) = _; rw [hn]
  have z8 := frozen_of (i := 8) h
  have HS := Lib.hid hS
  clear h hn hst hS
  go_enter Try.func31, Try.ntmps31
  go_wp2_with fail
  refine HS.out.mono ?_
  rintro en w1 ⟨rfl, h1, hm1, f1⟩
  obtain ⟨sd, hsd⟩ : ∃ x, x = s'.nx.str := ⟨_, rfl⟩
  obtain ⟨b, hb⟩ : ∃ b, b = s'.nx.isDone := ⟨_, rfl⟩
  have esd : (sd.toList == [68, 79, 78, 69]) = b := by rw [hsd, hb]; exact str_done _
  have r8 : w1.cell? ⟨p, 8, none⟩ = some (.string sd) := by rw [cell_of (i := 8) h1 rfl, hsd]; rfl
  have HE := Lib.hid (show RStep w p pm qm c s' M' t' (.returned (.bool b)) w1 from ⟨by rw [hb], h1, hm1, f1⟩)
  clear hsd hb h1 hm1 f1 HS
  go_wp2
  go_ret
  exact HE.out
/-- What the document's Queue may rest on. -/
def RqOk (c : ConfV) (s : QuS) : Prop := Ln s.line ∧ (s.nx = .push → Ln (s.line ++ [s.w])) ∧ ((s.nx = .pop ∨ s.nx = .tell) → s.line ≠ []) ∧ (s.nx = .tell → headI s.line < c.wo)
/-- The contract of one step of the document's. -/
theorem rstep_fn (w : World) (p pm qm : Nat) (c : ConfV) (s : QuS) (M : List Int) (t : Int) (h : RqAt w p c s) (hM : MemAt 60 w pm qm M t) (ht0 : 0 ≤ t) (ht1 : t ≤ 1000000) (hp : p ≠ pm ∧ p ≠ qm) (hc : c.fits) (hs : RqOk c s) (hm : MOk M) (hlen : 3 + 2 * c.wo ≤ (M.length : Int)) :
    Calls Try.prog 31 #[.pointer (some ⟨p, 0, none⟩), .pointer (some ⟨pm, 0, none⟩)] w
      (RStep w p pm qm c (rNext c s M).1 (rNext c s M).2 (t + qT s)) := by
  obtain ⟨hl, hpu, hpo, hte⟩ := hs
  have hcq := casq_iff hm hl
  cases hn : s.nx with
  | come =>
    by_cases hin : s.w ∈ mQ M
    · have := rstep_come_in w p pm qm c s M t h hM ht0 ht1 hp hn hm hin
      rw [show rNext c s M = ({ s with line := mQ M, e := 7, nx := .done }, M) by unfold rNext; rw [hn]; simp only; rw [if_pos (.inr hin)], show qT s = 1 by unfold qT; rw [hn]]; exact this
    · by_cases hfu : c.wa ≤ ((mQ M).length : Int)
      · have := rstep_come_full w p pm qm c s M t h hM ht0 ht1 hp hn hm hin hfu
        rw [show rNext c s M = ({ s with line := mQ M, e := 7, nx := .done }, M) by unfold rNext; rw [hn]; simp only; rw [if_pos (.inl hfu)], show qT s = 1 by unfold qT; rw [hn]]; exact this
      · have := rstep_come_room w p pm qm c s M t h hM ht0 ht1 hp hn hm hin hfu
        rw [show rNext c s M = ({ s with line := mQ M, nx := .push }, M) by unfold rNext; rw [hn]; simp only; rw [if_neg (fun e => e.elim hfu hin)], show qT s = 1 by unfold qT; rw [hn]]; exact this
  | push =>
    by_cases e : mQ M = s.line
    · have := rstep_sw_push w p pm qm c s _ _ _ h hn (rswaps_push1 w p pm qm c s M t h hM ht0 ht1 hp hn hm (hpu hn) hl (by rw [hcq]; exact decide_eq_true e))
      rw [show rNext c s M = ({ s with nx := .closed }, M.set 1 (wd (s.line ++ [s.w]) : Int)) by unfold rNext; rw [hn]; simp only; rw [if_pos e], show qT s = 1 by unfold qT; rw [hn]]; exact this
    · have := rstep_sw_push w p pm qm c s _ _ _ h hn (rswaps_push0 w p pm qm c s M t h hM ht0 ht1 hp hn hm (hpu hn) hl (by rw [hcq]; exact decide_eq_false e))
      rw [show rNext c s M = ({ s with nx := .come }, M) by unfold rNext; rw [hn]; simp only; rw [if_neg e], show qT s = 1 by unfold qT; rw [hn]]; exact this
  | closed =>
    by_cases e : loadV M 0 = 0
    · have := rstep_closed1 w p pm qm c s M t h hM ht0 ht1 hp hn hm.1 e
      rw [show rNext c s M = ({ s with e := 0, nx := .done }, M) by unfold rNext; rw [hn]; simp only; rw [if_pos e], show qT s = 1 by unfold qT; rw [hn]]; exact this
    · have := rstep_closed0 w p pm qm c s M t h hM ht0 ht1 hp hn hm.1 e
      rw [show rNext c s M = ({ s with nx := .look }, M) by unfold rNext; rw [hn]; simp only; rw [if_neg e], show qT s = 1 by unfold qT; rw [hn]]; exact this
  | look =>
    by_cases hin : s.w ∈ mQ M
    · have := rstep_look1 w p pm qm c s M t h hM ht0 ht1 hp hn hm hin
      rw [show rNext c s M = ({ s with line := mQ M, nx := .drop }, M) by unfold rNext; rw [hn]; simp only; rw [if_pos hin], show qT s = 1 by unfold qT; rw [hn]]; exact this
    · have := rstep_look0 w p pm qm c s M t h hM ht0 ht1 hp hn hm hin
      rw [show rNext c s M = ({ s with line := mQ M, e := 8, nx := .done }, M) by unfold rNext; rw [hn]; simp only; rw [if_neg hin], show qT s = 1 by unfold qT; rw [hn]]; exact this
  | drop =>
    by_cases e : mQ M = s.line
    · have := rstep_sw_drop w p pm qm c s _ _ _ h hn (rswaps_drop1 w p pm qm c s M t h hM ht0 ht1 hp hn hm hl (by rw [hcq]; exact decide_eq_true e))
      rw [show rNext c s M = ({ s with e := s.why, nx := .done }, M.set 1 (wd (rm s.line s.w) : Int)) by unfold rNext; rw [hn]; simp only; rw [if_pos e], show qT s = 1 by unfold qT; rw [hn]]; exact this
    · have := rstep_sw_drop w p pm qm c s _ _ _ h hn (rswaps_drop0 w p pm qm c s M t h hM ht0 ht1 hp hn hm hl (by rw [hcq]; exact decide_eq_false e))
      rw [show rNext c s M = ({ s with nx := .look }, M) by unfold rNext; rw [hn]; simp only; rw [if_neg e], show qT s = 1 by unfold qT; rw [hn]]; exact this
  | head =>
    by_cases hin : mQ M = []
    · have := rstep_head1 w p pm qm c s M t h hM ht0 ht1 hp hn hm hin
      rw [show rNext c s M = ({ s with line := mQ M, e := 0, nx := .done }, M) by unfold rNext; rw [hn]; simp only; rw [if_pos hin], show qT s = 1 by unfold qT; rw [hn]]; exact this
    · have := rstep_head0 w p pm qm c s M t h hM ht0 ht1 hp hn hm hin
      rw [show rNext c s M = ({ s with line := mQ M, nx := .pop }, M) by unfold rNext; rw [hn]; simp only; rw [if_neg hin], show qT s = 1 by unfold qT; rw [hn]]; exact this
  | pop =>
    by_cases e : mQ M = s.line
    · have := rstep_sw_pop w p pm qm c s _ _ _ h hn (rswaps_pop1 w p pm qm c s M t h hM ht0 ht1 hp hn hm hl (hpo (.inl hn)) (by rw [hcq]; exact decide_eq_true e))
      rw [show rNext c s M = ({ s with nx := .tell }, M.set 1 (wd s.line.tail : Int)) by unfold rNext; rw [hn]; simp only; rw [if_pos e], show qT s = 1 by unfold qT; rw [hn]]; exact this
    · have := rstep_sw_pop w p pm qm c s _ _ _ h hn (rswaps_pop0 w p pm qm c s M t h hM ht0 ht1 hp hn hm hl (hpo (.inl hn)) (by rw [hcq]; exact decide_eq_false e))
      rw [show rNext c s M = ({ s with nx := .head }, M) by unfold rNext; rw [hn]; simp only; rw [if_neg e], show qT s = 1 by unfold qT; rw [hn]]; exact this
  | tell =>
    have hne := hpo (.inr hn)
    have hx := hte hn
    have hx0 : 0 ≤ headI s.line := by
      cases hl2 : s.line with
      | nil => exact (hne hl2).elim
      | cons a l => exact (hl.1 a (by rw [hl2]; simp)).1
    have := rstep_tell w p pm qm c s M t h hM ht0 ht1 hp hn hc hl hne hx
    have tt : tch M (3 + c.wo + headI s.line) = 1 := by unfold tch; rw [if_pos (isIn_yes (by have := hc.1; omega) (by have := hc.1; omega))]
    rw [tt] at this
    rw [show rNext c s M = ({ s with nx := .head }, storeL M (3 + c.wo + headI s.line) (-1)) by unfold rNext; rw [hn], show qT s = 1 by unfold qT; rw [hn]]; exact this
  | done =>
    have := rstep_done w p pm qm c s M t h hM ht0 ht1 hp hn
    rw [show rNext c s M = (s, M) by unfold rNext; rw [hn], show qT s = 0 by unfold qT; rw [hn], Int.add_zero]; exact this

/-- The Queue and the document's. -/
def Both (c : ConfV) (s r : QuS) : Prop := r.w = s.w ∧ r.line = s.line ∧ r.nx = s.nx ∧ r.e = s.e ∧ ((s.nx = .look ∨ s.nx = .drop) → r.why = s.why) ∧ ((s.nx = .come ∨ s.nx = .push ∨ s.nx = .closed) → r.why = 5) ∧
  ((s.nx = .pop ∨ s.nx = .tell) → s.first = headI s.line ∧ s.line ≠ []) ∧ Ln s.line ∧ (∀ x ∈ s.line, x < c.wo) ∧ (0 ≤ s.w ∧ s.w < c.wo) ∧ (s.nx = .push → s.w ∉ s.line) ∧ (s.nx = .drop → s.w ∈ s.line)
theorem Both.ok {c : ConfV} {s r : QuS} (h : Both c s r) (hwo : c.wo ≤ 8) : s.ok c ∧ RqOk c r := by
  obtain ⟨h1, h2, h3, h4, h5, h6, h7, h8, h9, h10, h11, h12⟩ := h
  have hb : ∀ x, s.line ≠ [] → headI s.line = x → 0 ≤ x ∧ x < c.wo := fun x hne hx => by
    cases hl : s.line with
    | nil => exact (hne hl).elim
    | cons a l => rw [hl] at hx; simp only [headI] at hx; rw [← hx]; exact ⟨(h8.1 a (by rw [hl]; simp)).1, h9 a (by rw [hl]; simp)⟩
  refine ⟨⟨h8, fun e => (ln_snoc h8).2 ⟨h10.1, by omega, h11 e⟩, h12, fun e => ?_⟩, ⟨by rw [h2]; exact h8, fun e => ?_, fun e => ?_, fun e => ?_⟩⟩
  · obtain ⟨hf, hne⟩ := h7 (.inr e)
    rw [hf]; exact hb _ hne rfl
  · rw [h3] at e; rw [h2, h1]; exact (ln_snoc h8).2 ⟨h10.1, by omega, h11 e⟩
  · rw [h3] at e; rw [h2]; exact (h7 e).2
  · rw [h3] at e
    obtain ⟨hf, hne⟩ := h7 (.inr e)
    rw [h2]; exact (hb _ hne rfl).2
theorem both_step {c : ConfV} {s r : QuS} {M : List Int} (h : Both c s r) (hm : MOk M) (hw : ∀ x ∈ mQ M, x < c.wo) (hwo : 1 ≤ c.wo) (hwo8 : c.wo ≤ 8) (hlen : 3 + 2 * c.wo ≤ (M.length : Int)) :
    Both c (qNext c s M).1 (rNext c r M).1 ∧ (rNext c r M).2 = (qNext c s M).2 ∧ MOk (qNext c s M).2 ∧ (∀ x ∈ mQ (qNext c s M).2, x < c.wo) ∧ (qNext c s M).2.length = M.length ∧ qT r = qT s := by
  obtain ⟨h1, h2, h3, h4, h5, h6, h7, h8, h9, h10, h11, h12⟩ := h
  obtain ⟨rw_, rl, rf, rn, ry, re⟩ := r
  obtain ⟨sw, sl, sf, sn, sy, se⟩ := s
  simp only at h1 h2 h3 h4 h5 h6 h7 h8 h9 h10 h11 h12
  subst h1 h2 h3 h4
  cases rn with
  | come =>
    have hy := h6 (.inl rfl)
    unfold qNext rNext
    dsimp only
    by_cases hf : c.wa ≤ ((mQ M).length : Int) ∨ rw_ ∈ mQ M
    · rw [if_pos hf, if_pos hf]
      exact ⟨⟨rfl, rfl, rfl, rfl, by simp, by simp, by simp, hm.2.1, hw, h10, by simp, by simp⟩, rfl, hm, hw, rfl, rfl⟩
    · rw [if_neg hf, if_neg hf]
      exact ⟨⟨rfl, rfl, rfl, rfl, by simp, fun _ => hy, by simp, hm.2.1, hw, h10, fun _ hx => hf (.inr hx), by simp⟩, rfl, hm, hw, rfl, rfl⟩
  | push =>
    have hy := h6 (.inr (.inl rfl))
    have hx := h11 rfl
    unfold qNext rNext
    dsimp only
    by_cases hf : mQ M = rl
    · rw [if_pos hf, if_pos hf]
      have h14 : rw_ ≤ 14 := by omega
      · obtain ⟨g1, g2⟩ := MOk.set (M := M) hm.1 ((ln_snoc h8).2 ⟨h10.1, h14, hx⟩)
        refine ⟨⟨rfl, rfl, rfl, rfl, by simp, fun _ => hy, by simp, h8, h9, h10, by simp, by simp⟩, rfl, g1, fun x hx => ?_, by simp, rfl⟩
        simp only at hx
        rw [g2] at hx
        rcases List.mem_append.1 hx with hx | hx
        · exact h9 x hx
        · rw [List.mem_singleton.1 hx]; exact h10.2
    · rw [if_neg hf, if_neg hf]
      exact ⟨⟨rfl, rfl, rfl, rfl, by simp, fun _ => hy, by simp, h8, h9, h10, by simp, by simp⟩, rfl, hm, hw, rfl, rfl⟩
  | closed =>
    have hy := h6 (.inr (.inr rfl))
    unfold qNext rNext
    dsimp only
    by_cases hf : loadV M 0 = 0
    · rw [if_pos hf, if_pos hf]
      exact ⟨⟨rfl, rfl, rfl, rfl, by simp, by simp, by simp, h8, h9, h10, by simp, by simp⟩, rfl, hm, hw, rfl, rfl⟩
    · rw [if_neg hf, if_neg hf]
      exact ⟨⟨rfl, rfl, rfl, rfl, fun _ => hy, by simp, by simp, h8, h9, h10, by simp, by simp⟩, rfl, hm, hw, rfl, rfl⟩
  | look =>
    have hy := h5 (.inl rfl)
    unfold qNext rNext
    dsimp only
    by_cases hf : rw_ ∈ mQ M
    · rw [if_pos hf, if_pos hf]
      exact ⟨⟨rfl, rfl, rfl, rfl, fun _ => hy, by simp, by simp, hm.2.1, hw, h10, by simp, fun _ => hf⟩, rfl, hm, hw, rfl, rfl⟩
    · rw [if_neg hf, if_neg hf]
      exact ⟨⟨rfl, rfl, rfl, rfl, by simp, by simp, by simp, hm.2.1, hw, h10, by simp, by simp⟩, rfl, hm, hw, rfl, rfl⟩
  | drop =>
    have hy := h5 (.inr rfl)
    unfold qNext rNext
    dsimp only
    by_cases hf : mQ M = rl
    · rw [if_pos hf, if_pos hf]
      obtain ⟨g1, g2⟩ := MOk.set (M := M) hm.1 (h8.rm rw_)
      refine ⟨⟨rfl, rfl, rfl, hy, by simp, by simp, by simp, h8, h9, h10, by simp, by simp⟩, rfl, g1, fun x hx => ?_, by simp, rfl⟩
      simp only at hx
      rw [g2] at hx
      exact h9 x (List.mem_filter.1 hx).1
    · rw [if_neg hf, if_neg hf]
      exact ⟨⟨rfl, rfl, rfl, rfl, fun _ => hy, by simp, by simp, h8, h9, h10, by simp, by simp⟩, rfl, hm, hw, rfl, rfl⟩
  | head =>
    unfold qNext rNext
    dsimp only
    by_cases hf : mQ M = []
    · rw [if_pos hf, if_pos hf]
      exact ⟨⟨rfl, rfl, rfl, rfl, by simp, by simp, by simp, hm.2.1, hw, h10, by simp, by simp⟩, rfl, hm, hw, rfl, rfl⟩
    · rw [if_neg hf, if_neg hf]
      exact ⟨⟨rfl, rfl, rfl, rfl, by simp, by simp, fun _ => ⟨rfl, hf⟩, hm.2.1, hw, h10, by simp, by simp⟩, rfl, hm, hw, rfl, rfl⟩
  | pop =>
    obtain ⟨hy, hne⟩ := h7 (.inl rfl)
    unfold qNext rNext
    dsimp only
    by_cases hf : mQ M = rl
    · rw [if_pos hf, if_pos hf]
      obtain ⟨g1, g2⟩ := MOk.set (M := M) hm.1 h8.tail
      refine ⟨⟨rfl, rfl, rfl, rfl, by simp, by simp, fun _ => ⟨hy, hne⟩, h8, h9, h10, by simp, by simp⟩, rfl, g1, fun x hx => ?_, by simp, rfl⟩
      simp only at hx
      rw [g2] at hx
      exact h9 x (List.mem_of_mem_tail hx)
    · rw [if_neg hf, if_neg hf]
      exact ⟨⟨rfl, rfl, rfl, rfl, by simp, by simp, by simp, h8, h9, h10, by simp, by simp⟩, rfl, hm, hw, rfl, rfl⟩
  | tell =>
    obtain ⟨hy, hne⟩ := h7 (.inr rfl)
    unfold qNext rNext
    dsimp only
    rw [hy]
    have hx0 : 0 ≤ headI rl := by
      cases rl with
      | nil => exact (hne rfl).elim
      | cons a l => exact (h8.1 a (by simp)).1
    have hq : mQ (storeL M (3 + c.wo + headI rl) (-1)) = mQ M := by unfold mQ; rw [loadV_storeL_ne (by omega) (by omega)]
    exact ⟨⟨rfl, rfl, rfl, rfl, by simp, by simp, by simp, h8, h9, h10, by simp, by simp⟩, rfl, ⟨by rw [length_storeL]; exact hm.1, by rw [hq]; exact hm.2.1, by rw [hq, loadV_storeL_ne (by omega) (by omega)]; exact hm.2.2⟩, by rw [hq]; exact hw, length_storeL _ _ _, rfl⟩
  | done =>
    unfold qNext rNext
    dsimp only
    exact ⟨⟨rfl, rfl, rfl, rfl, by simp, by simp, by simp, h8, h9, h10, by simp, by simp⟩, rfl, hm, hw, rfl, rfl⟩

end Go.Proofs.Ytdpefnebghljoaa
