/- One that drains a line alone, and one that comes while it is closed: the plain law. -/
import Derived.Test.YtdpefnebghljoaaQuN
namespace Go.Proofs.Ytdpefnebghljoaa
open Go.RowKit

theorem rgrant_any (w : World) (c : ConfV) (i : Int) (hc : c.fits) (h0 : 0 ≤ i) (h1 : i < c.wo) : Calls Try.prog 25 #[c.val, .int .i64 i] w fun e w' => e = .returned (.int .i64 (3 + c.wo + i)) ∧ Fr [] w w' := by
  obtain ⟨wo, sl, st, wa, us⟩ := c
  obtain ⟨⟨a0, a1⟩, ⟨b0, b1⟩, -⟩ := hc
  unfold ConfV.val
  simp only at a0 a1 b0 b1 h1
  have hfr := (Fr.refl [] w).alloc (.cells #[.int .i64 wo, .int .i64 sl, .int .i64 st, .int .i64 wa, .int .i64 us] 25)
  have HF := Lib.hid hfr; clear hfr
  go_enter Try.func25, Try.ntmps25
  go_wp2
  go_ret
  exact ⟨rfl, HF.out⟩

/-- Those of T, and nobody else, were told. -/
def Told (wo : Int) (M T : List Int) : Prop := ∀ i, 0 ≤ i → i < wo → loadV M (3 + wo + i) = if i ∈ T then -1 else 0
/-- What is known ahead of step j of one that drains the line Q alone. -/
def DrI (wo : Int) (Q : List Int) (j : Nat) (s : QuS) (M : List Int) : Prop :=
  ∃ T R, Q = T ++ R ∧ Told wo M T ∧ loadV M 0 = 1 ∧ Ln s.line ∧
    ((s.nx = .head ∧ j = 3 * T.length ∧ mQ M = R) ∨
     (s.nx = .pop ∧ j = 3 * T.length + 1 ∧ mQ M = R ∧ R ≠ [] ∧ s.line = R ∧ s.first = headI R) ∨
     (s.nx = .tell ∧ j = 3 * T.length + 2 ∧ R ≠ [] ∧ mQ M = R.tail ∧ s.first = headI R) ∨
     (s.nx = .done ∧ R = [] ∧ s.e = 0 ∧ mQ M = [] ∧ 3 * T.length < j))
theorem DrI.ok {wo : Int} {Q : List Int} {j : Nat} {s : QuS} {M : List Int} (h : DrI wo Q j s M) (c : ConfV) (hwo : c.wo = wo) (hw : ∀ x ∈ Q, 0 ≤ x ∧ x < wo) : s.ok c := by
  obtain ⟨T, R, hQ, -, -, hl, h⟩ := h
  refine ⟨hl, fun e => ?_, fun e => ?_, fun e => ?_⟩
  · rcases h with ⟨h, -⟩ | ⟨h, -⟩ | ⟨h, -⟩ | ⟨h, -⟩ <;> rw [h] at e <;> cases e
  · rcases h with ⟨h, -⟩ | ⟨h, -⟩ | ⟨h, -⟩ | ⟨h, -⟩ <;> rw [h] at e <;> cases e
  · rcases h with ⟨h, -⟩ | ⟨h, -⟩ | ⟨-, -, hR, -, hf⟩ | ⟨h, -⟩
    · rw [h] at e; cases e
    · rw [h] at e; cases e
    · cases R with
      | nil => exact (hR rfl).elim
      | cons x R =>
        rw [hf, hwo]
        exact hw x (by rw [hQ]; simp)
    · rw [h] at e; cases e
theorem told_set1 {wo n : Int} {M T : List Int} (hm : 2 ≤ M.length) (hwo : 1 ≤ wo) (h : Told wo M T) : Told wo (M.set 1 n) T := fun i h0 h1 => by
  rw [loadV_set1_ne hm (by omega)]; exact h i h0 h1
theorem ln_split {Q T R : List Int} (h : Ln Q) (e : Q = T ++ R) : Ln R := by
  subst e
  exact ⟨fun x hx => h.1 x (by simp [hx]), (List.nodup_append.1 h.2).2.1⟩
theorem dr_step {c : ConfV} {wo : Int} {Q : List Int} {j : Nat} {s : QuS} {M : List Int} (h : DrI wo Q j s M) (hwo : c.wo = wo) (hw1 : 1 ≤ wo) (hw : ∀ x ∈ Q, 0 ≤ x ∧ x < wo) (hQ : Ln Q) (hm : MOk M) (hlen : 3 + 2 * wo ≤ (M.length : Int)) :
    DrI wo Q (j + 1) (qNext c s M).1 (qNext c s M).2 ∧ MOk (qNext c s M).2 ∧ (qNext c s M).2.length = M.length := by
  obtain ⟨T, R, hE, ht, h0, hl, h⟩ := h
  have hR := ln_split hQ hE
  rcases h with ⟨hn, hj, hM⟩ | ⟨hn, hj, hM, hne, hsl, hf⟩ | ⟨hn, hj, hne, hM, hf⟩ | ⟨hn, he, hse, hM, hj⟩
  · by_cases hr : R = []
    · have e : qNext c s M = ({ s with line := mQ M, e := 0, nx := .done }, M) := by unfold qNext; rw [hn]; simp only; rw [if_pos (by rw [hM, hr])]
      rw [e]
      refine ⟨⟨T, R, hE, ht, h0, ?_, .inr (.inr (.inr ⟨rfl, hr, rfl, by rw [hM, hr], by omega⟩))⟩, hm, rfl⟩
      rw [hM]; exact hR
    · have e : qNext c s M = ({ s with line := mQ M, first := headI (mQ M), nx := .pop }, M) := by unfold qNext; rw [hn]; simp only; rw [if_neg (by rw [hM]; exact hr)]
      rw [e]
      refine ⟨⟨T, R, hE, ht, h0, ?_, .inr (.inl ⟨rfl, by omega, hM, hr, hM, by rw [hM]⟩)⟩, hm, rfl⟩
      rw [hM]; exact hR
  · have e : qNext c s M = ({ s with nx := .tell }, M.set 1 (wd s.line.tail : Int)) := by unfold qNext; rw [hn]; simp only; rw [if_pos (by rw [hM, hsl])]
    rw [e]
    obtain ⟨h1, h2⟩ := MOk.set (M := M) hm.1 (show Ln s.line.tail by rw [hsl]; exact hR.tail)
    refine ⟨⟨T, R, hE, told_set1 hm.1 hw1 ht, by rw [loadV_set1_ne hm.1 (by omega)]; exact h0, hl, .inr (.inr (.inl ⟨rfl, by omega, hne, by rw [h2, hsl], hf⟩))⟩, h1, by simp⟩
  · have e : qNext c s M = ({ s with nx := .head }, storeL M (3 + c.wo + s.first) (-1)) := by unfold qNext; rw [hn]
    rw [e]
    cases R with
    | nil => exact (hne rfl).elim
    | cons x R =>
      have hx := hw x (by rw [hE]; simp)
      have hxT : x ∉ T := by
        rw [hE] at hQ
        intro hx
        exact (List.nodup_append.1 hQ.2).2.2 x hx x (by simp) rfl
      rw [hf, hwo]
      simp only [headI] at *
      have hin : isIn M (3 + wo + x) = true := isIn_yes (by omega) (by omega)
      have hq : mQ (storeL M (3 + wo + x) (-1)) = mQ M := by unfold mQ; rw [loadV_storeL_ne (by omega) (by omega)]
      refine ⟨⟨T ++ [x], R, by rw [hE]; simp, fun i h2 h3 => ?_, by rw [loadV_storeL_ne (by omega) (by omega)]; exact h0, hl, .inl ⟨rfl, by simp; omega, by rw [hq, hM]; rfl⟩⟩, ⟨by rw [length_storeL]; exact hm.1, by rw [hq]; exact hm.2.1, by rw [hq, loadV_storeL_ne (by omega) (by omega)]; exact hm.2.2⟩, length_storeL _ _ _⟩
      by_cases hi : i = x
      · subst hi
        rw [loadV_storeL_same hin, if_pos (by simp)]
      · rw [loadV_storeL_ne (by omega) (by omega), ht i h2 h3]
        by_cases hiT : i ∈ T
        · rw [if_pos hiT, if_pos (by simp [hiT])]
        · rw [if_neg hiT, if_neg (by simp [hiT, hi])]
  · have e : qNext c s M = (s, M) := by unfold qNext; rw [hn]
    rw [e]
    exact ⟨⟨T, R, hE, ht, h0, hl, .inr (.inr (.inr ⟨hn, he, hse, hM, by omega⟩))⟩, hm, rfl⟩
theorem DrI.end {wo : Int} {Q : List Int} {s : QuS} {M : List Int} (h : DrI wo Q 40 s M) (hQ : Q.length ≤ 8) : s.nx = .done ∧ s.e = 0 ∧ mQ M = [] ∧ loadV M 0 = 1 ∧ Told wo M Q := by
  obtain ⟨T, R, hE, ht, h0, hl, h⟩ := h
  have hlen : T.length + R.length ≤ 8 := by rw [← List.length_append, ← hE]; exact hQ
  rcases h with ⟨hn, hj, hM⟩ | ⟨hn, hj, hM, hne, hsl, hf⟩ | ⟨hn, hj, hne, hM, hf⟩ | ⟨hn, he, hse, hM, hj⟩
  · omega
  · omega
  · omega
  · exact ⟨hn, hse, hM, h0, by rw [hE, he, List.append_nil]; exact ht⟩

/-- What is known ahead of step j of one that comes alone while it is closed. -/
def CoI (wa k : Int) (j : Nat) (s : QuS) (Qc : List Int) : Prop :=
  (j = 0 ∧ s = ⟨k, [], 0, .come, 0, 0⟩ ∧ Qc = []) ∨
  (0 < wa ∧ ((j = 1 ∧ s = ⟨k, [], 0, .push, 0, 0⟩ ∧ Qc = []) ∨ (j = 2 ∧ s = ⟨k, [], 0, .closed, 0, 0⟩ ∧ Qc = [k]) ∨
    (j = 3 ∧ s = ⟨k, [], 0, .look, 5, 0⟩ ∧ Qc = [k]) ∨ (j = 4 ∧ s = ⟨k, [k], 0, .drop, 5, 0⟩ ∧ Qc = [k]) ∨
    (5 ≤ j ∧ s = ⟨k, [k], 0, .done, 5, 5⟩ ∧ Qc = []))) ∨
  (wa ≤ 0 ∧ 1 ≤ j ∧ s = ⟨k, [], 0, .done, 0, 7⟩ ∧ Qc = [])
theorem ln_one {k : Int} (h0 : 0 ≤ k) (h1 : k ≤ 14) : Ln [k] := ⟨fun x hx => by rw [List.mem_singleton.1 hx]; exact ⟨h0, h1⟩, by simp⟩
theorem CoI.ok {wa k : Int} {j : Nat} {s : QuS} {Qc : List Int} (h : CoI wa k j s Qc) (c : ConfV) (h0 : 0 ≤ k) (h1 : k ≤ 14) : s.ok c := by
  have h1 := ln_one h0 h1
  rcases h with ⟨-, rfl, -⟩ | ⟨-, ⟨-, rfl, -⟩ | ⟨-, rfl, -⟩ | ⟨-, rfl, -⟩ | ⟨-, rfl, -⟩ | ⟨-, rfl, -⟩⟩ | ⟨-, -, rfl, -⟩
  · exact ⟨Ln.nil, (fun e => by cases e), (fun e => by cases e), (fun e => by cases e)⟩
  · exact ⟨Ln.nil, (fun _ => h1), (fun e => by cases e), (fun e => by cases e)⟩
  · exact ⟨Ln.nil, (fun e => by cases e), (fun e => by cases e), (fun e => by cases e)⟩
  · exact ⟨Ln.nil, (fun e => by cases e), (fun e => by cases e), (fun e => by cases e)⟩
  · exact ⟨h1, (fun e => by cases e), (fun _ => by simp), (fun e => by cases e)⟩
  · exact ⟨h1, (fun e => by cases e), (fun e => by cases e), (fun e => by cases e)⟩
  · exact ⟨Ln.nil, (fun e => by cases e), (fun e => by cases e), (fun e => by cases e)⟩
theorem rm_one (k : Int) : rm [k] k = [] := by simp [rm]
theorem co_step {c : ConfV} {k : Int} {j : Nat} {s : QuS} {M : List Int} (h : CoI c.wa k j s (mQ M)) (hm : MOk M) (h0 : 0 ≤ k) (h1 : k ≤ 14) (hcl : loadV M 0 = 1) :
    CoI c.wa k (j + 1) (qNext c s M).1 (mQ (qNext c s M).2) ∧ MOk (qNext c s M).2 ∧ (qNext c s M).2.length = M.length ∧ loadV (qNext c s M).2 0 = 1 := by
  have hk := ln_one h0 h1
  rcases h with ⟨rfl, rfl, hM⟩ | ⟨hwa, ⟨rfl, rfl, hM⟩ | ⟨rfl, rfl, hM⟩ | ⟨rfl, rfl, hM⟩ | ⟨rfl, rfl, hM⟩ | ⟨hj, rfl, hM⟩⟩ | ⟨hwa, hj, rfl, hM⟩
  · by_cases hw : c.wa ≤ 0
    · have e : qNext c ⟨k, [], 0, .come, 0, 0⟩ M = (⟨k, [], 0, .done, 0, 7⟩, M) := by unfold qNext; simp only; rw [hM, if_pos (.inl hw)]
      rw [e]
      exact ⟨.inr (.inr ⟨hw, by omega, rfl, hM⟩), hm, rfl, hcl⟩
    · have e : qNext c ⟨k, [], 0, .come, 0, 0⟩ M = (⟨k, [], 0, .push, 0, 0⟩, M) := by
        unfold qNext; simp only; rw [hM, if_neg]; rintro (h | h)
        · exact hw h
        · cases h
      rw [e]
      exact ⟨.inr (.inl ⟨by omega, .inl ⟨rfl, rfl, hM⟩⟩), hm, rfl, hcl⟩
  · have e : qNext c ⟨k, [], 0, .push, 0, 0⟩ M = (⟨k, [], 0, .closed, 0, 0⟩, M.set 1 (wd [k] : Int)) := by unfold qNext; simp only; rw [if_pos hM]; rfl
    rw [e]
    obtain ⟨g1, g2⟩ := MOk.set (M := M) hm.1 hk
    exact ⟨.inr (.inl ⟨hwa, .inr (.inl ⟨rfl, rfl, g2⟩)⟩), g1, by simp, by show loadV (M.set 1 _) 0 = 1; rw [loadV_set1_ne hm.1 (by omega)]; exact hcl⟩
  · have e : qNext c ⟨k, [], 0, .closed, 0, 0⟩ M = (⟨k, [], 0, .look, 5, 0⟩, M) := by unfold qNext; simp only; rw [if_neg (by rw [hcl]; omega)]
    rw [e]
    exact ⟨.inr (.inl ⟨hwa, .inr (.inr (.inl ⟨rfl, rfl, hM⟩))⟩), hm, rfl, hcl⟩
  · have e : qNext c ⟨k, [], 0, .look, 5, 0⟩ M = (⟨k, [k], 0, .drop, 5, 0⟩, M) := by unfold qNext; simp only; rw [hM, if_pos (by simp)]
    rw [e]
    exact ⟨.inr (.inl ⟨hwa, .inr (.inr (.inr (.inl ⟨rfl, rfl, hM⟩)))⟩), hm, rfl, hcl⟩
  · have e : qNext c ⟨k, [k], 0, .drop, 5, 0⟩ M = (⟨k, [k], 0, .done, 5, 5⟩, M.set 1 (wd [] : Int)) := by unfold qNext; simp only; rw [if_pos hM, rm_one]
    rw [e]
    obtain ⟨g1, g2⟩ := MOk.set (M := M) hm.1 Ln.nil
    exact ⟨.inr (.inl ⟨hwa, .inr (.inr (.inr (.inr ⟨by omega, rfl, g2⟩)))⟩), g1, by simp, by show loadV (M.set 1 _) 0 = 1; rw [loadV_set1_ne hm.1 (by omega)]; exact hcl⟩
  · have e : qNext c ⟨k, [k], 0, .done, 5, 5⟩ M = (⟨k, [k], 0, .done, 5, 5⟩, M) := rfl
    rw [e]
    exact ⟨.inr (.inl ⟨hwa, .inr (.inr (.inr (.inr ⟨by omega, rfl, hM⟩)))⟩), hm, rfl, hcl⟩
  · have e : qNext c ⟨k, [], 0, .done, 0, 7⟩ M = (⟨k, [], 0, .done, 0, 7⟩, M) := rfl
    rw [e]
    exact ⟨.inr (.inr ⟨hwa, by omega, rfl, hM⟩), hm, rfl, hcl⟩
theorem CoI.end {wa k : Int} {s : QuS} {Qc : List Int} (h : CoI wa k 9 s Qc) : s.nx = .done ∧ Qc = [] ∧ ((wa ≤ 0 ∧ s.e = 7) ∨ (0 < wa ∧ s.e = 5)) := by
  rcases h with ⟨h, -⟩ | ⟨hwa, ⟨h, -⟩ | ⟨h, -⟩ | ⟨h, -⟩ | ⟨h, -⟩ | ⟨-, rfl, h⟩⟩ | ⟨hwa, -, rfl, h⟩
  · omega
  · omega
  · omega
  · omega
  · omega
  · exact ⟨rfl, h, .inr ⟨hwa, rfl⟩⟩
  · exact ⟨rfl, h, .inl ⟨hwa, rfl⟩⟩

end Go.Proofs.Ytdpefnebghljoaa
