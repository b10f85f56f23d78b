/- Some that come at a time: the plain law. -/
import Derived.Test.YtdpefnebghljoaaQuO
namespace Go.Proofs.Ytdpefnebghljoaa
open Go.RowKit

/-- What is known of one of them: x the worker, Qc the line. -/
def RaS (wa : Int) (Qc : List Int) (x : Int) (s : QuS) : Prop :=
  s.w = x ∧ Ln s.line ∧
    ((s.nx = .come ∧ s.e = 0 ∧ x ∉ Qc) ∨ (s.nx = .push ∧ s.e = 0 ∧ x ∉ Qc ∧ s.line <+: Qc ∧ (s.line.length : Int) < wa) ∨ (s.nx = .closed ∧ s.e = 0 ∧ x ∈ Qc) ∨
     (s.nx = .done ∧ s.e = 0 ∧ x ∈ Qc) ∨ (s.nx = .done ∧ s.e = 7 ∧ x ∉ Qc ∧ wa ≤ (Qc.length : Int)))
/-- What is known of all: F those that were there, W those that come. -/
def RaI (wa : Int) (F W : List Int) (S : List QuS) (Qc : List Int) : Prop :=
  F <+: Qc ∧ Ln Qc ∧ (Qc.length : Int) ≤ wa ∧ (∀ x ∈ Qc, x < 8) ∧ S.length = W.length ∧ ∀ (j : Nat) (s : QuS) (x : Int), S[j]? = some s → W[j]? = some x → RaS wa Qc x s
theorem RaS.ok {wa : Int} {Qc : List Int} {x : Int} {s : QuS} (h : RaS wa Qc x s) (c : ConfV) (h0 : 0 ≤ x) (h1 : x ≤ 14) : s.ok c := by
  obtain ⟨hw, hl, h⟩ := h
  rcases h with ⟨hn, -⟩ | ⟨hn, -, hx, hp, -⟩ | ⟨hn, -⟩ | ⟨hn, -⟩ | ⟨hn, -⟩
  · exact ⟨hl, (fun e => by rw [hn] at e; cases e), (fun e => by rw [hn] at e; cases e), (fun e => by rw [hn] at e; cases e)⟩
  · refine ⟨hl, fun _ => (ln_snoc hl).2 ⟨by omega, by omega, fun hm => hx ?_⟩, (fun e => by rw [hn] at e; cases e), (fun e => by rw [hn] at e; cases e)⟩
    rw [hw] at hm
    exact hp.subset hm
  · exact ⟨hl, (fun e => by rw [hn] at e; cases e), (fun e => by rw [hn] at e; cases e), (fun e => by rw [hn] at e; cases e)⟩
  · exact ⟨hl, (fun e => by rw [hn] at e; cases e), (fun e => by rw [hn] at e; cases e), (fun e => by rw [hn] at e; cases e)⟩
  · exact ⟨hl, (fun e => by rw [hn] at e; cases e), (fun e => by rw [hn] at e; cases e), (fun e => by rw [hn] at e; cases e)⟩
/-- How many steps of its own it is from its end, at most. -/
def rk (s : QuS) (Qc : List Int) : Nat := match s.nx with
  | .done => 0
  | .closed => 1
  | .push => if s.line = Qc then 2 else 4
  | .come => 3
  | _ => 5
/-- One step of one of them: what is known of it, and of the line. -/
theorem ra_one {c : ConfV} {F W : List Int} {S : List QuS} {M : List Int} {j : Nat} {s : QuS} {x : Int} (h : RaI c.wa F W S (mQ M)) (hs : S[j]? = some s) (hx : W[j]? = some x) (hm : MOk M) (h0 : loadV M 0 = 0) (hx0 : 0 ≤ x) (hx8 : x < 8) :
    (RaS c.wa (mQ (qNext c s M).2) x (qNext c s M).1) ∧ MOk (qNext c s M).2 ∧ (qNext c s M).2.length = M.length ∧ loadV (qNext c s M).2 0 = 0 ∧
      (mQ (qNext c s M).2 = mQ M ∨ (mQ (qNext c s M).2 = mQ M ++ [x] ∧ x ∉ mQ M ∧ ((mQ M).length : Int) < c.wa)) ∧ rk (qNext c s M).1 (mQ (qNext c s M).2) ≤ rk s (mQ M) - 1 := by
  obtain ⟨-, hln, hle, -, -, hall⟩ := h
  obtain ⟨hw, hl, h⟩ := hall j s x hs hx
  rcases h with ⟨hn, he, hxq⟩ | ⟨hn, he, hxq, hp, hlt⟩ | ⟨hn, he, hxq⟩ | ⟨hn, he, hxq⟩ | ⟨hn, he, hxq, hfu⟩
  · by_cases hf : c.wa ≤ ((mQ M).length : Int)
    · have e : qNext c s M = ({ s with line := mQ M, e := 7, nx := .done }, M) := by unfold qNext; rw [hn]; simp only; rw [if_pos (.inl hf)]
      rw [e]
      exact ⟨⟨hw, hln, .inr (.inr (.inr (.inr ⟨rfl, rfl, hxq, hf⟩)))⟩, hm, rfl, h0, .inl rfl, by simp [rk]⟩
    · have e : qNext c s M = ({ s with line := mQ M, nx := .push }, M) := by
        unfold qNext; rw [hn]; simp only; rw [if_neg]; rintro (h | h)
        · exact hf h
        · rw [hw] at h; exact hxq h
      rw [e]
      exact ⟨⟨hw, hln, .inr (.inl ⟨rfl, he, hxq, List.prefix_refl _, by simp only; omega⟩)⟩, hm, rfl, h0, .inl rfl, by simp [rk, hn]⟩
  · by_cases hq : mQ M = s.line
    · have e : qNext c s M = ({ s with nx := .closed }, M.set 1 (wd (s.line ++ [s.w]) : Int)) := by unfold qNext; rw [hn]; simp only; rw [if_pos hq]
      rw [e]
      have hok : Ln (s.line ++ [s.w]) := (ln_snoc hl).2 ⟨by omega, by omega, fun hmm => hxq (by rw [hw] at hmm; exact hp.subset hmm)⟩
      obtain ⟨g1, g2⟩ := MOk.set (M := M) hm.1 hok
      refine ⟨⟨hw, hl, .inr (.inr (.inl ⟨rfl, he, ?_⟩))⟩, g1, by simp, by simp only; rw [loadV_set1_ne hm.1 (by omega)]; exact h0, .inr ⟨by simp only; rw [g2, hw, hq], hxq, by rw [hq]; exact hlt⟩, by simp [rk, hn, hq]⟩
      simp only
      rw [g2, hw]; simp
    · have e : qNext c s M = ({ s with nx := .come }, M) := by unfold qNext; rw [hn]; simp only; rw [if_neg hq]
      rw [e]
      exact ⟨⟨hw, hl, .inl ⟨rfl, he, hxq⟩⟩, hm, rfl, h0, .inl rfl, by simp [rk, hn, Ne.symm hq]⟩
  · have e : qNext c s M = ({ s with e := 0, nx := .done }, M) := by unfold qNext; rw [hn]; simp only; rw [if_pos h0]
    rw [e]
    exact ⟨⟨hw, hl, .inr (.inr (.inr (.inl ⟨rfl, rfl, hxq⟩)))⟩, hm, rfl, h0, .inl rfl, by simp [rk]⟩
  · have e : qNext c s M = (s, M) := by unfold qNext; rw [hn]
    rw [e]
    exact ⟨⟨hw, hl, .inr (.inr (.inr (.inl ⟨hn, he, hxq⟩)))⟩, hm, rfl, h0, .inl rfl, by simp [rk, hn]⟩
  · have e : qNext c s M = (s, M) := by unfold qNext; rw [hn]
    rw [e]
    exact ⟨⟨hw, hl, .inr (.inr (.inr (.inr ⟨hn, he, hxq, hfu⟩)))⟩, hm, rfl, h0, .inl rfl, by simp [rk, hn]⟩
/-- What others do leaves what is known of one. -/
theorem RaS.other {wa : Int} {Qc : List Int} {x y : Int} {s : QuS} (h : RaS wa Qc y s) (hxy : y ≠ x) (hle : (Qc.length : Int) < wa) : RaS wa (Qc ++ [x]) y s := by
  obtain ⟨hw, hl, h⟩ := h
  refine ⟨hw, hl, ?_⟩
  have hni : y ∉ Qc → y ∉ Qc ++ [x] := fun hn hm => by
    rcases List.mem_append.1 hm with hm | hm
    · exact hn hm
    · exact hxy (List.mem_singleton.1 hm)
  rcases h with ⟨hn, he, hxq⟩ | ⟨hn, he, hxq, hp, hlt⟩ | ⟨hn, he, hxq⟩ | ⟨hn, he, hxq⟩ | ⟨hn, he, hxq, hfu⟩
  · exact .inl ⟨hn, he, hni hxq⟩
  · exact .inr (.inl ⟨hn, he, hni hxq, hp.trans (List.prefix_append _ _), hlt⟩)
  · exact .inr (.inr (.inl ⟨hn, he, List.mem_append_left _ hxq⟩))
  · exact .inr (.inr (.inr (.inl ⟨hn, he, List.mem_append_left _ hxq⟩)))
  · omega
/-- One step of one of them. -/
theorem ra_step {c : ConfV} {F W : List Int} {S : List QuS} {M : List Int} {j : Nat} {s : QuS} {x : Int} (h : RaI c.wa F W S (mQ M)) (hs : S[j]? = some s) (hx : W[j]? = some x) (hm : MOk M) (h0 : loadV M 0 = 0) (hx0 : 0 ≤ x) (hx8 : x < 8) (hnd : W.Nodup) :
    RaI c.wa F W (S.set j (qNext c s M).1) (mQ (qNext c s M).2) ∧ MOk (qNext c s M).2 ∧ (qNext c s M).2.length = M.length ∧ loadV (qNext c s M).2 0 = 0 ∧ rk (qNext c s M).1 (mQ (qNext c s M).2) ≤ rk s (mQ M) - 1 := by
  obtain ⟨g1, g2, g3, g4, g5, g6⟩ := ra_one h hs hx hm h0 hx0 hx8
  obtain ⟨k1, k2, k3, k4, k5, k6⟩ := h
  have hj : j < S.length := (List.getElem?_eq_some_iff.1 hs).1
  refine ⟨?_, g2, g3, g4, g6⟩
  rcases g5 with e | ⟨e, hxq, hlt⟩
  · rw [e] at g1 ⊢
    refine ⟨k1, k2, k3, k4, by rw [List.length_set]; exact k5, fun i s' y hs' hy => ?_⟩
    by_cases hij : j = i
    · subst hij
      rw [List.getElem?_set_self hj] at hs'
      rw [hx] at hy
      cases hs'; cases hy; exact g1
    · rw [List.getElem?_set_ne hij] at hs'
      exact k6 i s' y hs' hy
  · rw [e] at g1 ⊢
    refine ⟨k1.trans (List.prefix_append _ _), (ln_snoc k2).2 ⟨hx0, by omega, hxq⟩, by simp; omega, fun y hy => ?_, by rw [List.length_set]; exact k5, fun i s' y hs' hy => ?_⟩
    · rcases List.mem_append.1 hy with hy | hy
      · exact k4 y hy
      · rw [List.mem_singleton.1 hy]; exact hx8
    · by_cases hij : j = i
      · subst hij
        rw [List.getElem?_set_self hj] at hs'
        rw [hx] at hy
        cases hs'; cases hy; exact g1
      · rw [List.getElem?_set_ne hij] at hs'
        refine (k6 i s' y hs' hy).other (fun e => hij ?_) hlt
        subst e
        exact (List.getElem?_inj (List.getElem?_eq_some_iff.1 hx).1 hnd).1 (hx.trans hy.symm)
/-- Where all are done: how many stand there. -/
theorem ra_len {wa : Int} {F W : List Int} {S : List QuS} {Qc : List Int} (h : RaI wa F W S Qc) (hd : ∀ (j : Nat) (s : QuS), S[j]? = some s → s.nx = .done) (hFW : ∀ x : Int, 0 ≤ x → x < 8 → x ∈ F ∨ x ∈ W) :
    (Qc.length : Int) = wa ∨ Qc.length = 8 := by
  obtain ⟨k1, k2, k3, k4, k5, k6⟩ := h
  by_cases hf : wa ≤ (Qc.length : Int)
  · left; omega
  · right
    have hsub : ∀ x ∈ (List.range 8).map Int.ofNat, x ∈ Qc := fun x hx => by
      rw [List.mem_map] at hx
      obtain ⟨n, hn, rfl⟩ := hx
      rw [List.mem_range] at hn
      rcases hFW (Int.ofNat n) (by show (0 : Int) ≤ (n : Int); omega) (by show (n : Int) < 8; omega) with hF | hW
      · exact k1.subset hF
      · obtain ⟨j, hj⟩ := List.getElem?_of_mem hW
        obtain ⟨s, hs⟩ : ∃ s, S[j]? = some s := ⟨_, List.getElem?_eq_getElem (by rw [k5]; exact (List.getElem?_eq_some_iff.1 hj).1)⟩
        obtain ⟨-, -, h⟩ := k6 j s _ hs hj
        have hdn := hd j s hs
        rcases h with ⟨hn, -⟩ | ⟨hn, -⟩ | ⟨hn, -⟩ | ⟨-, -, h⟩ | ⟨-, -, -, h⟩
        · rw [hdn] at hn; cases hn
        · rw [hdn] at hn; cases hn
        · rw [hdn] at hn; cases hn
        · exact h
        · omega
    have h1 := nodup_le ((List.range 8).map Int.ofNat) Qc (by decide) hsub
    have h2 := nodup_le Qc ((List.range 8).map Int.ofNat) k2.2 fun x hx => by
      have h3 := k2.1 x hx
      have h4 := k4 x hx
      rw [List.mem_map]
      exact ⟨x.toNat, by rw [List.mem_range]; omega, by show ((x.toNat : Nat) : Int) = x; omega⟩
    simp at h1 h2
    omega

end Go.Proofs.Ytdpefnebghljoaa
