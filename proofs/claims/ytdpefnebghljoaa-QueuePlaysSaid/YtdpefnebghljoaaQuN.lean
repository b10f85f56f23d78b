/- One that leaves a line, while somebody may take it out: the plain law. -/
import Derived.Test.YtdpefnebghljoaaQuL
namespace Go.Proofs.Ytdpefnebghljoaa
open Go.RowKit

theorem qT_1 (s : QuS) : 0 ≤ qT s ∧ qT s ≤ 1 := by unfold qT; split <;> omega
theorem rm_ne {L : List Int} {x : Int} (h : x ∈ L) : rm L x ≠ L := fun e => not_mem_rm L x (by rw [e]; exact h)
/-- What is known ahead of step j: s the Queue, Qc the line, b: was it there when it looked, or is it yet. -/
def LvI (k : Int) (Q : List Int) (wn : Int) (j : Nat) (s : QuS) (Qc : List Int) (b : Bool) : Prop :=
  (j = 0 ∧ s = ⟨k, [], 0, .look, 4, 0⟩ ∧ Qc = Q ∧ b = decide (k ∈ Q)) ∨
  (j = 1 ∧ wn ≠ 0 ∧ k ∈ Q ∧ s = ⟨k, Q, 0, .drop, 4, 0⟩ ∧ Qc = Q ∧ b = true) ∨
  (j = 2 ∧ wn = 1 ∧ k ∈ Q ∧ s = ⟨k, Q, 0, .look, 4, 0⟩ ∧ Qc = rm Q k ∧ b = false) ∨
  (1 ≤ j ∧ s.nx = .done ∧ Ln s.line ∧ Qc = rm Q k ∧ ((s.e = 4 ∧ b = true ∧ 2 ≤ j) ∨ (s.e = 8 ∧ b = false)))
theorem LvI.ok {k : Int} {Q : List Int} {wn : Int} {j : Nat} {s : QuS} {Qc : List Int} {b : Bool} (h : LvI k Q wn j s Qc b) (hQ : Ln Q) (c : ConfV) : s.ok c := by
  rcases h with ⟨-, rfl, -⟩ | ⟨-, -, hk, rfl, -⟩ | ⟨-, -, hk, rfl, -⟩ | ⟨-, hn, hl, -⟩
  · exact ⟨Ln.nil, (fun e => by cases e), (fun e => by cases e), (fun e => by cases e)⟩
  · exact ⟨hQ, (fun e => by cases e), fun _ => hk, (fun e => by cases e)⟩
  · exact ⟨hQ, (fun e => by cases e), (fun e => by cases e), (fun e => by cases e)⟩
  · exact ⟨hl, (fun e => by rw [hn] at e; cases e), (fun e => by rw [hn] at e; cases e), (fun e => by rw [hn] at e; cases e)⟩
/-- Somebody takes it out ahead of step j. -/
theorem LvI.taken {k : Int} {Q : List Int} {wn : Int} {j : Nat} {s : QuS} {Qc : List Int} {b : Bool} (h : LvI k Q wn j s Qc b) (hw : (j : Int) = wn) (hj : j < 2) :
    (j = 0 ∧ s = ⟨k, [], 0, .look, 4, 0⟩) ∨ (j = 1 ∧ k ∈ Q ∧ s = ⟨k, Q, 0, .drop, 4, 0⟩) ∨ (j = 1 ∧ s.nx = .done ∧ Ln s.line ∧ s.e = 8) := by
  rcases h with ⟨h0, hs, -⟩ | ⟨h0, -, hk, hs, -⟩ | ⟨h0, -⟩ | ⟨h0, hn, hl, -, h1⟩
  · exact .inl ⟨h0, hs⟩
  · exact .inr (.inl ⟨h0, hk, hs⟩)
  · omega
  · rcases h1 with ⟨-, -, h1⟩ | ⟨h1, -⟩
    · omega
    · exact .inr (.inr ⟨by omega, hn, hl, h1⟩)
theorem lv_taken {k : Int} {Q : List Int} {wn : Int} {j : Nat} {s : QuS} {Qc : List Int} {b : Bool} (c : ConfV) {M : List Int} (h : LvI k Q wn j s Qc b) (hw : (j : Int) = wn) (hj : j < 2) (hm : MOk M) (hQ : Ln Q) (hM : mQ M = rm Q k) :
    LvI k Q wn (j + 1) (qNext c s M).1 (mQ (qNext c s M).2) false ∧ (qNext c s M).2 = M := by
  rcases h.taken hw hj with ⟨rfl, rfl⟩ | ⟨rfl, hk, rfl⟩ | ⟨rfl, hn, hl, he⟩
  · have e : qNext c ⟨k, [], 0, .look, 4, 0⟩ M = (⟨k, rm Q k, 0, .done, 4, 8⟩, M) := by
      unfold qNext; simp only; rw [hM, if_neg (not_mem_rm Q k)]
    rw [e]
    exact ⟨.inr (.inr (.inr ⟨by omega, rfl, hQ.rm k, hM, .inr ⟨rfl, rfl⟩⟩)), rfl⟩
  · have e : qNext c ⟨k, Q, 0, .drop, 4, 0⟩ M = (⟨k, Q, 0, .look, 4, 0⟩, M) := by
      unfold qNext; simp only; rw [hM, if_neg (rm_ne hk)]
    rw [e]
    exact ⟨.inr (.inr (.inl ⟨rfl, hw.symm, hk, rfl, hM, rfl⟩)), rfl⟩
  · have e : qNext c s M = (s, M) := by unfold qNext; rw [hn]
    rw [e]
    exact ⟨.inr (.inr (.inr ⟨by omega, hn, hl, hM, .inr ⟨he, rfl⟩⟩)), rfl⟩
theorem lv_not {k : Int} {Q : List Int} {wn : Int} {j : Nat} {s : QuS} {b : Bool} (c : ConfV) {M : List Int} (h : LvI k Q wn j s (mQ M) b) (hw : ¬ ((j : Int) = wn ∧ j < 2)) (hm : MOk M) (hQ : Ln Q) :
    LvI k Q wn (j + 1) (qNext c s M).1 (mQ (qNext c s M).2) b ∧ MOk (qNext c s M).2 ∧ (qNext c s M).2.length = M.length := by
  rcases h with ⟨rfl, rfl, hM, hb⟩ | ⟨rfl, h0, hk, rfl, hM, hb⟩ | ⟨rfl, h1, hk, rfl, hM, hb⟩ | ⟨h0, hn, hl, hM, hb⟩
  · by_cases hk : k ∈ Q
    · have e : qNext c ⟨k, [], 0, .look, 4, 0⟩ M = (⟨k, Q, 0, .drop, 4, 0⟩, M) := by
        unfold qNext; simp only; rw [hM, if_pos hk]
      rw [e]
      exact ⟨.inr (.inl ⟨rfl, by omega, hk, rfl, hM, by rw [hb]; exact decide_eq_true hk⟩), hm, rfl⟩
    · have e : qNext c ⟨k, [], 0, .look, 4, 0⟩ M = (⟨k, Q, 0, .done, 4, 8⟩, M) := by
        unfold qNext; simp only; rw [hM, if_neg hk]
      rw [e]
      exact ⟨.inr (.inr (.inr ⟨by omega, rfl, hQ, by rw [rm_self hk]; exact hM, .inr ⟨rfl, by rw [hb]; exact decide_eq_false hk⟩⟩)), hm, rfl⟩
  · have e : qNext c ⟨k, Q, 0, .drop, 4, 0⟩ M = (⟨k, Q, 0, .done, 4, 4⟩, M.set 1 (wd (rm Q k) : Int)) := by
      unfold qNext; simp only; rw [if_pos hM]
    rw [e]
    have h2 := MOk.set hm.1 (hQ.rm k)
    exact ⟨.inr (.inr (.inr ⟨by omega, rfl, hQ, h2.2, .inl ⟨rfl, hb, by omega⟩⟩)), h2.1, by simp⟩
  · have e : qNext c ⟨k, Q, 0, .look, 4, 0⟩ M = (⟨k, rm Q k, 0, .done, 4, 8⟩, M) := by
      unfold qNext; simp only; rw [hM, if_neg (not_mem_rm Q k)]
    rw [e]
    exact ⟨.inr (.inr (.inr ⟨by omega, rfl, hQ.rm k, hM, .inr ⟨rfl, hb⟩⟩)), hm, rfl⟩
  · have e : qNext c s M = (s, M) := by unfold qNext; rw [hn]
    rw [e]
    refine ⟨.inr (.inr (.inr ⟨by omega, hn, hl, hM, ?_⟩)), hm, rfl⟩
    rcases hb with ⟨h1, h2, h3⟩ | h1
    · exact .inl ⟨h1, h2, by omega⟩
    · exact .inr h1
theorem LvI.end {k : Int} {Q : List Int} {wn : Int} {s : QuS} {Qc : List Int} {b : Bool} (h : LvI k Q wn 9 s Qc b) : s.nx = .done ∧ Qc = rm Q k ∧ ((s.e = 4 ∧ b = true) ∨ (s.e = 8 ∧ b = false)) := by
  rcases h with ⟨h0, -⟩ | ⟨h0, -⟩ | ⟨h0, -⟩ | ⟨h0, hn, hl, hM, hb⟩
  · omega
  · omega
  · omega
  · exact ⟨hn, hM, hb.elim (fun h => .inl ⟨h.1, h.2.1⟩) .inr⟩

end Go.Proofs.Ytdpefnebghljoaa
