/- Table[string,int]: slices.Delete, slices.Clone. Printed by gen_tab.py. -/
import Derived.Test.YtamnmpcnhaeigaaTabCS
namespace Go.Proofs.Ytamnmpcnhaeigaa.TabS
open Go.RowKit
set_option linter.unusedVariables false

set_option maxHeartbeats 4000000 in
set_option maxRecDepth 100000 in
/-- slices.Delete of one. -/
theorem delete_any (w : World) (s : Value) (L : List (ByteArray × Int)) (i : Nat) (hn : L.length ≤ 1000) (hi : i < L.length) (hr : Things w s L) :
    Calls Try.prog 42 #[s, .int .i64 i, .int .i64 ((i : Int) + 1)] w fun e w' =>
      ∃ s', e = .returned s' ∧ Things w' s' (L.take i ++ L.drop (i + 1)) ∧ Fr (rowsOf s) w w' ∧ rowsOf s' = rowsOf s := by
  rcases hr with ⟨rfl, rfl⟩ | ⟨q, c, rfl, hc, hc63, hr⟩
  · exact absurd hi (Nat.not_lt_zero _)
  obtain ⟨i0, hi0, hz0, hz1, hz2⟩ := info_parts kept_info
  obtain ⟨cur, r, g1, g2, g3⟩ := hr.toFlat
  obtain ⟨n, hnn⟩ : ∃ n, n = L.length := ⟨_, rfl⟩
  have hsp : L = L.take i ++ (L.drop i).take 1 ++ L.drop (i + 1) := by
    rw [List.append_assoc, ← List.drop_drop, List.take_append_drop, List.take_append_drop]
  have lA : (flat (L.take i)).length = i * 2 := by rw [flat_length, List.length_take, Nat.min_eq_left (by omega)]
  have lB : (flat ((L.drop i).take 1)).length = 2 := by rw [flat_length, List.length_take, List.length_drop, Nat.min_eq_left (by omega)]
  have lC : (flat (L.drop (i + 1))).length = (n - (i + 1)) * 2 := by rw [flat_length, List.length_drop, hnn]
  have hcur : cur.toList = flat (L.take i) ++ (flat ((L.drop i).take 1) ++ (flat (L.drop (i + 1)) ++ r)) := by
    rw [g3, show flat L = flat (L.take i ++ (L.drop i).take 1 ++ L.drop (i + 1)) from congrArg flat hsp, flat_append, flat_append]; simp
  have hsz : cur.toList.length = c * 2 := by simpa using g2
  obtain ⟨ta, hta⟩ : ∃ ta : Addr, ta = if c = i + 1 then ⟨q, 0, none⟩ else ⟨q, (i + 1) * 2, none⟩ := ⟨_, rfl⟩
  have hsrc : ∀ W : World, (∀ a, W.cell? a = w.cell? a) → Src Try.prog i0.size 76 (.slice (some ta) (n - (i + 1)) (c - (i + 1))) (n - (i + 1)) (flat (L.drop (i + 1))) W := fun W hW => by
    rw [hz1]
    refine Src.ofSlice W Try.underlying76 ta _ _ _ lC (fun j u hj => ?_) (flat_one _)
    have hjl := (List.getElem?_eq_some_iff.1 hj).1
    rw [lC] at hjl
    rw [hta, if_neg (by omega), Addr.add_lit, hW]
    refine hr.cells (i + 1) (n - (i + 1)) j u ?_
    rw [List.take_of_length_le (by rw [List.length_drop]; omega)]; exact hj
  have htk : cur.toList.take (0 + i * 2) = flat (L.take i) := by rw [Nat.zero_add, hcur, List.take_left' lA]
  obtain ⟨R1, hR1⟩ : ∃ R1, cur.toList.drop (0 + i * 2 + (flat (L.drop (i + 1))).length) = R1 := ⟨_, rfl⟩
  have lR : R1.length = (c - (n - 1)) * 2 := by rw [← hR1, List.length_drop, hsz, lC]; omega
  have hrun : ∀ ty, (Builtin.append_ #[76, 76] ty #[.slice (some ⟨q, 0, none⟩) i c, .slice (some ta) (n - (i + 1)) (c - (i + 1))]).run Try.prog w.drew =
      .ok (.slice (some ⟨q, 0, none⟩) (n - 1) c) (w.drew.setRow q (flat (L.take i) ++ flat (L.drop (i + 1)) ++ R1).toArray) := fun ty => by
    have hsrc' : Src Try.prog i0.size 76 (.slice (some ta) (n - (i + 1)) (c - (i + 1))) (n - (i + 1)) (flat (L.drop (i + 1))) w.drew := hsrc w.drew (fun _ => rfl)
    have h := run_append_roww w.drew 76 76 ty 81 i0 Try.underlying76 hi0 q 0 i c _ _ _ hsrc' (by omega) cur _ g1 (by rw [hz1, lC]; omega)
    rw [hz1, htk, hR1, show i + (n - (i + 1)) = n - 1 by omega] at h
    exact h
  have hzv : ∀ w, (zeroValue 81).run Try.prog w = .ok (.agg #[kv k0, vv v0]) w := fun w => by simp [zeroValue, typeInfo, hi0, hz0]
  obtain ⟨A1, hA1⟩ : ∃ A1, flat (L.take i) ++ flat (L.drop (i + 1)) = A1 := ⟨_, rfl⟩
  have lA1 : A1.length = (n - 1) * 2 := by rw [← hA1, List.length_append, lA, lC]; omega
  rw [hA1] at hrun
  have hclr : ∀ (W : World) ty cc, W.heap[q]? = some (.cells (A1 ++ R1).toArray 81 (0, 0)) → (Builtin.clear_ #[76] ty #[.slice (some ⟨q, (n - 1) * 2, none⟩) 1 cc]).run Try.prog W =
      .ok (.tuple #[]) (W.setRow q (A1 ++ ([kv k0, vv v0] ++ R1.drop 2)).toArray) := fun W ty cc hW => by
    have h := run_clear_roww W 76 81 ty _ Try.underlying76 hzv [kv k0, vv v0] 1 (by kernel_rfl) (by intro v hv; simp at hv; rcases hv with rfl | rfl <;> rfl) q ((n - 1) * 2) cc (by omega) _ _ hW (by simp; omega)
    rw [h]
    congr 3
    simp only [List.length_cons, List.length_nil]
    rw [List.take_left' lA1, ← lA1, ← List.drop_drop, List.drop_left, List.append_assoc]
  have hW1 := setRow_heap w.drew q cur (A1 ++ R1).toArray _ _ (by exact g1)
  have hfin : ∀ W : World, Fr [q] w W → W.heap[q]? = some (.cells (A1 ++ ([kv k0, vv v0] ++ R1.drop 2)).toArray 81 (0, 0)) → Things W (.slice (some ⟨q, 0, none⟩) (n - 1) c) (L.take i ++ L.drop (i + 1)) := fun W _ hW => by
    refine .inr ⟨q, c, ?_, ?_, hc63, Row.mk_flat _ ([kv k0, vv v0] ++ R1.drop 2) hW ?_ ?_⟩
    · simp only [List.length_append, List.length_take, List.length_drop]; congr 1; omega
    · simp only [List.length_append, List.length_take, List.length_drop]; omega
    · simp only [List.size_toArray, List.length_append, List.length_cons, List.length_nil, List.length_drop]; omega
    · simp only [flat_append, hA1]
  rw [← hnn] at hn hi hc ⊢
  have HF := Lib.hid hfin
  have F1 := ((Fr.refl [q] w).drew.setRow (.inl (List.mem_singleton.2 rfl)) (A1 ++ R1).toArray)
  clear hnn hfin hA1 hR1 htk hsp hcur lA lB lC hsrc g3 g2 lR lA1 hz0 hz1 hz2 hi0 hzv hr
  go_enter Try.func42, Try.ntmps42
  have hb1 : ¬ ((i : Int) = (i : Int) + 1) := by omega
  have hb3 : ¬ (c = n - 1) := by omega
  have hb4 : i ≤ c := by omega
  have hb5 : i ≤ n := by omega
  have mixed : Try.prog.follows .mixedOrders = true := by kernel_rfl
  have hb6 : (0 : Int) ≤ (i : Int) + 1 := by omega
  have hb7 : (i : Int) + 1 ≤ (n : Int) := by omega
  have hb8 : (i : Int) ≤ (i : Int) + 1 := by omega
  by_cases hb2 : c = i + 1
  · rw [if_pos hb2] at hta
    subst hta
    subst hb2
    obtain rfl : n = i + 1 := by omega
    simp only [Nat.sub_self, Nat.add_sub_cancel] at hrun hclr
    have hb9 : ¬ (i + 1 = i) := by omega
    clear hb3 hc
    go_wp2_with fail
    go_region_law_o (refine step_append_runI rfl _ _ 76 76 rfl _ _ (by simp [Act.eval, Act.put]) (by simp [Act.eval, Act.put]) (hrun _) ?_)
    go_wp2_with (at_builtin; refine wpList_clear_runI _ rfl _ 76 rfl _ rfl (hclr _ _ _ hW1) ?_)
    go_ret
    have hW2 := setRow_heap (w.drew.setRow q (A1 ++ R1).toArray) q _ (A1 ++ ([kv k0, vv v0] ++ R1.drop 2)).toArray _ _ hW1
    have F2 := F1.setRow (.inl (List.mem_singleton.2 rfl)) (A1 ++ ([kv k0, vv v0] ++ R1.drop 2)).toArray
    exact ⟨_, rfl, HF.out _ F2 hW2, F2, rfl⟩
  · rw [if_neg hb2] at hta
    subst hta
    obtain ⟨m, rfl⟩ : ∃ m, n = m + 1 := ⟨n - 1, by omega⟩
    simp only [Nat.add_sub_cancel] at hrun hclr hb3
    have hb9 : m + 1 - m = 1 := by omega
    have hb10 : m ≤ m + 1 := by omega
    have hb11 : m + 1 ≤ c := hc
    have hb12 : (m : Int) ≤ (m : Int) + 1 := by omega
    have hb13 : (i : Int) + 1 ≤ (m : Int) + 1 := by omega
    have hb14 : (0 : Int) ≤ (m : Int) + 1 := by omega
    have hb15 : (m : Int) + 1 ≤ (c : Int) := by omega
    go_wp2_with fail
    go_region_law_o (refine step_append_runI rfl _ _ 76 76 rfl _ _ (by simp [Act.eval, Act.put]) (by simp [Act.eval, Act.put]) (hrun _) ?_)
    go_wp2_with (at_builtin; refine wpList_clear_runI _ rfl _ 76 rfl _ rfl (hclr _ _ _ hW1) ?_)
    go_ret
    have hW2 := setRow_heap (w.drew.setRow q (A1 ++ R1).toArray) q _ (A1 ++ ([kv k0, vv v0] ++ R1.drop 2)).toArray _ _ hW1
    have F2 := F1.setRow (.inl (List.mem_singleton.2 rfl)) (A1 ++ ([kv k0, vv v0] ++ R1.drop 2)).toArray
    exact ⟨_, rfl, HF.out _ F2 hW2, F2, rfl⟩

end Go.Proofs.Ytamnmpcnhaeigaa.TabS
