/- Table[int,int]: slices.Clone; All, and what it tells. Printed by gen_tab.py. -/
import Derived.Test.YtamnmpcnhaeigaaTabJI
import Derived.Test.YtamnmpcnhaeigaaIterN
import Derived.WalkSpells
import Derived.WalkLawsBesides
import Derived.RangeFuncBound
import Derived.RangeFuncCalls
import Derived.Shelf.Abstract
import Derived.OwnWalkIn
import Derived.TacticsInMore
import Derived.LoopNIn
import Derived.LoopIn
import Derived.Outline
namespace Go.Proofs.Ytamnmpcnhaeigaa.TabI
open Go.RowKit Go.Shelf
attribute [local go_sem] Oper.semAt_some
set_option linter.unusedVariables false

/-- What Clone leaves: the same pairs in a row of its own. -/
def ClPost (w : World) (L : List (Int × Int)) (e : Ending) (w' : World) : Prop := ∃ s', e = .returned s' ∧ Things w' s' L ∧ Fr [] w w' ∧ ∀ x ∈ rowsOf s', w.heap.size ≤ x

theorem run_eql_slice_none {P : Program} (w : World) {t e : TypeId} (h : P.underlying t = some (.slice e)) : (Go.binOp .eql t (.slice none 0 0) (.slice none 0 0)).run P w = .ok (.bool true) w := by
  have hd : ∀ d : Nat, (Op.equalIn (d + 1) t (.slice none 0 0) (.slice none 0 0)).run P w = .ok true w := fun d => by simp [Op.equalIn, run_underlying h]
  simp only [binOp]
  simp [Op.equal, Op.maxDepth, hd 9999]
theorem run_eql_slice_some {P : Program} (w : World) {t e : TypeId} (h : P.underlying t = some (.slice e)) (a : Addr) (n c : Nat) : (Go.binOp .eql t (.slice (some a) n c) (.slice none 0 0)).run P w = .ok (.bool false) w := by
  have hd : ∀ d : Nat, (Op.equalIn (d + 1) t (.slice (some a) n c) (.slice none 0 0)).run P w = .ok false w := fun d => by simp [Op.equalIn, run_underlying h]
  simp only [binOp]
  simp [Op.equal, Op.maxDepth, hd 9999]

set_option maxHeartbeats 4000000 in
set_option maxRecDepth 100000 in
theorem clone_any (w : World) (s : Value) (L : List (Int × Int)) (hn : L.length ≤ 1000) (hr : Things w s L) :
    Calls Try.prog 35 #[s] w (ClPost w L) := by
  rcases hr with ⟨rfl, rfl⟩ | ⟨q, c, rfl, hc, hc63, hr⟩
  · have fin : ClPost w [] (.returned (.slice none 0 0)) w := ⟨_, rfl, .inl ⟨rfl, rfl⟩, Fr.refl _ w, by simp [rowsOf]⟩
    have e1 := run_eql_slice_none (P := Try.prog) w Try.underlying70
    go_enter Try.func35, Try.ntmps35
    go_wp2
    go_ret
    exact fin
  obtain ⟨i0, hi0, hz0, hz1, hz2⟩ := info_parts kept_info
  obtain ⟨w1, hw1⟩ : ∃ w1, w.alloc (.cells #[] 69) = w1 := ⟨_, rfl⟩
  have f1 : Fr [] w w1 := by rw [← hw1]; exact (Fr.refl _ w).alloc _
  have hnew : w1.heap[w.heap.size]? = some (.cells #[] 69 (0, 0)) := by rw [← hw1]; exact heap_alloc_new w _
  have hr1 := hr.fr f1 (by simp)
  have hsrc : Src Try.prog i0.size 70 (.slice (some ⟨q, 0, none⟩) L.length c) L.length (flat L) w1 := by
    rw [hz1]
    refine Src.ofSlice w1 Try.underlying70 ⟨q, 0, none⟩ _ _ _ (flat_length L) (fun j u hj => ?_) (flat_one _)
    rw [Addr.add_lit]
    have := hr1.cells 0 L.length j u (by rw [List.drop_zero, List.take_length]; exact hj)
    simpa using this
  have e1 := run_eql_slice_some (P := Try.prog) w Try.underlying70 ⟨q, 0, none⟩ L.length c
  have hrun : ∃ v' w', (∀ ty, (Builtin.append_ #[70, 70] ty #[.slice (some ⟨w.heap.size, 0, none⟩) 0 0, .slice (some ⟨q, 0, none⟩) L.length c]).run Try.prog w1 = .ok v' w') ∧ ClPost w L (.returned v') w' := by
    cases hL : L with
    | nil =>
      subst hL
      refine ⟨_, _, fun ty => run_append_roww w1 70 70 ty 69 i0 Try.underlying70 hi0 w.heap.size 0 0 0 _ 0 [] hsrc (by omega) #[] _ hnew (by simp), _, rfl, .inr ⟨w.heap.size, 0, rfl, by simp, by omega, Row.mk_flat _ [] (setRow_heap _ _ _ _ _ _ hnew) (by simp) (by simp [flat])⟩, f1.setRow (.inr (Nat.le_refl _)) _, by simp [rowsOf]⟩
    | cons x M =>
      rw [← hL]
      have hl : 0 < L.length := by rw [hL]; simp
      have hsz1 : w1.heap.size = w.heap.size + 1 := by rw [← hw1]; simp
      have happ := fun ty => run_append_grow_src w1 70 70 ty 69 i0 _ Try.underlying70 hi0 hz0 (some ⟨w.heap.size, 0, none⟩) 0 0 [] (run_firstCells_some w1.drew i0.size 0 ⟨w.heap.size, 0, none⟩ 0 0 [] (by simp) (fun j u hj => by simp at hj)) _ L.length (flat L) hsrc (by omega) (by omega) (growslice_fits (by omega) (by rw [hz2]; omega))
      simp only [Nat.zero_add, List.nil_append] at happ
      have hG1 := grownCap_ge w1 L.length 0 69
      have hG2 := grownCap_le_maxLen w1 L.length 0 69 (by unfold maxLen; omega)
      generalize grownCap w1 L.length 0 69 = G at happ hG1 hG2
      refine ⟨_, _, happ, _, rfl, .inr ⟨w1.heap.size, G, rfl, hG1, by unfold maxLen at hG2; exact hG2, Row.mk_flat _ (Builtin.zeroCells (Value.agg #[kv k0, vv v0]).cells (G - L.length)).toList (heap_alloc_new w1.drew _) ?_ (by simp)⟩, (f1.drew.alloc _), fun y hy => ?_⟩
      · rw [Array.size_append, zero_size, List.size_toArray, flat_length]; omega
      · simp [rowsOf] at hy; subst hy; omega
  obtain ⟨v', w', hrun, fin⟩ := hrun
  have FIN := Lib.hid fin
  subst hw1
  clear fin hsrc hr1 hnew f1 hr hi0 hz0 hz1 hz2
  go_enter Try.func35, Try.ntmps35
  go_wp2_with (at_builtin; refine Lib.wpList_append_run _ rfl _ _ _ _ rfl _ _ rfl rfl _ _ (hrun _) ?_)
  go_ret
  exact FIN.out

end Go.Proofs.Ytamnmpcnhaeigaa.TabI
