/- Table[int,int]: slices.Insert of one. Printed by gen_tab.py. -/
import Derived.Test.YtamnmpcnhaeigaaTabDI
namespace Go.Proofs.Ytamnmpcnhaeigaa.TabI
open Go.RowKit
set_option linter.unusedVariables false

def ins (L : List (Int × Int)) (i : Nat) (x : Int × Int) : List (Int × Int) := L.take i ++ x :: L.drop i

/-- What Insert leaves. -/
def InsPost (w : World) (s : Value) (L' : List (Int × Int)) (e : Ending) (w' : World) : Prop :=
  ∃ s', e = .returned s' ∧ Things w' s' L' ∧ Fr (rowsOf s) w w' ∧ ∀ x ∈ rowsOf s', x ∈ rowsOf s ∨ w.heap.size ≤ x

theorem zero_size (n : Nat) : (Builtin.zeroCells (Value.agg #[kv k0, vv v0]).cells n).size = n * 2 := by
  have : (Value.agg #[kv k0, vv v0]).cells.size = 2 := by kernel_rfl
  simp [Builtin.zeroCells, this]

theorem src_one {W : World} {vb : Nat} {k : Int} {v : Int} (hv : W.heap[vb]? = some (.cells #[kv k, vv v] 69 (0, 0))) : Src Try.prog 2 70 (.slice (some ⟨vb, 0, none⟩) 1 1) 1 (flat [(k, v)]) W := by
  refine Src.ofSlice W Try.underlying70 ⟨vb, 0, none⟩ _ _ _ rfl (fun j u hj => ?_) (flat_one _)
  rw [Addr.add_lit, Nat.zero_add]
  refine cell_of hv ?_
  rw [← hj]
  simp [flat]

set_option maxHeartbeats 4000000 in
set_option maxRecDepth 100000 in
/-- At the end, no room. -/
theorem insert_end_grow (w : World) (base : Option Addr) (c : Nat) (L : List (Int × Int)) (k : Int) (v : Int) (vb : Nat) (hn : L.length ≤ 1000) (hr : Things w (.slice base L.length c) L) (hg : c < L.length + 1)
    (hv : w.heap[vb]? = some (.cells #[kv k, vv v] 69 (0, 0))) :
    Calls Try.prog 37 #[.slice base L.length c, .int .i64 L.length, .slice (some ⟨vb, 0, none⟩) 1 1] w fun e w' => InsPost w (.slice base L.length c) (L ++ [(k, v)]) e w' := by
  obtain ⟨i0, hi0, hz0, hz1, hz2⟩ := info_parts kept_info
  have hold : (Builtin.firstCells i0.size L.length (.slice base L.length c)).run Try.prog w.drew = .ok (flat L).toArray w.drew := by
    rw [hz1]
    rcases hr with ⟨rfl, hs⟩ | ⟨q, c', hs, hc, _, hr⟩
    · cases hs; exact run_firstCells_none w.drew 2 0 0 0
    · cases hs
      refine run_firstCells_some w.drew 2 L.length ⟨q, 0, none⟩ L.length c (flat L) (flat_length L) fun j u hj => ?_
      rw [Addr.add_lit]
      have := hr.cells 0 L.length j u (by rw [List.drop_zero, List.take_length]; exact hj)
      simpa using this
  have hrun : ∀ ty, (Builtin.append_ #[70, 70] ty #[.slice base L.length c, .slice (some ⟨vb, 0, none⟩) 1 1]).run Try.prog w = _ := fun ty =>
    run_append_grow_src w 70 70 ty 69 i0 _ Try.underlying70 hi0 hz0 base L.length c (flat L) hold _ 1 (flat [(k, v)]) (by rw [hz1]; exact src_one hv) hg (by omega) (growslice_fits hg (by rw [hz2]; omega))
  obtain ⟨G, hG⟩ : ∃ G, grownCap w (L.length + 1) c 69 = G := ⟨_, rfl⟩
  have hG1 : L.length + 1 ≤ G := by rw [← hG]; exact grownCap_ge w _ _ _
  have hG2 : G ≤ 9223372036854775807 := by
    have := grownCap_le_maxLen w (L.length + 1) c 69 (by unfold maxLen; omega)
    rw [hG] at this; unfold maxLen at this; omega
  rw [hG] at hrun
  obtain ⟨A, hA⟩ : ∃ A, (flat L ++ flat [(k, v)]).toArray ++ Builtin.zeroCells (Value.agg #[kv k0, vv v0]).cells (G - (L.length + 1)) = A := ⟨_, rfl⟩
  rw [hA] at hrun
  have hb := heap_alloc_new w.drew (.cells A 69 (0, 0))
  have hfin : InsPost w (.slice base L.length c) (L ++ [(k, v)]) (.returned (.slice (some ⟨w.heap.size, 0, none⟩) (L.length + 1) G)) (w.drew.alloc (.cells A 69 (0, 0))) := by
    refine ⟨_, rfl, .inr ⟨w.heap.size, G, by simp, by simpa using hG1, hG2, Row.mk_flat A (Builtin.zeroCells (Value.agg #[kv k0, vv v0]).cells (G - (L.length + 1))).toList hb ?_ ?_⟩, ((Fr.refl _ w).drew.alloc _), fun x hx => ?_⟩
    · rw [← hA, Array.size_append, zero_size, List.size_toArray, List.length_append, flat_length]; simp [flat]; omega
    · rw [← hA, Array.toList_append, flat_append]
    · simp [rowsOf] at hx; subst hx; exact .inr (Nat.le_refl _)
  have HF := Lib.hid hfin
  obtain ⟨n, hn'⟩ : ∃ n, L.length = n := ⟨_, rfl⟩
  rw [hn'] at hn hG1 hrun HF ⊢
  clear hfin hA hb hG hr hold hn' hz0 hz1 hz2 hi0 hv
  go_enter Try.func37, Try.ntmps37
  cases base with
  | none =>
    go_wp2_with (at_builtin; refine Lib.wpList_append_run _ rfl _ _ _ _ rfl _ _ rfl rfl _ _ (hrun _) ?_)
    all_goals (go_ret; exact HF.out)
  | some a =>
    obtain ⟨ab, ao, asp⟩ := a
    go_wp2_with (at_builtin; refine Lib.wpList_append_run _ rfl _ _ _ _ rfl _ _ rfl rfl _ _ (hrun _) ?_)
    all_goals (go_ret; exact HF.out)

set_option maxHeartbeats 4000000 in
set_option maxRecDepth 100000 in
/-- At the end, there is room. -/
theorem insert_end_room (w : World) (q c : Nat) (L : List (Int × Int)) (k : Int) (v : Int) (vb : Nat) (hn : L.length ≤ 1000) (hr : Row w q c L) (hg : L.length + 1 ≤ c) (hc63 : c ≤ 9223372036854775807)
    (hv : w.heap[vb]? = some (.cells #[kv k, vv v] 69 (0, 0))) :
    Calls Try.prog 37 #[.slice (some ⟨q, 0, none⟩) L.length c, .int .i64 L.length, .slice (some ⟨vb, 0, none⟩) 1 1] w fun e w' => InsPost w (.slice (some ⟨q, 0, none⟩) L.length c) (L ++ [(k, v)]) e w' := by
  obtain ⟨i0, hi0, hz0, hz1, hz2⟩ := info_parts kept_info
  obtain ⟨cur, r, g1, g2, g3⟩ := hr.toFlat
  have hsz : (flat L ++ r).length = c * 2 := by rw [← g3]; simpa using g2
  rw [List.length_append, flat_length] at hsz
  have hrun : ∀ ty, (Builtin.append_ #[70, 70] ty #[.slice (some ⟨q, 0, none⟩) L.length c, .slice (some ⟨vb, 0, none⟩) 1 1]).run Try.prog w =
      .ok (.slice (some ⟨q, 0, none⟩) (L.length + 1) c) (w.setRow q (flat (L ++ [(k, v)]) ++ r.drop 2).toArray) := fun ty => by
    have h := run_append_roww w 70 70 ty 69 i0 Try.underlying70 hi0 q 0 L.length c _ 1 (flat [(k, v)]) (by rw [hz1]; exact src_one hv) hg cur _ g1 (by rw [hz1, g2, flat_length]; simp; omega)
    rw [hz1, Nat.zero_add, g3, List.take_left' (flat_length L), ← flat_append] at h
    rw [h]
    congr 4
    rw [← List.drop_drop, List.drop_left' (flat_length L), flat_length]
    rfl
  have hW1 := setRow_heap w q cur (flat (L ++ [(k, v)]) ++ r.drop 2).toArray _ _ g1
  have hfin : InsPost w (.slice (some ⟨q, 0, none⟩) L.length c) (L ++ [(k, v)]) (.returned (.slice (some ⟨q, 0, none⟩) (L.length + 1) c)) (w.setRow q (flat (L ++ [(k, v)]) ++ r.drop 2).toArray) := by
    refine ⟨_, rfl, .inr ⟨q, c, by simp, by simpa using hg, hc63, Row.mk_flat _ _ hW1 ?_ rfl⟩, (Fr.refl _ w).setRow (.inl (List.mem_singleton.2 rfl)) _, fun x hx => .inl hx⟩
    rw [List.size_toArray, List.length_append, flat_length, List.length_append, List.length_drop]; simp; omega
  have HF := Lib.hid hfin
  obtain ⟨n, hn'⟩ : ∃ n, L.length = n := ⟨_, rfl⟩
  rw [hn'] at hn hg hrun HF ⊢
  clear hfin hW1 g3 hsz hr hn' hz0 hz1 hz2 hi0 hv
  go_enter Try.func37, Try.ntmps37
  go_wp2_with (at_builtin; refine Lib.wpList_append_run _ rfl _ _ _ _ rfl _ _ rfl rfl _ _ (hrun _) ?_)
  all_goals (go_ret; exact HF.out)

set_option maxHeartbeats 4000000 in
set_option maxRecDepth 100000 in
/-- Amid, there is room: in place. -/
theorem insert_shift (w : World) (q c i : Nat) (L : List (Int × Int)) (k : Int) (v : Int) (vb : Nat) (hn : L.length ≤ 1000) (hi : i < L.length) (hr : Row w q c L) (hg : L.length + 1 ≤ c) (hc63 : c ≤ 9223372036854775807)
    (hv : w.heap[vb]? = some (.cells #[kv k, vv v] 69 (0, 0))) (hvq : vb ≠ q) :
    Calls Try.prog 37 #[.slice (some ⟨q, 0, none⟩) L.length c, .int .i64 i, .slice (some ⟨vb, 0, none⟩) 1 1] w fun e w' => InsPost w (.slice (some ⟨q, 0, none⟩) L.length c) (ins L i (k, v)) e w' := by
  obtain ⟨i0, hi0, hz0, hz1, hz2⟩ := info_parts kept_info
  obtain ⟨cur, r, g1, g2, g3⟩ := hr.toFlat
  have hsize : (Try.prog.info? 69).map (·.size) = some 2 := by rw [hi0]; simp [hz1]
  have hlen : (flat L ++ r).length = c * 2 := by rw [← g3]; simpa using g2
  rw [List.length_append, flat_length] at hlen
  obtain ⟨n, hn'⟩ : ∃ n, L.length = n := ⟨_, rfl⟩
  rw [hn'] at hn hi hg hlen
  have lA : (flat (L.take i)).length = i * 2 := by rw [flat_length, List.length_take, Nat.min_eq_left (by omega)]
  have lB : (flat (L.drop i)).length = (n - i) * 2 := by rw [flat_length, List.length_drop, hn']
  have hcur : cur.toList = flat (L.take i) ++ (flat (L.drop i) ++ r) := by rw [g3, ← List.append_assoc, ← flat_append, List.take_append_drop]
  have hcsz : cur.toList.length = c * 2 := by simpa using g2
  -- the first copy
  obtain ⟨H, hH⟩ : ∃ H, cur.toList.take ((i + 1) * 2) = H := ⟨_, rfl⟩
  have lH : H.length = (i + 1) * 2 := by rw [← hH, List.length_take, hcsz]; omega
  have hHA : H.take (i * 2) = flat (L.take i) := by
    rw [← hH, List.take_take, Nat.min_eq_left (by omega), hcur, List.take_left' lA]
  obtain ⟨T, hT⟩ : ∃ T, cur.toList.drop ((i + 1) * 2 + (flat (L.drop i)).length) = T := ⟨_, rfl⟩
  have lT : T.length = (c - (n + 1)) * 2 := by rw [← hT, List.length_drop, hcsz, lB]; omega
  have hcells : ∀ (j : Nat) u, (flat (L.drop i))[j]? = some u → w.cell? ⟨q, i * 2 + j, none⟩ = some u := fun j u hj =>
    hr.cells i (n - i) j u (by rw [List.take_of_length_le (by rw [List.length_drop, hn']; exact Nat.le_refl _)]; exact hj)
  have hcp1 : ∀ ty dc sc, (Builtin.copy_ #[70, 70] ty #[.slice (some ⟨q, (i + 1) * 2, none⟩) (n - i) dc, .slice (some ⟨q, i * 2, none⟩) (n + 1 - i) sc]).run Try.prog w.drew =
      .ok (goInt ((n - i : Nat) : Int)) (w.drew.setRow q (H ++ flat (L.drop i) ++ T).toArray) := fun ty dc sc => by
    have h := run_copy_roww 2 w.drew 70 70 ty 69 q ((i + 1) * 2) (n - i) dc ⟨q, i * 2, none⟩ (n + 1 - i) sc cur _ (flat (L.drop i)) Try.underlying70 hsize g1 (n - i) (by simp only [Nat.min_def]; split <;> omega) lB
      (fun j u hj => by rw [Addr.add_lit]; exact hcells j u hj) (by rw [lB, g2]; omega) (flat_one _)
    rw [hH, hT] at h
    exact h
  have hW1 := setRow_heap w.drew q cur (H ++ flat (L.drop i) ++ T).toArray _ _ g1
  have hv1 : (w.drew.setRow q (H ++ flat (L.drop i) ++ T).toArray).heap[vb]? = some (.cells #[kv k, vv v] 69 (0, 0)) := by rw [setRow_other _ _ _ _ hvq]; exact hv
  have hcp2 : ∀ ty dc, (Builtin.copy_ #[70, 70] ty #[.slice (some ⟨q, i * 2, none⟩) (n + 1 - i) dc, .slice (some ⟨vb, 0, none⟩) 1 1]).run Try.prog (w.drew.setRow q (H ++ flat (L.drop i) ++ T).toArray) =
      .ok (goInt ((1 : Nat) : Int)) ((w.drew.setRow q (H ++ flat (L.drop i) ++ T).toArray).setRow q (flat (ins L i (k, v)) ++ T).toArray) := fun ty dc => by
    have h := run_copy_roww 2 (w.drew.setRow q (H ++ flat (L.drop i) ++ T).toArray) 70 70 ty 69 q (i * 2) (n + 1 - i) dc ⟨vb, 0, none⟩ 1 1 _ _ (flat [(k, v)]) Try.underlying70 hsize hW1 1 (by simp only [Nat.min_def]; split <;> omega) rfl
      (fun j u hj => by rw [Addr.add_lit, Nat.zero_add]; exact cell_of hv1 (by rw [← hj]; simp [flat])) (by simp [lH, flat]; omega) (flat_one _)
    rw [h]
    congr 3
    simp only [List.append_assoc]
    rw [List.take_append_of_le_length (by omega), hHA, show i * 2 + (flat [(k, v)]).length = H.length by rw [lH]; simp [flat]; omega, List.drop_left, ins, flat_append, show (k, v) :: L.drop i = [(k, v)] ++ L.drop i from rfl, flat_append]
    simp only [List.append_assoc]
  have hfin : InsPost w (.slice (some ⟨q, 0, none⟩) n c) (ins L i (k, v)) (.returned (.slice (some ⟨q, 0, none⟩) (n + 1) c)) ((w.drew.setRow q (H ++ flat (L.drop i) ++ T).toArray).setRow q (flat (ins L i (k, v)) ++ T).toArray) := by
    have hl : (ins L i (k, v)).length = n + 1 := by simp [ins]; omega
    refine ⟨_, rfl, .inr ⟨q, c, by rw [hl], by rw [hl]; exact hg, hc63, Row.mk_flat _ T (setRow_heap _ q _ _ _ _ hW1) ?_ rfl⟩, ((Fr.refl _ w).drew.setRow (.inl (List.mem_singleton.2 rfl)) _).setRow (.inl (List.mem_singleton.2 rfl)) _, fun x hx => .inl hx⟩
    rw [List.size_toArray, List.length_append, flat_length, hl, lT]; omega
  obtain ⟨A1, hA1⟩ : ∃ A, (H ++ flat (L.drop i) ++ T).toArray = A := ⟨_, rfl⟩
  obtain ⟨A2, hA2⟩ : ∃ A, (flat (ins L i (k, v)) ++ T).toArray = A := ⟨_, rfl⟩
  rw [hA1] at hcp1
  rw [hA1, hA2] at hfin
  rw [hA1] at hcp2
  rw [hA2] at hcp2
  have HF := Lib.hid hfin
  have mixed : Try.prog.follows .mixedOrders = true := by kernel_rfl
  have hv0 : w.shape? vb = some (69, 2) := by simp [World.shape?, hv]
  have hq0 : w.shape? q = some (69, c * 2) := by simp [World.shape?, g1, g2]
  have hov : ∀ lb cb, (callFunc 50 #[.slice (some ⟨vb, 0, none⟩) 1 1, .slice (some ⟨q, (i + 1) * 2, none⟩) lb cb]).run Try.prog w = .ok (.value (.bool false)) w := fun lb cb => by
    rw [run_callFunc_extern Try.func50 (by kernel_rfl) (by kernel_rfl) (by kernel_rfl) (e := Extern.SlicesOverlaps.overlaps #[70, 70] #[4]) (by kernel_rfl),
      Lib.run_overlaps_apart w 70 4 69 Try.underlying70 2 (fun w => by simp [sizeOf, typeInfo, hi0, hz1]) ⟨vb, 0, none⟩ ⟨q, (i + 1) * 2, none⟩ 1 1 lb cb hvq _ _ _ _ hv0 hq0 (by omega) (frozen_of hv) (frozen_of hv)]
    rfl
  have hw1 : IntKind.i64.wrap ((i : Int) + 1) = (i : Int) + 1 := by rw [IntKind.wrap_i64]; omega
  have hw2 : IntKind.i64.wrap ((n : Int) + 1) = (n : Int) + 1 := by rw [IntKind.wrap_i64]; omega
  have hb1 : (0 : Int) ≤ (i : Int) + 1 := by omega
  have hin : i ≤ n := by omega
  have hb2 : ¬ (c = i + 1) := by omega
  have hb3 : (i : Int) ≤ (n : Int) + 1 := by omega
  have hb4 : ¬ (c = i) := by omega
  have hb5 : ¬ ((i : Int) = (n : Int)) := by omega
  have hb6 : (n : Int) + 1 ≤ (c : Int) := by omega
  have hb7 : ¬ ((c : Int) < (n : Int) + 1) := by omega
  have hb8 : (i : Int) + 1 ≤ (n : Int) + 1 := by omega
  rw [hn']
  clear hA1 hA2 hfin hW1 g3 g2 hlen hr hn' hz0 hz1 hz2 hi0 hv hcells hH hT lH lT lA lB hHA hcur hcsz hv1 hv0 hq0 hsize g1
  go_enter Try.func37, Try.ntmps37
  go_wp2_with (simp only [hov])
  go_region_law_o (refine step_copy_runI rfl _ _ 70 70 rfl _ _ (by simp [Act.eval, Act.put]) (by simp [Act.eval, Act.put]) (hcp1 _ _ _) ?_)
  go_wp2_with (at_builtin; refine wpList_copy_runI _ rfl _ _ 70 70 rfl _ _ rfl rfl (hcp2 _ _) ?_)
  go_ret
  exact HF.out

set_option maxHeartbeats 4000000 in
set_option maxRecDepth 100000 in
/-- Amid, no room: a new row. -/
theorem insert_grow (w : World) (q c i : Nat) (L : List (Int × Int)) (k : Int) (v : Int) (vb : Nat) (hn : L.length ≤ 1000) (hi : i < L.length) (hr : Row w q c L) (hc : L.length ≤ c) (hg : c < L.length + 1)
    (hv : w.heap[vb]? = some (.cells #[kv k, vv v] 69 (0, 0))) :
    Calls Try.prog 37 #[.slice (some ⟨q, 0, none⟩) L.length c, .int .i64 i, .slice (some ⟨vb, 0, none⟩) 1 1] w fun e w' => InsPost w (.slice (some ⟨q, 0, none⟩) L.length c) (ins L i (k, v)) e w' := by
  obtain ⟨i0, hi0, hz0, hz1, hz2⟩ := info_parts kept_info
  have hsize : (Try.prog.info? 69).map (·.size) = some 2 := by rw [hi0]; simp [hz1]
  have hql := hr.lt
  have hvl := heap_lt hv
  obtain ⟨n, hn'⟩ : ∃ n, L.length = n := ⟨_, rfl⟩
  rw [hn'] at hn hi hg hc
  have lA : (flat (L.take i)).length = i * 2 := by rw [flat_length, List.length_take, Nat.min_eq_left (by omega)]
  have lB : (flat (L.drop i)).length = (n - i) * 2 := by rw [flat_length, List.length_drop, hn']
  have hold : (Builtin.firstCells i0.size i (.slice (some ⟨q, 0, none⟩) i c)).run Try.prog w.drew = .ok (flat (L.take i)).toArray w.drew := by
    rw [hz1]
    refine run_firstCells_some w.drew 2 i ⟨q, 0, none⟩ i c (flat (L.take i)) lA fun j u hj => ?_
    rw [Addr.add_lit]
    have := hr.cells 0 i j u (by rw [List.drop_zero]; exact hj)
    simpa using this
  obtain ⟨G, hG⟩ : ∃ G, grownCap w (n + 1) c 69 = G := ⟨_, rfl⟩
  have hG1 : n + 1 ≤ G := by rw [← hG]; exact grownCap_ge w _ _ _
  have hG2 : G ≤ 9223372036854775807 := by
    have := grownCap_le_maxLen w (n + 1) c 69 (by unfold maxLen; omega)
    rw [hG] at this; unfold maxLen at this; omega
  obtain ⟨B, hB⟩ : ∃ B, w.heap.size = B := ⟨_, rfl⟩
  have hik : i + (n + 1 - i) = n + 1 := by omega
  have hkk : (n : Int) + 1 - (i : Int) = ((n + 1 - i : Nat) : Int) := by omega
  obtain ⟨R0, hR0⟩ : ∃ A, (flat (L.take i)).toArray ++ Builtin.zeroCells (Value.agg #[kv k0, vv v0]).cells (n + 1 - i) ++ Builtin.zeroCells (Value.agg #[kv k0, vv v0]).cells (G - (n + 1)) = A := ⟨_, rfl⟩
  have hrz : ∀ ty, (Builtin.append_ #[70, 3] ty #[.slice (some ⟨q, 0, none⟩) i c, .int .i64 ((n : Int) + 1 - (i : Int))]).run Try.prog w =
      .ok (.slice (some ⟨B, 0, none⟩) (n + 1) G) (w.drew.alloc (.cells R0 69 (0, 0))) := fun ty => by
    have h := Lib.run_append_grow_zeros w 70 3 ty 69 i0 _ .i64 .i64 Try.underlying70 Try.underlying3 hi0 hz0 (some ⟨q, 0, none⟩) i c (flat (L.take i)) hold (n + 1 - i) (by omega) (by omega) (by omega) (by omega) (by rw [hz2]; omega) (by rw [hz2, hik]; exact growslice_fits hg (by omega))
    rw [hik, hG, hR0, hB] at h
    rw [hkk]
    exact h
  have hRl : R0.toList = flat (L.take i) ++ ((Builtin.zeroCells (Value.agg #[kv k0, vv v0]).cells (n + 1 - i)).toList ++ (Builtin.zeroCells (Value.agg #[kv k0, vv v0]).cells (G - (n + 1))).toList) := by rw [← hR0]; simp
  have hRs : R0.size = G * 2 := by rw [← hR0, Array.size_append, Array.size_append, zero_size, zero_size, List.size_toArray, lA]; omega
  have hb := heap_alloc_new w.drew (.cells R0 69 (0, 0))
  have hbB : (w.drew.alloc (.cells R0 69 (0, 0))).heap[B]? = some (.cells R0 69 (0, 0)) := by rw [← hB]; exact hb
  obtain ⟨W1, hW1⟩ : ∃ W, w.drew.alloc (.cells R0 69 (0, 0)) = W := ⟨_, rfl⟩
  rw [hW1] at hbB
  have hv1 : W1.heap[vb]? = some (.cells #[kv k, vv v] 69 (0, 0)) := by rw [← hW1]; exact heap_alloc_keep (w := w.drew) hv _
  obtain ⟨R1, hR1⟩ : ∃ A, (R0.toList.take (i * 2) ++ flat [(k, v)] ++ R0.toList.drop (i * 2 + (flat [(k, v)]).length)).toArray = A := ⟨_, rfl⟩
  have hR1l : R1.toList.length = G * 2 := by
    rw [← hR1]
    have h1 : R0.toList.length = G * 2 := by simpa using hRs
    have h2 : (flat [(k, v)]).length = 2 := rfl
    simp only [List.length_append, List.length_take, List.length_drop, h1, h2]; omega
  have hR1t : R1.toList.take ((i + 1) * 2) = flat (L.take i) ++ flat [(k, v)] := by
    rw [← hR1, hRl, List.take_left' lA]
    have h2 : (flat (L.take i) ++ flat [(k, v)]).length = (i + 1) * 2 := by rw [List.length_append, lA]; simp [flat]; omega
    rw [List.take_left' h2]
  have hcpA : ∀ (W : World), W.heap = W1.heap → ∀ ty dc, (Builtin.copy_ #[70, 70] ty #[.slice (some ⟨B, i * 2, none⟩) (n + 1 - i) dc, .slice (some ⟨vb, 0, none⟩) 1 1]).run Try.prog W =
      .ok (goInt ((1 : Nat) : Int)) (W.setRow B R1) := fun W hW ty dc => by
    have h := run_copy_roww 2 W 70 70 ty 69 B (i * 2) (n + 1 - i) dc ⟨vb, 0, none⟩ 1 1 R0 _ (flat [(k, v)]) Try.underlying70 hsize (by rw [hW]; exact hbB) 1 (by simp only [Nat.min_def]; split <;> omega) rfl
      (fun j u hj => by rw [Addr.add_lit, Nat.zero_add]; exact cell_of (by rw [hW]; exact hv1) (by rw [← hj]; simp [flat])) (by rw [hRs]; simp [flat]; omega) (flat_one _)
    rw [hR1] at h
    exact h
  obtain ⟨T, hT⟩ : ∃ T, R1.toList.drop ((i + 1) * 2 + (flat (L.drop i)).length) = T := ⟨_, rfl⟩
  have lT : T.length = (G - (n + 1)) * 2 := by rw [← hT, List.length_drop, hR1l, lB]; omega
  have hqB : q ≠ B := by omega
  have hcq : ∀ (j : Nat) u, (flat (L.drop i))[j]? = some u → W1.cell? ⟨q, i * 2 + j, none⟩ = some u := fun j u hj => by
    rw [← hW1]
    have := hr.cells i (n - i) j u (by rw [List.take_of_length_le (by rw [List.length_drop, hn']; exact Nat.le_refl _)]; exact hj)
    exact Lib.cell?_alloc_some (W := w.drew) _ this
  have hcpB : ∀ (W : World), W.heap = (W1.setRow B R1).heap → ∀ ty dc sc, (Builtin.copy_ #[70, 70] ty #[.slice (some ⟨B, (i + 1) * 2, none⟩) (n - i) dc, .slice (some ⟨q, i * 2, none⟩) (n - i) sc]).run Try.prog W =
      .ok (goInt ((n - i : Nat) : Int)) (W.setRow B (flat (ins L i (k, v)) ++ T).toArray) := fun W hW ty dc sc => by
    have h := run_copy_roww 2 W 70 70 ty 69 B ((i + 1) * 2) (n - i) dc ⟨q, i * 2, none⟩ (n - i) sc R1 _ (flat (L.drop i)) Try.underlying70 hsize (by rw [hW]; exact setRow_heap W1 B R0 R1 _ _ hbB) (n - i) (by simp only [Nat.min_def]; split <;> omega) lB
      (fun j u hj => by
        have := hcq j u hj
        rw [← cell_setRow_other W1 B R1 ⟨q, i * 2 + j, none⟩ hqB] at this
        rw [Addr.add_lit, ← this]
        unfold World.cell?; rw [hW]) (by rw [lB, ← Array.length_toList, hR1l]; omega) (flat_one _)
    rw [hT, hR1t] at h
    rw [h]
    congr 3
    rw [ins, flat_append, show (k, v) :: L.drop i = [(k, v)] ++ L.drop i from rfl, flat_append]
    simp only [List.append_assoc]
  obtain ⟨R2, hR2⟩ : ∃ A, (flat (ins L i (k, v)) ++ T).toArray = A := ⟨_, rfl⟩
  rw [hR2] at hcpB
  have hfin : ∀ W, Fr [] w W → W.heap[B]? = some (.cells R2 69 (0, 0)) → InsPost w (.slice (some ⟨q, 0, none⟩) n c) (ins L i (k, v)) (.returned (.slice (some ⟨B, 0, none⟩) (n + 1) G)) W := fun W fW hW => by
    have hl : (ins L i (k, v)).length = n + 1 := by simp [ins]; omega
    refine ⟨_, rfl, .inr ⟨B, G, by rw [hl], by rw [hl]; exact hG1, hG2, Row.mk_flat R2 T hW ?_ (by rw [← hR2])⟩, fW.mono (by simp), fun x hx => ?_⟩
    · rw [← hR2, List.size_toArray, List.length_append, flat_length, hl, lT]; omega
    · simp [rowsOf] at hx; subst hx; exact .inr (by rw [hB]; exact Nat.le_refl _)
  have HF := Lib.hid hfin
  have HB := Lib.hid hB
  have HbB := Lib.hid hbB
  have mixed : Try.prog.follows .mixedOrders = true := by kernel_rfl
  have hw1 : IntKind.i64.wrap ((i : Int) + 1) = (i : Int) + 1 := by rw [IntKind.wrap_i64]; omega
  have hb1 : (0 : Int) ≤ (i : Int) + 1 := by omega
  have hin : i ≤ n := by omega
  have hb2 : ¬ (c = i) := by omega
  have hb3 : ¬ (G = i) := by omega
  have hb4 : ¬ (G = i + 1) := by omega
  have hb5 : ¬ ((i : Int) = (n : Int)) := by omega
  have hb7 : (c : Int) < (n : Int) + 1 := by omega
  have hb8 : (i : Int) + 1 ≤ (n : Int) + 1 := by omega
  have hb9 : (i : Int) ≤ (n : Int) + 1 := by omega
  have hb10 : i ≤ c := by omega
  have hb11 : i ≤ n + 1 := by omega
  rw [hn']
  subst hW1
  have hcpB' := hcpB ((((w.alloc (.cells R0 69 (0, 0))).drew).setRow B R1).drew) rfl
  have hcpA' := hcpA ((w.alloc (.cells R0 69 (0, 0))).drew) rfl
  clear hfin hr hn' hz0 hz1 hz2 hi0 hv hT lT lA lB hv1 hsize hold hG hR0 hRl hRs hR1 hR1l hR1t hik hkk hcq hR2 hB hb hbB hql hvl hqB
  go_enter Try.func37, Try.ntmps37
  go_wp2_with (first
    | (at_builtin; refine Lib.wpList_append_run _ rfl _ _ _ _ rfl _ _ rfl rfl _ _ (hrz _) ?_)
    | (at_builtin; refine wpList_copy_runI _ rfl _ _ 70 70 rfl _ _ rfl rfl (hcpA' _ _) ?_))
  go_region_law_o (refine step_copy_runI rfl _ _ 70 70 rfl _ _ (by simp [Act.eval, Act.put]) (by simp [Act.eval, Act.put]) (hcpB' _ _ _) ?_)
  go_wp2
  go_ret
  refine HF.out _ ?_ (setRow_heap _ B R1 R2 _ _ (setRow_heap _ B R0 R1 _ _ HbB.out))
  repeat first
    | exact Fr.refl _ _
    | refine Fr.drew ?_
    | refine Fr.alloc ?_ _
    | refine Fr.setRow ?_ (.inr (Nat.le_of_eq HB.out)) _

end Go.Proofs.Ytamnmpcnhaeigaa.TabI
