/- The document's Queue: its swaps. -/
import Derived.Test.YtdpefnebghljoaaQuU
namespace Go.Proofs.Ytdpefnebghljoaa
open Go.RowKit

/-- What a swap leaves. -/
def SwPost (w : World) (p pm qm : Nat) (c : ConfV) (s' : QuS) (M' : List Int) (t' : Int) (en : Ending) (w' : World) : Prop :=
  en = .returned (.tuple #[]) ∧ RqAt w' p c s' ∧ MemAt 60 w' pm qm M' t' ∧ Fr [p, pm, qm] w w'
/-- All of a list behind an empty one of the call's own. -/
theorem wp_append_all_own {P : Program} {o : Oper} {a : Act} {K : Act → World → Prop} {Q : Exit → Act → World → Prop} (w : World) (s x : Operand) (t : TypeId)
    (ho : o.op = .call { callee := .builtin .append, args := #[s, x], argTypes := #[t, t] })
    (i : TypeInfo) (ht : P.underlying t = some (.slice 3)) (hi : P.info? 3 = some i) (hz : i.zero = some (.int .i64 0)) (h1s : i.size = 1) (h8 : i.bytes = 8)
    (base b : Nat) (hs : a.eval s = .slice (some ⟨b, 0, none⟩) 0 0) (hb : w.heap[b]? = some (.cells #[] 3)) (hbb : base ≤ b)
    (g : Option Addr) (c n : Nat) (L : List Int) (hn : n = L.length) (hx : a.eval x = .slice g n c) (hI : IntsAt w g L)
    (hlen : L.length ≤ 100000) (hbase : base ≤ w.heap.size)
    (h : ∀ v' w', w'.ownsRow base 3 1 v' n (L.map (Value.int .i64)) → Fr [b] w w' → K (a.put o.dst v') w') : o.wp P a w K Q := by
  subst hn
  have hown : w.ownsRow base 3 1 (.slice (some ⟨b, 0, none⟩) 0 0) 0 [] := ⟨by simp, .inr ⟨b, 0, #[], rfl, hbb, hb, Nat.le_refl _, by unfold maxLen; omega, by simp, by simp⟩⟩
  have key : ∃ v' w', (Builtin.append_ #[t, t] o.type #[.slice (some ⟨b, 0, none⟩) 0 0, .slice g L.length c]).run P w = .ok v' w' ∧ w'.ownsRow base 3 1 v' L.length (L.map (Value.int .i64)) ∧ Fr [b] w w' := by
    by_cases hL : L = []
    · subst hL
      refine ⟨_, _, ?_, hown, Fr.refl _ _⟩
      cases g <;> simp [Builtin.append_, run_underlying ht, sizeOf, typeInfo, hi, Builtin.lenOf, Builtin.firstCells, loadCells, loadCellsFrom, storeCells]
    · obtain ⟨b', o', rfl, hc⟩ := hI.base hL
      obtain ⟨v', w', hr, h2, h3, _⟩ := run_append_own (P := P) w base t o.type 3 i (.int .i64 0) 1 8 ht hi hz h1s h8 rfl (by decide) _ 0 [] hown ⟨b', o', none⟩ L.length c (L.map (Value.int .i64)) (by simp) (fun j u hu => by
        rw [List.getElem?_map] at hu
        cases hj : L[j]? with
        | none => rw [hj] at hu; cases hu
        | some z =>
          rw [hj] at hu
          simp only [Option.map_some, Option.some.injEq] at hu
          subst hu
          rw [Addr.add_lit]
          exact hc j z hj) (fun u hu => by obtain ⟨z, _, rfl⟩ := List.mem_map.1 hu; rfl) (by unfold maxLen; omega) (by omega) hbase
      simp only [Nat.zero_add, List.nil_append] at h2
      exact ⟨v', w', hr, h2, (Fr.refl [b] w).grown h3 (fun k hk => .inl (by simp [Value.ownBlock] at hk; simp; omega))⟩
  obtain ⟨v', w', hr, h2, h3⟩ := key
  unfold Oper.wp execOp
  simp only [ho, resolve, invoke, builtin, Sem.run_bind, Sem.run_pure, Result.andThen_ok, List.map_toArray, List.map_cons, List.map_nil, hs, hx, hr]
  exact h v' w' h2 h3
theorem cell_one_of {w : World} {b : Nat} {v : Value} (h : w.cell? ⟨b, 0, none⟩ = some v) : ∀ (j : Nat) (u : Value), [v][j]? = some u → w.cell? ((⟨b, 0, none⟩ : Addr).add j) = some u := fun j u hu => by
  cases j with
  | zero => simp at hu; subst hu; exact h
  | succ j => simp at hu

set_option maxHeartbeats 8000000 in
set_option maxRecDepth 100000 in
theorem rswaps_push1 (w : World) (p pm qm : Nat) (c : ConfV) (s : QuS) (M : List Int) (t : Int) (h : RqAt w p c s) (hM : MemAt 60 w pm qm M t) (ht0 : 0 ≤ t) (ht1 : t ≤ 1000000) (hp : p ≠ pm ∧ p ≠ qm) (hn : s.nx = .push) (hm : MOk M) (hok : Ln (s.line ++ [s.w])) (hL : Ln s.line) (hcs : casB M 1 (wd s.line : Int) = true) :
    Calls Try.prog 46 #[.pointer (some ⟨p, 0, none⟩), .pointer (some ⟨pm, 0, none⟩)] w (SwPost w p pm qm c ({ s with nx := .closed }) (M.set 1 (wd (s.line ++ [s.w]) : Int)) (t + 1)) := by
  obtain ⟨i0, hi, hz0, hz1, hz2⟩ := info_parts info_int
  obtain ⟨st, hst⟩ : ∃ x, x = QSt.push.str := ⟨_, rfl⟩
  have est_come : (st.toList == [67, 79, 77, 69]) = false := by rw [hst]; decide +kernel
  have est_push : (st.toList == [80, 85, 83, 72]) = true := by rw [hst]; decide +kernel
  have est_closed : (st.toList == [67, 76, 79, 83, 69, 68]) = false := by rw [hst]; decide +kernel
  have est_look : (st.toList == [76, 79, 79, 75]) = false := by rw [hst]; decide +kernel
  have est_drop : (st.toList == [68, 82, 79, 80]) = false := by rw [hst]; decide +kernel
  have est_head : (st.toList == [70, 73, 82, 83, 84]) = false := by rw [hst]; decide +kernel
  have est_pop : (st.toList == [80, 79, 80]) = false := by rw [hst]; decide +kernel
  have est_tell : (st.toList == [84, 69, 76, 76]) = false := by rw [hst]; decide +kernel
  have est_done : (st.toList == [68, 79, 78, 69]) = false := by rw [hst]; decide +kernel
  have q8 : w.cell? ⟨p, 8, none⟩ = some (.string st) := by rw [cell_of (i := 8) h rfl, hst]; show some (Value.string s.nx.str) = _; rw [hn]
  have z8 := frozen_of (i := 8) h
  obtain ⟨L, hLl⟩ : ∃ L, L = s.line := ⟨_, rfl⟩
  obtain ⟨R, hR⟩ : ∃ R, R = s.line ++ [s.w] := ⟨_, rfl⟩
  rw [← hR] at hok ⊢
  have q6 : w.cell? ⟨p, 6, none⟩ = some (.int .i64 (wd L : Int)) := by rw [hLl]; exact cell_of (i := 6) h rfl
  have HR := Lib.hid (show R = L ++ [s.w] by rw [hR, hLl])
  rw [← hLl] at hL hcs
  have HT1 := Lib.hid (show tch M 1 = 1 by unfold tch; rw [if_pos (isIn_yes (by omega) (by have := hm.1; omega))])
  have HCB := Lib.hid hcs
  have HCL := Lib.hid (show casL M 1 (wd L : Int) (wd R : Int) = M.set 1 (wd R : Int) by unfold casL; rw [hcs]; rfl)
  obtain ⟨nl, hnl⟩ : ∃ nl, nl = L.length := ⟨_, rfl⟩
  have HNL := Lib.hid hnl
  have HLS := Lib.hid hLl
  have HL15 := Lib.hid (show nl ≤ 15 by rw [hnl]; exact hL.length)
  have HLL := Lib.hid hL; have HOK := Lib.hid hok; have HP := Lib.hid hp; have H := Lib.hid h; have HM := Lib.hid hM
  clear h hM hn hst hp hR hLl hL hok hcs hm hnl
  go_enter Try.func46, Try.ntmps46
  go_wp2_with fail
  refine (ref_list_own w (wd L : Int) (by have := wd_lt HLL.out; omega)).mono ?_
  rintro en w1 ⟨v1, rfl, hown1, f1⟩
  rw [refLi_wd HLL.out] at hown1
  obtain ⟨g3, c3, rfl, hI3⟩ := row_ints hown1
  have hg3 : ∀ a, g3 = some a → a.block ∉ [p] := fun a ha => by
    subst ha
    have h1 := (hown1.lt a.block rfl).1
    have h2 := heap_lt (show w.heap[p]? = some _ from H.out)
    simp; omega
  rw [← HNL.out]
  have h1 := H.out.fr f1 (by simp)
  have q8 := f1.cell q8 (by simp)
  have z8 := frozen_of (i := 8) h1
  have FS := (Fr.refl [p] w1).setCell (p := ⟨p, 8, none⟩) (.inl (by simp)) (.string ⟨#[67, 79, 77, 69]⟩)
  have H2 := Lib.hid (show RqAt (w1.setCell ⟨p, 8, none⟩ (.string ⟨#[67, 79, 77, 69]⟩)) p c { s with nx := .come } from h1.setNx .come)
  have HM2 := Lib.hid ((HM.out.fr f1 (by simp) (by simp)).fr FS (by simp; exact Ne.symm HP.out.1) (by simp; exact Ne.symm HP.out.2))
  have HF2 := Lib.hid ((f1.mono (S' := [p, pm, qm]) (by simp)).trans (FS.mono (by simp)))
  have HI2 := Lib.hid (hI3.fr FS hg3)
  have q5 := cell_of (i := 5) H2.out rfl
  have q6 : (w1.setCell ⟨p, 8, none⟩ (.string ⟨#[67, 79, 77, 69]⟩)).cell? ⟨p, 6, none⟩ = some (.int .i64 (wd L : Int)) := by rw [HLS.out]; exact cell_of (i := 6) H2.out rfl
  have q5 : (w1.setCell ⟨p, 8, none⟩ (.string ⟨#[67, 79, 77, 69]⟩)).cell? ⟨p, 5, none⟩ = some (.int .i64 s.w) := q5
  clear h1 f1 FS H HM hI3 hown1 hg3
  go_wp2_with fail
  generalize w1.setCell ⟨p, 8, none⟩ (.string ⟨#[67, 79, 77, 69]⟩) = w2 at H2 HM2 HF2 HI2 q5 q6 ⊢
  clear q8 z8
  have hp2 := heap_lt (show w2.heap[p]? = some _ from H2.out)
  have F0 := (Fr.refl [] w2).drew
  refine wp_region_held_drew (S := fun w' => w'.cell? ⟨p, 5, none⟩ = some (.int .i64 s.w) ∧ w'.cell? ⟨p, 6, none⟩ = some (.int .i64 (wd L : Int))) (by kernel_rfl) ⟨q5, q6⟩ (fun hHeld => ?_)
  refine wpAnyH_take (i := 0) (oi := _) (v := ?_) rfl (by kernel_rfl) (by kernel_rfl) (by kernel_rfl) (fun _ _ _ h => h) (Or.inl ⟨by rfl, ?_⟩) (by assumption) ?_
  rotate_left
  · intro w hSw
    try dsimp only at hSw
    try simp only [List.getElem_toArray, List.getElem_cons_zero]
    go_split_ands
    go_simp
    try with_reducible rfl
  try simp only [Act.put, List.getElem_toArray, List.getElem_cons_zero, List.setIfInBounds_toArray, List.set_cons_zero, List.set_cons_succ]
  refine wpAnyH_take (i := 1) (oi := _) (v := ?_) rfl (by kernel_rfl) (by kernel_rfl) (by kernel_rfl) (fun _ _ _ h => h) (Or.inl ⟨by rfl, ?_⟩) (by assumption) ?_
  rotate_left
  · intro w hSw
    try dsimp only at hSw
    try simp only [List.getElem_toArray, List.getElem_cons_succ, List.getElem_cons_zero]
    go_split_ands
    go_simp
    try with_reducible rfl
  try simp only [Act.put, List.getElem_toArray, List.getElem_cons_succ, List.getElem_cons_zero, List.setIfInBounds_toArray, List.set_cons_zero, List.set_cons_succ]
  refine wpAnyH_take (i := 2) (oi := _) (v := ?_) rfl (by kernel_rfl) (by kernel_rfl) (by kernel_rfl) (fun _ _ _ h => h) (Or.inl ⟨by rfl, ?_⟩) (by assumption) ?_
  rotate_left
  · intro w hSw
    try dsimp only at hSw
    try simp only [List.getElem_toArray, List.getElem_cons_succ, List.getElem_cons_zero]
    go_split_ands
    go_simp
    try with_reducible rfl
  try simp only [Act.put, List.getElem_toArray, List.getElem_cons_succ, List.getElem_cons_zero, List.setIfInBounds_toArray, List.set_cons_zero, List.set_cons_succ]
  refine wpAnyH_take (i := 3) (oi := _) (v := ?_) rfl (by kernel_rfl) (by kernel_rfl) (by kernel_rfl) (fun _ _ _ h => h) (Or.inl ⟨by rfl, ?_⟩) (by assumption) ?_
  rotate_left
  · intro w hSw
    try dsimp only at hSw
    try simp only [List.getElem_toArray, List.getElem_cons_succ, List.getElem_cons_zero]
    go_split_ands
    go_simp
    try with_reducible rfl
  try simp only [Act.put, List.getElem_toArray, List.getElem_cons_succ, List.getElem_cons_zero, List.setIfInBounds_toArray, List.set_cons_zero, List.set_cons_succ]
  refine wpAnyH_take (i := 4) (oi := _) (v := ?_) rfl (by kernel_rfl) (by kernel_rfl) (by kernel_rfl) (fun _ _ _ h => h) (Or.inl ⟨by rfl, ?_⟩) (by assumption) ?_
  rotate_left
  · intro w hSw
    try dsimp only at hSw
    try simp only [List.getElem_toArray, List.getElem_cons_succ, List.getElem_cons_zero]
    go_split_ands
    go_simp
    try with_reducible rfl
  try simp only [Act.put, List.getElem_toArray, List.getElem_cons_succ, List.getElem_cons_zero, List.setIfInBounds_toArray, List.set_cons_zero, List.set_cons_succ]
  refine wpAnyH_take (i := 6) (oi := _) (v := ?_) rfl (by kernel_rfl) (by kernel_rfl) (by kernel_rfl) (fun _ _ _ h => h) (Or.inl ⟨by rfl, ?_⟩) (by assumption) ?_
  rotate_left
  · intro w hSw
    try dsimp only at hSw
    try simp only [List.getElem_toArray, List.getElem_cons_succ, List.getElem_cons_zero]
    go_split_ands
    go_simp
    try with_reducible rfl
  try simp only [Act.put, List.getElem_toArray, List.getElem_cons_succ, List.getElem_cons_zero, List.setIfInBounds_toArray, List.set_cons_zero, List.set_cons_succ]
  refine wpAnyH_take (i := 8) (oi := _) (v := ?_) rfl (by kernel_rfl) (by kernel_rfl) (by kernel_rfl) (fun _ _ _ h => h) (Or.inl ⟨by rfl, ?_⟩) (by assumption) ?_
  rotate_left
  · intro w hSw
    try dsimp only at hSw
    try simp only [List.getElem_toArray, List.getElem_cons_succ, List.getElem_cons_zero]
    go_split_ands
    go_simp
    try with_reducible rfl
  try simp only [Act.put, List.getElem_toArray, List.getElem_cons_succ, List.getElem_cons_zero, List.setIfInBounds_toArray, List.set_cons_zero, List.set_cons_succ]
  refine wpAnyH_take (i := 9) (oi := _) (v := ?_) rfl (by kernel_rfl) (by kernel_rfl) (by kernel_rfl) (fun _ _ _ h => h) (Or.inl ⟨by rfl, ?_⟩) (by assumption) ?_
  rotate_left
  · intro w hSw
    try dsimp only at hSw
    try simp only [List.getElem_toArray, List.getElem_cons_succ, List.getElem_cons_zero]
    go_split_ands
    go_simp
    try with_reducible rfl
  try simp only [Act.put, List.getElem_toArray, List.getElem_cons_succ, List.getElem_cons_zero, List.setIfInBounds_toArray, List.set_cons_zero, List.set_cons_succ]
  refine wpAnyH_take (i := 10) (oi := _) (v := ?_) rfl (by kernel_rfl) (by kernel_rfl) (by kernel_rfl) (fun _ _ _ h => h) (Or.inl ⟨by rfl, ?_⟩) (by assumption) ?_
  rotate_left
  · intro w hSw
    try dsimp only at hSw
    try simp only [List.getElem_toArray, List.getElem_cons_succ, List.getElem_cons_zero]
    go_split_ands
    go_simp
    try with_reducible rfl
  try simp only [Act.put, List.getElem_toArray, List.getElem_cons_succ, List.getElem_cons_zero, List.setIfInBounds_toArray, List.set_cons_zero, List.set_cons_succ]
  refine wpAnyH_take (i := 11) (oi := _) (v := ?_) rfl (by kernel_rfl) (by kernel_rfl) (by kernel_rfl) (fun _ _ _ h => h) (Or.inl ⟨by rfl, ?_⟩) (by assumption) ?_
  rotate_left
  · intro w hSw
    try dsimp only at hSw
    try simp only [List.getElem_toArray, List.getElem_cons_succ, List.getElem_cons_zero]
    go_split_ands
    go_simp
    try with_reducible rfl
  try simp only [Act.put, List.getElem_toArray, List.getElem_cons_succ, List.getElem_cons_zero, List.setIfInBounds_toArray, List.set_cons_zero, List.set_cons_succ]
  clear hHeld
  have q5 : w2.drew.cell? ⟨p, 5, none⟩ = some (.int .i64 s.w) := q5
  have q6 : w2.drew.cell? ⟨p, 6, none⟩ = some (.int .i64 (wd L : Int)) := q6
  have Fd := Lib.hid F0
  have HI2 := Lib.hid (HI2.out.fr F0 (by simp))
  generalize w2.drew = wd0 at q5 q6 F0 Fd HI2 ⊢
  clear F0
  have hs0 := Fd.out.size
  have F0 := Fr.refl [] wd0
  obtain ⟨B0, hB0⟩ : ∃ B0, B0 = wd0.heap.size := ⟨_, rfl⟩
  have HB0 := Lib.hid hB0
  clear hB0
  refine wpAnyH_ready (rs := [5, 12]) (by kernel_rfl) (by simp) ?_
  refine AllReadyH.cons (o := _) rfl (fun K hK => ?_) (AllReadyH.cons (o := _) rfl (fun K hK => ?_) (AllReadyH.nil))
  · simp only [List.getElem_toArray, List.getElem_cons_succ, List.getElem_cons_zero]
    go_simp
    have F1 := F0.alloc (.cells #[] 3)
    have hb5 := heap_alloc_new (wd0) (.cells #[] 3)
    have hn5 : B0 ≤ (wd0).heap.size := by rw [HB0.out]; exact F0.size
    have HB5 := Lib.hid hb5
    clear hb5
    refine hK.out _ _ ⟨F1.cell q5 (by simp), F1.cell q6 (by simp)⟩ (fun hHeld => ?_)
    clear hK K
    try simp only [Act.put, List.getElem_toArray, List.getElem_cons_succ, List.getElem_cons_zero, List.setIfInBounds_toArray, List.set_cons_zero, List.set_cons_succ]
    obtain ⟨b5, hb5⟩ : ∃ b5, b5 = (wd0).heap.size := ⟨_, rfl⟩
    rw [← hb5] at HB5 hn5 ⊢
    clear hb5
    generalize World.alloc (wd0) (.cells #[] 3) = w101 at HB5 F1 ⊢
    refine wpAnyH_ready (rs := [7, 12]) (by kernel_rfl) (by simp) ?_
    refine AllReadyH.cons (o := _) rfl (fun K hK => ?_) (AllReadyH.cons (o := _) rfl (fun K hK => ?_) (AllReadyH.nil))
    · simp only [List.getElem_toArray, List.getElem_cons_succ, List.getElem_cons_zero]
      rw [if_pos (by rfl)]
      refine wp_append_all_own _ _ _ 26 rfl i0 Try.underlying26 hi hz0 hz1 hz2 B0 b5 rfl HB5.out hn5 g3 c3 nl L HNL.out rfl (HI2.out.fr F1 (by simp)) (by rw [← HNL.out]; have := HL15.out; omega) (by rw [HB0.out]; exact F1.size) ?_
      intro v7 w102 hown7 f7
      have F2 := F1.then f7 (fun x hx => .inr (by rw [List.mem_singleton.1 hx, ← HB0.out]; exact hn5))
      have HO7 := Lib.hid hown7
      refine hK.out _ _ ⟨F2.cell q5 (by simp), F2.cell q6 (by simp)⟩ (fun hHeld => ?_)
      clear hK K hown7 f7
      try simp only [Act.put, List.getElem_toArray, List.getElem_cons_succ, List.getElem_cons_zero, List.setIfInBounds_toArray, List.set_cons_zero, List.set_cons_succ]
      refine wpAnyH_ready (rs := [12]) (by kernel_rfl) (by simp) ?_
      refine AllReadyH.cons (o := _) rfl (fun K hK => ?_) (AllReadyH.nil)
      simp only [List.getElem_toArray, List.getElem_cons_succ, List.getElem_cons_zero]
      go_simp
      have F3 := F2.alloc (.cells #[.int .i64 s.w] 3)
      have c12 := cell_of (i := 0) (heap_alloc_new (w102) (.cells #[.int .i64 s.w] 3)) rfl
      have HO7 := Lib.hid (row_keep HO7.out ((Fr.refl [] (w102)).alloc (.cells #[.int .i64 s.w] 3)) (by simp))
      refine hK.out _ _ ⟨F3.cell q5 (by simp), F3.cell q6 (by simp)⟩ (fun hHeld => ?_)
      clear hK K
      try simp only [Act.put, List.getElem_toArray, List.getElem_cons_succ, List.getElem_cons_zero, List.setIfInBounds_toArray, List.set_cons_zero, List.set_cons_succ]
      obtain ⟨b12, hb12⟩ : ∃ b12, b12 = (w102).heap.size := ⟨_, rfl⟩
      rw [← hb12] at c12 ⊢
      clear hb12
      generalize World.alloc (w102) (.cells #[.int .i64 s.w] 3) = w103 at c12 F3 HO7 ⊢
      refine wpAnyH_ready (rs := [13]) (by kernel_rfl) (by simp) ?_
      refine AllReadyH.cons (o := _) rfl (fun K hK => ?_) (AllReadyH.nil)
      simp only [List.getElem_toArray, List.getElem_cons_succ, List.getElem_cons_zero]
      rw [if_pos (by rfl)]
      refine wp_append_own _ _ _ 26 rfl B0 3 i0 (.int .i64 0) 1 8 Try.underlying26 hi hz0 hz1 hz2 rfl (by decide) _ nl _ rfl HO7.out ⟨b12, 0, none⟩ 1 1 [.int .i64 s.w] rfl rfl (cell_one_of c12) (by simp [Value.oneCell']) (by have := HL15.out; unfold maxLen; omega) (by have := HL15.out; omega) (by rw [HB0.out]; exact F3.size) ?_
      intro v13 w104 hown13 hgrow _
      have F4 := F3.grown hgrow (fun k hk => .inr (by rw [← HB0.out]; exact (HO7.out.lt k hk).1))
      obtain ⟨g13, c13, rfl, hI13⟩ := row_ints (L := R) (by rw [HR.out]; simpa [HNL.out] using hown13)
      have HI13 := Lib.hid hI13
      refine hK.out _ _ ⟨F4.cell q5 (by simp), F4.cell q6 (by simp)⟩ (fun hHeld => ?_)
      clear hK K hown13 hgrow hI13
      try simp only [Act.put, List.getElem_toArray, List.getElem_cons_succ, List.getElem_cons_zero, List.setIfInBounds_toArray, List.set_cons_zero, List.set_cons_succ]
      refine wpAnyH_ready (rs := [14]) (by kernel_rfl) (by simp) ?_
      refine AllReadyH.cons (o := _) rfl (fun K hK => ?_) AllReadyH.nil
      simp only [List.getElem_toArray, List.getElem_cons_succ, List.getElem_cons_zero]
      go_simp
      refine (ref_word_any w104 g13 c13 R HOK.out HI13.out).mono ?_
      rintro en wx ⟨rfl, fx⟩
      have Fx := F4.trans fx
      go_wp2_with fail
      refine hK.out _ _ ⟨Fx.cell q5 (by simp), Fx.cell q6 (by simp)⟩ (fun hHeld => ?_)
      clear hK K fx
      try simp only [Act.put, List.getElem_toArray, List.getElem_cons_succ, List.getElem_cons_zero, List.setIfInBounds_toArray, List.set_cons_zero, List.set_cons_succ]
      have hcas := rcas_any wx pm qm M t 1 (wd L : Int) (wd R : Int) ((HM2.out.fr Fd.out (by simp) (by simp)).fr Fx (by simp) (by simp)) ht0 (by omega)
      rw [HCB.out, HCL.out, HT1.out] at hcas
      have HCAS := Lib.hid hcas
      clear hcas
      refine wpAnyH_ready (rs := [15]) (by kernel_rfl) (by simp) ?_
      refine AllReadyH.cons (o := _) rfl (fun K hK => ?_) AllReadyH.nil
      simp only [List.getElem_toArray, List.getElem_cons_succ, List.getElem_cons_zero]
      go_simp
      refine HCAS.out.mono ?_
      rintro en wy ⟨rfl, hmy, fy⟩
      go_wp2_with fail
      refine hK.out _ _ ⟨fy.cell (Fx.cell q5 (by simp)) (by simp; exact HP.out), fy.cell (Fx.cell q6 (by simp)) (by simp; exact HP.out)⟩ (fun hHeld => ?_)
      clear hK K
      try simp only [Act.put, List.getElem_toArray, List.getElem_cons_succ, List.getElem_cons_zero, List.setIfInBounds_toArray, List.set_cons_zero, List.set_cons_succ]
      refine wpAnyH_done (by kernel_rfl) ?_ _
      have hy := ((H2.out.fr Fd.out (by simp)).fr Fx (by simp)).fr fy (by simp; exact HP.out)
      have HFy := Lib.hid ((HF2.out.trans (Fd.out.mono (by simp))).trans ((Fx.mono (by simp)).trans (fy.mono (by simp +contextual))))
      have q8 := cell_of (i := 8) hy rfl
      have z8 := frozen_of (i := 8) hy
      have FS := (Fr.refl [p] wy).setCell (p := ⟨p, 8, none⟩) (.inl (by simp)) (.string QSt.closed.str)
      have HE := Lib.hid (show SwPost w p pm qm c { s with nx := .closed } (M.set 1 (wd R : Int)) (t + 1) (.returned (.tuple #[])) (wy.setCell ⟨p, 8, none⟩ (.string QSt.closed.str)) from ⟨rfl, hy.setNx .closed, hmy.fr FS (by simp; exact Ne.symm HP.out.1) (by simp; exact Ne.symm HP.out.2), HFy.out.trans (FS.mono (by simp))⟩)
      clear hy hmy fy FS Fx
      go_wp2
      go_end0
      exact HE.out
    · simp only [List.getElem_toArray, List.getElem_cons_succ, List.getElem_cons_zero]
      go_simp
      have F2 := F1.alloc (.cells #[.int .i64 s.w] 3)
      have c12 := cell_of (i := 0) (heap_alloc_new (w101) (.cells #[.int .i64 s.w] 3)) rfl
      have hne5 : b5 ≠ (w101).heap.size := by have := heap_lt HB5.out; omega
      have HB5 := Lib.hid (heap_alloc_keep HB5.out (.cells #[.int .i64 s.w] 3))
      refine hK.out _ _ ⟨F2.cell q5 (by simp), F2.cell q6 (by simp)⟩ (fun hHeld => ?_)
      clear hK K
      try simp only [Act.put, List.getElem_toArray, List.getElem_cons_succ, List.getElem_cons_zero, List.setIfInBounds_toArray, List.set_cons_zero, List.set_cons_succ]
      obtain ⟨b12, hb12⟩ : ∃ b12, b12 = (w101).heap.size := ⟨_, rfl⟩
      rw [← hb12] at c12 hne5 ⊢
      clear hb12
      generalize World.alloc (w101) (.cells #[.int .i64 s.w] 3) = w102 at c12 F2 HB5 ⊢
      refine wpAnyH_ready (rs := [7]) (by kernel_rfl) (by simp) ?_
      refine AllReadyH.cons (o := _) rfl (fun K hK => ?_) (AllReadyH.nil)
      simp only [List.getElem_toArray, List.getElem_cons_succ, List.getElem_cons_zero]
      rw [if_pos (by rfl)]
      refine wp_append_all_own _ _ _ 26 rfl i0 Try.underlying26 hi hz0 hz1 hz2 B0 b5 rfl HB5.out hn5 g3 c3 nl L HNL.out rfl (HI2.out.fr F2 (by simp)) (by rw [← HNL.out]; have := HL15.out; omega) (by rw [HB0.out]; exact F2.size) ?_
      intro v7 w103 hown7 f7
      have F3 := F2.then f7 (fun x hx => .inr (by rw [List.mem_singleton.1 hx, ← HB0.out]; exact hn5))
      have HO7 := Lib.hid hown7
      have c12 := f7.cell c12 (by simp; omega)
      refine hK.out _ _ ⟨F3.cell q5 (by simp), F3.cell q6 (by simp)⟩ (fun hHeld => ?_)
      clear hK K hown7 f7
      try simp only [Act.put, List.getElem_toArray, List.getElem_cons_succ, List.getElem_cons_zero, List.setIfInBounds_toArray, List.set_cons_zero, List.set_cons_succ]
      refine wpAnyH_ready (rs := [13]) (by kernel_rfl) (by simp) ?_
      refine AllReadyH.cons (o := _) rfl (fun K hK => ?_) (AllReadyH.nil)
      simp only [List.getElem_toArray, List.getElem_cons_succ, List.getElem_cons_zero]
      rw [if_pos (by rfl)]
      refine wp_append_own _ _ _ 26 rfl B0 3 i0 (.int .i64 0) 1 8 Try.underlying26 hi hz0 hz1 hz2 rfl (by decide) _ nl _ rfl HO7.out ⟨b12, 0, none⟩ 1 1 [.int .i64 s.w] rfl rfl (cell_one_of c12) (by simp [Value.oneCell']) (by have := HL15.out; unfold maxLen; omega) (by have := HL15.out; omega) (by rw [HB0.out]; exact F3.size) ?_
      intro v13 w104 hown13 hgrow _
      have F4 := F3.grown hgrow (fun k hk => .inr (by rw [← HB0.out]; exact (HO7.out.lt k hk).1))
      obtain ⟨g13, c13, rfl, hI13⟩ := row_ints (L := R) (by rw [HR.out]; simpa [HNL.out] using hown13)
      have HI13 := Lib.hid hI13
      refine hK.out _ _ ⟨F4.cell q5 (by simp), F4.cell q6 (by simp)⟩ (fun hHeld => ?_)
      clear hK K hown13 hgrow hI13
      try simp only [Act.put, List.getElem_toArray, List.getElem_cons_succ, List.getElem_cons_zero, List.setIfInBounds_toArray, List.set_cons_zero, List.set_cons_succ]
      refine wpAnyH_ready (rs := [14]) (by kernel_rfl) (by simp) ?_
      refine AllReadyH.cons (o := _) rfl (fun K hK => ?_) AllReadyH.nil
      simp only [List.getElem_toArray, List.getElem_cons_succ, List.getElem_cons_zero]
      go_simp
      refine (ref_word_any w104 g13 c13 R HOK.out HI13.out).mono ?_
      rintro en wx ⟨rfl, fx⟩
      have Fx := F4.trans fx
      go_wp2_with fail
      refine hK.out _ _ ⟨Fx.cell q5 (by simp), Fx.cell q6 (by simp)⟩ (fun hHeld => ?_)
      clear hK K fx
      try simp only [Act.put, List.getElem_toArray, List.getElem_cons_succ, List.getElem_cons_zero, List.setIfInBounds_toArray, List.set_cons_zero, List.set_cons_succ]
      have hcas := rcas_any wx pm qm M t 1 (wd L : Int) (wd R : Int) ((HM2.out.fr Fd.out (by simp) (by simp)).fr Fx (by simp) (by simp)) ht0 (by omega)
      rw [HCB.out, HCL.out, HT1.out] at hcas
      have HCAS := Lib.hid hcas
      clear hcas
      refine wpAnyH_ready (rs := [15]) (by kernel_rfl) (by simp) ?_
      refine AllReadyH.cons (o := _) rfl (fun K hK => ?_) AllReadyH.nil
      simp only [List.getElem_toArray, List.getElem_cons_succ, List.getElem_cons_zero]
      go_simp
      refine HCAS.out.mono ?_
      rintro en wy ⟨rfl, hmy, fy⟩
      go_wp2_with fail
      refine hK.out _ _ ⟨fy.cell (Fx.cell q5 (by simp)) (by simp; exact HP.out), fy.cell (Fx.cell q6 (by simp)) (by simp; exact HP.out)⟩ (fun hHeld => ?_)
      clear hK K
      try simp only [Act.put, List.getElem_toArray, List.getElem_cons_succ, List.getElem_cons_zero, List.setIfInBounds_toArray, List.set_cons_zero, List.set_cons_succ]
      refine wpAnyH_done (by kernel_rfl) ?_ _
      have hy := ((H2.out.fr Fd.out (by simp)).fr Fx (by simp)).fr fy (by simp; exact HP.out)
      have HFy := Lib.hid ((HF2.out.trans (Fd.out.mono (by simp))).trans ((Fx.mono (by simp)).trans (fy.mono (by simp +contextual))))
      have q8 := cell_of (i := 8) hy rfl
      have z8 := frozen_of (i := 8) hy
      have FS := (Fr.refl [p] wy).setCell (p := ⟨p, 8, none⟩) (.inl (by simp)) (.string QSt.closed.str)
      have HE := Lib.hid (show SwPost w p pm qm c { s with nx := .closed } (M.set 1 (wd R : Int)) (t + 1) (.returned (.tuple #[])) (wy.setCell ⟨p, 8, none⟩ (.string QSt.closed.str)) from ⟨rfl, hy.setNx .closed, hmy.fr FS (by simp; exact Ne.symm HP.out.1) (by simp; exact Ne.symm HP.out.2), HFy.out.trans (FS.mono (by simp))⟩)
      clear hy hmy fy FS Fx
      go_wp2
      go_end0
      exact HE.out
  · simp only [List.getElem_toArray, List.getElem_cons_succ, List.getElem_cons_zero]
    go_simp
    have F1 := F0.alloc (.cells #[.int .i64 s.w] 3)
    have c12 := cell_of (i := 0) (heap_alloc_new (wd0) (.cells #[.int .i64 s.w] 3)) rfl
    refine hK.out _ _ ⟨F1.cell q5 (by simp), F1.cell q6 (by simp)⟩ (fun hHeld => ?_)
    clear hK K
    try simp only [Act.put, List.getElem_toArray, List.getElem_cons_succ, List.getElem_cons_zero, List.setIfInBounds_toArray, List.set_cons_zero, List.set_cons_succ]
    obtain ⟨b12, hb12⟩ : ∃ b12, b12 = (wd0).heap.size := ⟨_, rfl⟩
    rw [← hb12] at c12 ⊢
    clear hb12
    generalize World.alloc (wd0) (.cells #[.int .i64 s.w] 3) = w101 at c12 F1 ⊢
    refine wpAnyH_ready (rs := [5]) (by kernel_rfl) (by simp) ?_
    refine AllReadyH.cons (o := _) rfl (fun K hK => ?_) (AllReadyH.nil)
    simp only [List.getElem_toArray, List.getElem_cons_succ, List.getElem_cons_zero]
    go_simp
    have F2 := F1.alloc (.cells #[] 3)
    have hb5 := heap_alloc_new (w101) (.cells #[] 3)
    have hn5 : B0 ≤ (w101).heap.size := by rw [HB0.out]; exact F1.size
    have hne5 : (w101).heap.size ≠ b12 := by have := World.block_lt_of_cell? _ _ c12; simp only at this; omega
    have c12 := ((Fr.refl [] (w101)).alloc (.cells #[] 3)).cell c12 (by simp)
    have HB5 := Lib.hid hb5
    clear hb5
    refine hK.out _ _ ⟨F2.cell q5 (by simp), F2.cell q6 (by simp)⟩ (fun hHeld => ?_)
    clear hK K
    try simp only [Act.put, List.getElem_toArray, List.getElem_cons_succ, List.getElem_cons_zero, List.setIfInBounds_toArray, List.set_cons_zero, List.set_cons_succ]
    obtain ⟨b5, hb5⟩ : ∃ b5, b5 = (w101).heap.size := ⟨_, rfl⟩
    rw [← hb5] at HB5 hn5 hne5 ⊢
    clear hb5
    generalize World.alloc (w101) (.cells #[] 3) = w102 at HB5 F2 c12 ⊢
    refine wpAnyH_ready (rs := [7]) (by kernel_rfl) (by simp) ?_
    refine AllReadyH.cons (o := _) rfl (fun K hK => ?_) (AllReadyH.nil)
    simp only [List.getElem_toArray, List.getElem_cons_succ, List.getElem_cons_zero]
    rw [if_pos (by rfl)]
    refine wp_append_all_own _ _ _ 26 rfl i0 Try.underlying26 hi hz0 hz1 hz2 B0 b5 rfl HB5.out hn5 g3 c3 nl L HNL.out rfl (HI2.out.fr F2 (by simp)) (by rw [← HNL.out]; have := HL15.out; omega) (by rw [HB0.out]; exact F2.size) ?_
    intro v7 w103 hown7 f7
    have F3 := F2.then f7 (fun x hx => .inr (by rw [List.mem_singleton.1 hx, ← HB0.out]; exact hn5))
    have HO7 := Lib.hid hown7
    have c12 := f7.cell c12 (by simp; omega)
    refine hK.out _ _ ⟨F3.cell q5 (by simp), F3.cell q6 (by simp)⟩ (fun hHeld => ?_)
    clear hK K hown7 f7
    try simp only [Act.put, List.getElem_toArray, List.getElem_cons_succ, List.getElem_cons_zero, List.setIfInBounds_toArray, List.set_cons_zero, List.set_cons_succ]
    refine wpAnyH_ready (rs := [13]) (by kernel_rfl) (by simp) ?_
    refine AllReadyH.cons (o := _) rfl (fun K hK => ?_) (AllReadyH.nil)
    simp only [List.getElem_toArray, List.getElem_cons_succ, List.getElem_cons_zero]
    rw [if_pos (by rfl)]
    refine wp_append_own _ _ _ 26 rfl B0 3 i0 (.int .i64 0) 1 8 Try.underlying26 hi hz0 hz1 hz2 rfl (by decide) _ nl _ rfl HO7.out ⟨b12, 0, none⟩ 1 1 [.int .i64 s.w] rfl rfl (cell_one_of c12) (by simp [Value.oneCell']) (by have := HL15.out; unfold maxLen; omega) (by have := HL15.out; omega) (by rw [HB0.out]; exact F3.size) ?_
    intro v13 w104 hown13 hgrow _
    have F4 := F3.grown hgrow (fun k hk => .inr (by rw [← HB0.out]; exact (HO7.out.lt k hk).1))
    obtain ⟨g13, c13, rfl, hI13⟩ := row_ints (L := R) (by rw [HR.out]; simpa [HNL.out] using hown13)
    have HI13 := Lib.hid hI13
    refine hK.out _ _ ⟨F4.cell q5 (by simp), F4.cell q6 (by simp)⟩ (fun hHeld => ?_)
    clear hK K hown13 hgrow hI13
    try simp only [Act.put, List.getElem_toArray, List.getElem_cons_succ, List.getElem_cons_zero, List.setIfInBounds_toArray, List.set_cons_zero, List.set_cons_succ]
    refine wpAnyH_ready (rs := [14]) (by kernel_rfl) (by simp) ?_
    refine AllReadyH.cons (o := _) rfl (fun K hK => ?_) AllReadyH.nil
    simp only [List.getElem_toArray, List.getElem_cons_succ, List.getElem_cons_zero]
    go_simp
    refine (ref_word_any w104 g13 c13 R HOK.out HI13.out).mono ?_
    rintro en wx ⟨rfl, fx⟩
    have Fx := F4.trans fx
    go_wp2_with fail
    refine hK.out _ _ ⟨Fx.cell q5 (by simp), Fx.cell q6 (by simp)⟩ (fun hHeld => ?_)
    clear hK K fx
    try simp only [Act.put, List.getElem_toArray, List.getElem_cons_succ, List.getElem_cons_zero, List.setIfInBounds_toArray, List.set_cons_zero, List.set_cons_succ]
    have hcas := rcas_any wx pm qm M t 1 (wd L : Int) (wd R : Int) ((HM2.out.fr Fd.out (by simp) (by simp)).fr Fx (by simp) (by simp)) ht0 (by omega)
    rw [HCB.out, HCL.out, HT1.out] at hcas
    have HCAS := Lib.hid hcas
    clear hcas
    refine wpAnyH_ready (rs := [15]) (by kernel_rfl) (by simp) ?_
    refine AllReadyH.cons (o := _) rfl (fun K hK => ?_) AllReadyH.nil
    simp only [List.getElem_toArray, List.getElem_cons_succ, List.getElem_cons_zero]
    go_simp
    refine HCAS.out.mono ?_
    rintro en wy ⟨rfl, hmy, fy⟩
    go_wp2_with fail
    refine hK.out _ _ ⟨fy.cell (Fx.cell q5 (by simp)) (by simp; exact HP.out), fy.cell (Fx.cell q6 (by simp)) (by simp; exact HP.out)⟩ (fun hHeld => ?_)
    clear hK K
    try simp only [Act.put, List.getElem_toArray, List.getElem_cons_succ, List.getElem_cons_zero, List.setIfInBounds_toArray, List.set_cons_zero, List.set_cons_succ]
    refine wpAnyH_done (by kernel_rfl) ?_ _
    have hy := ((H2.out.fr Fd.out (by simp)).fr Fx (by simp)).fr fy (by simp; exact HP.out)
    have HFy := Lib.hid ((HF2.out.trans (Fd.out.mono (by simp))).trans ((Fx.mono (by simp)).trans (fy.mono (by simp +contextual))))
    have q8 := cell_of (i := 8) hy rfl
    have z8 := frozen_of (i := 8) hy
    have FS := (Fr.refl [p] wy).setCell (p := ⟨p, 8, none⟩) (.inl (by simp)) (.string QSt.closed.str)
    have HE := Lib.hid (show SwPost w p pm qm c { s with nx := .closed } (M.set 1 (wd R : Int)) (t + 1) (.returned (.tuple #[])) (wy.setCell ⟨p, 8, none⟩ (.string QSt.closed.str)) from ⟨rfl, hy.setNx .closed, hmy.fr FS (by simp; exact Ne.symm HP.out.1) (by simp; exact Ne.symm HP.out.2), HFy.out.trans (FS.mono (by simp))⟩)
    clear hy hmy fy FS Fx
    go_wp2
    go_end0
    exact HE.out

set_option maxHeartbeats 8000000 in
set_option maxRecDepth 100000 in
theorem rswaps_push0 (w : World) (p pm qm : Nat) (c : ConfV) (s : QuS) (M : List Int) (t : Int) (h : RqAt w p c s) (hM : MemAt 60 w pm qm M t) (ht0 : 0 ≤ t) (ht1 : t ≤ 1000000) (hp : p ≠ pm ∧ p ≠ qm) (hn : s.nx = .push) (hm : MOk M) (hok : Ln (s.line ++ [s.w])) (hL : Ln s.line) (hcs : casB M 1 (wd s.line : Int) = false) :
    Calls Try.prog 46 #[.pointer (some ⟨p, 0, none⟩), .pointer (some ⟨pm, 0, none⟩)] w (SwPost w p pm qm c ({ s with nx := .come }) (M) (t + 1)) := by
  obtain ⟨i0, hi, hz0, hz1, hz2⟩ := info_parts info_int
  obtain ⟨st, hst⟩ : ∃ x, x = QSt.push.str := ⟨_, rfl⟩
  have est_come : (st.toList == [67, 79, 77, 69]) = false := by rw [hst]; decide +kernel
  have est_push : (st.toList == [80, 85, 83, 72]) = true := by rw [hst]; decide +kernel
  have est_closed : (st.toList == [67, 76, 79, 83, 69, 68]) = false := by rw [hst]; decide +kernel
  have est_look : (st.toList == [76, 79, 79, 75]) = false := by rw [hst]; decide +kernel
  have est_drop : (st.toList == [68, 82, 79, 80]) = false := by rw [hst]; decide +kernel
  have est_head : (st.toList == [70, 73, 82, 83, 84]) = false := by rw [hst]; decide +kernel
  have est_pop : (st.toList == [80, 79, 80]) = false := by rw [hst]; decide +kernel
  have est_tell : (st.toList == [84, 69, 76, 76]) = false := by rw [hst]; decide +kernel
  have est_done : (st.toList == [68, 79, 78, 69]) = false := by rw [hst]; decide +kernel
  have q8 : w.cell? ⟨p, 8, none⟩ = some (.string st) := by rw [cell_of (i := 8) h rfl, hst]; show some (Value.string s.nx.str) = _; rw [hn]
  have z8 := frozen_of (i := 8) h
  obtain ⟨L, hLl⟩ : ∃ L, L = s.line := ⟨_, rfl⟩
  obtain ⟨R, hR⟩ : ∃ R, R = s.line ++ [s.w] := ⟨_, rfl⟩
  rw [← hR] at hok 
  have q6 : w.cell? ⟨p, 6, none⟩ = some (.int .i64 (wd L : Int)) := by rw [hLl]; exact cell_of (i := 6) h rfl
  have HR := Lib.hid (show R = L ++ [s.w] by rw [hR, hLl])
  rw [← hLl] at hL hcs
  have HT1 := Lib.hid (show tch M 1 = 1 by unfold tch; rw [if_pos (isIn_yes (by omega) (by have := hm.1; omega))])
  have HCB := Lib.hid hcs
  have HCL := Lib.hid (show casL M 1 (wd L : Int) (wd R : Int) = M by unfold casL; rw [hcs]; rfl)
  obtain ⟨nl, hnl⟩ : ∃ nl, nl = L.length := ⟨_, rfl⟩
  have HNL := Lib.hid hnl
  have HLS := Lib.hid hLl
  have HL15 := Lib.hid (show nl ≤ 15 by rw [hnl]; exact hL.length)
  have HLL := Lib.hid hL; have HOK := Lib.hid hok; have HP := Lib.hid hp; have H := Lib.hid h; have HM := Lib.hid hM
  clear h hM hn hst hp hR hLl hL hok hcs hm hnl
  go_enter Try.func46, Try.ntmps46
  go_wp2_with fail
  refine (ref_list_own w (wd L : Int) (by have := wd_lt HLL.out; omega)).mono ?_
  rintro en w1 ⟨v1, rfl, hown1, f1⟩
  rw [refLi_wd HLL.out] at hown1
  obtain ⟨g3, c3, rfl, hI3⟩ := row_ints hown1
  have hg3 : ∀ a, g3 = some a → a.block ∉ [p] := fun a ha => by
    subst ha
    have h1 := (hown1.lt a.block rfl).1
    have h2 := heap_lt (show w.heap[p]? = some _ from H.out)
    simp; omega
  rw [← HNL.out]
  have h1 := H.out.fr f1 (by simp)
  have q8 := f1.cell q8 (by simp)
  have z8 := frozen_of (i := 8) h1
  have FS := (Fr.refl [p] w1).setCell (p := ⟨p, 8, none⟩) (.inl (by simp)) (.string ⟨#[67, 79, 77, 69]⟩)
  have H2 := Lib.hid (show RqAt (w1.setCell ⟨p, 8, none⟩ (.string ⟨#[67, 79, 77, 69]⟩)) p c { s with nx := .come } from h1.setNx .come)
  have HM2 := Lib.hid ((HM.out.fr f1 (by simp) (by simp)).fr FS (by simp; exact Ne.symm HP.out.1) (by simp; exact Ne.symm HP.out.2))
  have HF2 := Lib.hid ((f1.mono (S' := [p, pm, qm]) (by simp)).trans (FS.mono (by simp)))
  have HI2 := Lib.hid (hI3.fr FS hg3)
  have q5 := cell_of (i := 5) H2.out rfl
  have q6 : (w1.setCell ⟨p, 8, none⟩ (.string ⟨#[67, 79, 77, 69]⟩)).cell? ⟨p, 6, none⟩ = some (.int .i64 (wd L : Int)) := by rw [HLS.out]; exact cell_of (i := 6) H2.out rfl
  have q5 : (w1.setCell ⟨p, 8, none⟩ (.string ⟨#[67, 79, 77, 69]⟩)).cell? ⟨p, 5, none⟩ = some (.int .i64 s.w) := q5
  clear h1 f1 FS H HM hI3 hown1 hg3
  go_wp2_with fail
  generalize w1.setCell ⟨p, 8, none⟩ (.string ⟨#[67, 79, 77, 69]⟩) = w2 at H2 HM2 HF2 HI2 q5 q6 ⊢
  clear q8 z8
  have hp2 := heap_lt (show w2.heap[p]? = some _ from H2.out)
  have F0 := (Fr.refl [] w2).drew
  refine wp_region_held_drew (S := fun w' => w'.cell? ⟨p, 5, none⟩ = some (.int .i64 s.w) ∧ w'.cell? ⟨p, 6, none⟩ = some (.int .i64 (wd L : Int))) (by kernel_rfl) ⟨q5, q6⟩ (fun hHeld => ?_)
  refine wpAnyH_take (i := 0) (oi := _) (v := ?_) rfl (by kernel_rfl) (by kernel_rfl) (by kernel_rfl) (fun _ _ _ h => h) (Or.inl ⟨by rfl, ?_⟩) (by assumption) ?_
  rotate_left
  · intro w hSw
    try dsimp only at hSw
    try simp only [List.getElem_toArray, List.getElem_cons_zero]
    go_split_ands
    go_simp
    try with_reducible rfl
  try simp only [Act.put, List.getElem_toArray, List.getElem_cons_zero, List.setIfInBounds_toArray, List.set_cons_zero, List.set_cons_succ]
  refine wpAnyH_take (i := 1) (oi := _) (v := ?_) rfl (by kernel_rfl) (by kernel_rfl) (by kernel_rfl) (fun _ _ _ h => h) (Or.inl ⟨by rfl, ?_⟩) (by assumption) ?_
  rotate_left
  · intro w hSw
    try dsimp only at hSw
    try simp only [List.getElem_toArray, List.getElem_cons_succ, List.getElem_cons_zero]
    go_split_ands
    go_simp
    try with_reducible rfl
  try simp only [Act.put, List.getElem_toArray, List.getElem_cons_succ, List.getElem_cons_zero, List.setIfInBounds_toArray, List.set_cons_zero, List.set_cons_succ]
  refine wpAnyH_take (i := 2) (oi := _) (v := ?_) rfl (by kernel_rfl) (by kernel_rfl) (by kernel_rfl) (fun _ _ _ h => h) (Or.inl ⟨by rfl, ?_⟩) (by assumption) ?_
  rotate_left
  · intro w hSw
    try dsimp only at hSw
    try simp only [List.getElem_toArray, List.getElem_cons_succ, List.getElem_cons_zero]
    go_split_ands
    go_simp
    try with_reducible rfl
  try simp only [Act.put, List.getElem_toArray, List.getElem_cons_succ, List.getElem_cons_zero, List.setIfInBounds_toArray, List.set_cons_zero, List.set_cons_succ]
  refine wpAnyH_take (i := 3) (oi := _) (v := ?_) rfl (by kernel_rfl) (by kernel_rfl) (by kernel_rfl) (fun _ _ _ h => h) (Or.inl ⟨by rfl, ?_⟩) (by assumption) ?_
  rotate_left
  · intro w hSw
    try dsimp only at hSw
    try simp only [List.getElem_toArray, List.getElem_cons_succ, List.getElem_cons_zero]
    go_split_ands
    go_simp
    try with_reducible rfl
  try simp only [Act.put, List.getElem_toArray, List.getElem_cons_succ, List.getElem_cons_zero, List.setIfInBounds_toArray, List.set_cons_zero, List.set_cons_succ]
  refine wpAnyH_take (i := 4) (oi := _) (v := ?_) rfl (by kernel_rfl) (by kernel_rfl) (by kernel_rfl) (fun _ _ _ h => h) (Or.inl ⟨by rfl, ?_⟩) (by assumption) ?_
  rotate_left
  · intro w hSw
    try dsimp only at hSw
    try simp only [List.getElem_toArray, List.getElem_cons_succ, List.getElem_cons_zero]
    go_split_ands
    go_simp
    try with_reducible rfl
  try simp only [Act.put, List.getElem_toArray, List.getElem_cons_succ, List.getElem_cons_zero, List.setIfInBounds_toArray, List.set_cons_zero, List.set_cons_succ]
  refine wpAnyH_take (i := 6) (oi := _) (v := ?_) rfl (by kernel_rfl) (by kernel_rfl) (by kernel_rfl) (fun _ _ _ h => h) (Or.inl ⟨by rfl, ?_⟩) (by assumption) ?_
  rotate_left
  · intro w hSw
    try dsimp only at hSw
    try simp only [List.getElem_toArray, List.getElem_cons_succ, List.getElem_cons_zero]
    go_split_ands
    go_simp
    try with_reducible rfl
  try simp only [Act.put, List.getElem_toArray, List.getElem_cons_succ, List.getElem_cons_zero, List.setIfInBounds_toArray, List.set_cons_zero, List.set_cons_succ]
  refine wpAnyH_take (i := 8) (oi := _) (v := ?_) rfl (by kernel_rfl) (by kernel_rfl) (by kernel_rfl) (fun _ _ _ h => h) (Or.inl ⟨by rfl, ?_⟩) (by assumption) ?_
  rotate_left
  · intro w hSw
    try dsimp only at hSw
    try simp only [List.getElem_toArray, List.getElem_cons_succ, List.getElem_cons_zero]
    go_split_ands
    go_simp
    try with_reducible rfl
  try simp only [Act.put, List.getElem_toArray, List.getElem_cons_succ, List.getElem_cons_zero, List.setIfInBounds_toArray, List.set_cons_zero, List.set_cons_succ]
  refine wpAnyH_take (i := 9) (oi := _) (v := ?_) rfl (by kernel_rfl) (by kernel_rfl) (by kernel_rfl) (fun _ _ _ h => h) (Or.inl ⟨by rfl, ?_⟩) (by assumption) ?_
  rotate_left
  · intro w hSw
    try dsimp only at hSw
    try simp only [List.getElem_toArray, List.getElem_cons_succ, List.getElem_cons_zero]
    go_split_ands
    go_simp
    try with_reducible rfl
  try simp only [Act.put, List.getElem_toArray, List.getElem_cons_succ, List.getElem_cons_zero, List.setIfInBounds_toArray, List.set_cons_zero, List.set_cons_succ]
  refine wpAnyH_take (i := 10) (oi := _) (v := ?_) rfl (by kernel_rfl) (by kernel_rfl) (by kernel_rfl) (fun _ _ _ h => h) (Or.inl ⟨by rfl, ?_⟩) (by assumption) ?_
  rotate_left
  · intro w hSw
    try dsimp only at hSw
    try simp only [List.getElem_toArray, List.getElem_cons_succ, List.getElem_cons_zero]
    go_split_ands
    go_simp
    try with_reducible rfl
  try simp only [Act.put, List.getElem_toArray, List.getElem_cons_succ, List.getElem_cons_zero, List.setIfInBounds_toArray, List.set_cons_zero, List.set_cons_succ]
  refine wpAnyH_take (i := 11) (oi := _) (v := ?_) rfl (by kernel_rfl) (by kernel_rfl) (by kernel_rfl) (fun _ _ _ h => h) (Or.inl ⟨by rfl, ?_⟩) (by assumption) ?_
  rotate_left
  · intro w hSw
    try dsimp only at hSw
    try simp only [List.getElem_toArray, List.getElem_cons_succ, List.getElem_cons_zero]
    go_split_ands
    go_simp
    try with_reducible rfl
  try simp only [Act.put, List.getElem_toArray, List.getElem_cons_succ, List.getElem_cons_zero, List.setIfInBounds_toArray, List.set_cons_zero, List.set_cons_succ]
  clear hHeld
  have q5 : w2.drew.cell? ⟨p, 5, none⟩ = some (.int .i64 s.w) := q5
  have q6 : w2.drew.cell? ⟨p, 6, none⟩ = some (.int .i64 (wd L : Int)) := q6
  have Fd := Lib.hid F0
  have HI2 := Lib.hid (HI2.out.fr F0 (by simp))
  generalize w2.drew = wd0 at q5 q6 F0 Fd HI2 ⊢
  clear F0
  have hs0 := Fd.out.size
  have F0 := Fr.refl [] wd0
  obtain ⟨B0, hB0⟩ : ∃ B0, B0 = wd0.heap.size := ⟨_, rfl⟩
  have HB0 := Lib.hid hB0
  clear hB0
  refine wpAnyH_ready (rs := [5, 12]) (by kernel_rfl) (by simp) ?_
  refine AllReadyH.cons (o := _) rfl (fun K hK => ?_) (AllReadyH.cons (o := _) rfl (fun K hK => ?_) (AllReadyH.nil))
  · simp only [List.getElem_toArray, List.getElem_cons_succ, List.getElem_cons_zero]
    go_simp
    have F1 := F0.alloc (.cells #[] 3)
    have hb5 := heap_alloc_new (wd0) (.cells #[] 3)
    have hn5 : B0 ≤ (wd0).heap.size := by rw [HB0.out]; exact F0.size
    have HB5 := Lib.hid hb5
    clear hb5
    refine hK.out _ _ ⟨F1.cell q5 (by simp), F1.cell q6 (by simp)⟩ (fun hHeld => ?_)
    clear hK K
    try simp only [Act.put, List.getElem_toArray, List.getElem_cons_succ, List.getElem_cons_zero, List.setIfInBounds_toArray, List.set_cons_zero, List.set_cons_succ]
    obtain ⟨b5, hb5⟩ : ∃ b5, b5 = (wd0).heap.size := ⟨_, rfl⟩
    rw [← hb5] at HB5 hn5 ⊢
    clear hb5
    generalize World.alloc (wd0) (.cells #[] 3) = w101 at HB5 F1 ⊢
    refine wpAnyH_ready (rs := [7, 12]) (by kernel_rfl) (by simp) ?_
    refine AllReadyH.cons (o := _) rfl (fun K hK => ?_) (AllReadyH.cons (o := _) rfl (fun K hK => ?_) (AllReadyH.nil))
    · simp only [List.getElem_toArray, List.getElem_cons_succ, List.getElem_cons_zero]
      rw [if_pos (by rfl)]
      refine wp_append_all_own _ _ _ 26 rfl i0 Try.underlying26 hi hz0 hz1 hz2 B0 b5 rfl HB5.out hn5 g3 c3 nl L HNL.out rfl (HI2.out.fr F1 (by simp)) (by rw [← HNL.out]; have := HL15.out; omega) (by rw [HB0.out]; exact F1.size) ?_
      intro v7 w102 hown7 f7
      have F2 := F1.then f7 (fun x hx => .inr (by rw [List.mem_singleton.1 hx, ← HB0.out]; exact hn5))
      have HO7 := Lib.hid hown7
      refine hK.out _ _ ⟨F2.cell q5 (by simp), F2.cell q6 (by simp)⟩ (fun hHeld => ?_)
      clear hK K hown7 f7
      try simp only [Act.put, List.getElem_toArray, List.getElem_cons_succ, List.getElem_cons_zero, List.setIfInBounds_toArray, List.set_cons_zero, List.set_cons_succ]
      refine wpAnyH_ready (rs := [12]) (by kernel_rfl) (by simp) ?_
      refine AllReadyH.cons (o := _) rfl (fun K hK => ?_) (AllReadyH.nil)
      simp only [List.getElem_toArray, List.getElem_cons_succ, List.getElem_cons_zero]
      go_simp
      have F3 := F2.alloc (.cells #[.int .i64 s.w] 3)
      have c12 := cell_of (i := 0) (heap_alloc_new (w102) (.cells #[.int .i64 s.w] 3)) rfl
      have HO7 := Lib.hid (row_keep HO7.out ((Fr.refl [] (w102)).alloc (.cells #[.int .i64 s.w] 3)) (by simp))
      refine hK.out _ _ ⟨F3.cell q5 (by simp), F3.cell q6 (by simp)⟩ (fun hHeld => ?_)
      clear hK K
      try simp only [Act.put, List.getElem_toArray, List.getElem_cons_succ, List.getElem_cons_zero, List.setIfInBounds_toArray, List.set_cons_zero, List.set_cons_succ]
      obtain ⟨b12, hb12⟩ : ∃ b12, b12 = (w102).heap.size := ⟨_, rfl⟩
      rw [← hb12] at c12 ⊢
      clear hb12
      generalize World.alloc (w102) (.cells #[.int .i64 s.w] 3) = w103 at c12 F3 HO7 ⊢
      refine wpAnyH_ready (rs := [13]) (by kernel_rfl) (by simp) ?_
      refine AllReadyH.cons (o := _) rfl (fun K hK => ?_) (AllReadyH.nil)
      simp only [List.getElem_toArray, List.getElem_cons_succ, List.getElem_cons_zero]
      rw [if_pos (by rfl)]
      refine wp_append_own _ _ _ 26 rfl B0 3 i0 (.int .i64 0) 1 8 Try.underlying26 hi hz0 hz1 hz2 rfl (by decide) _ nl _ rfl HO7.out ⟨b12, 0, none⟩ 1 1 [.int .i64 s.w] rfl rfl (cell_one_of c12) (by simp [Value.oneCell']) (by have := HL15.out; unfold maxLen; omega) (by have := HL15.out; omega) (by rw [HB0.out]; exact F3.size) ?_
      intro v13 w104 hown13 hgrow _
      have F4 := F3.grown hgrow (fun k hk => .inr (by rw [← HB0.out]; exact (HO7.out.lt k hk).1))
      obtain ⟨g13, c13, rfl, hI13⟩ := row_ints (L := R) (by rw [HR.out]; simpa [HNL.out] using hown13)
      have HI13 := Lib.hid hI13
      refine hK.out _ _ ⟨F4.cell q5 (by simp), F4.cell q6 (by simp)⟩ (fun hHeld => ?_)
      clear hK K hown13 hgrow hI13
      try simp only [Act.put, List.getElem_toArray, List.getElem_cons_succ, List.getElem_cons_zero, List.setIfInBounds_toArray, List.set_cons_zero, List.set_cons_succ]
      refine wpAnyH_ready (rs := [14]) (by kernel_rfl) (by simp) ?_
      refine AllReadyH.cons (o := _) rfl (fun K hK => ?_) AllReadyH.nil
      simp only [List.getElem_toArray, List.getElem_cons_succ, List.getElem_cons_zero]
      go_simp
      refine (ref_word_any w104 g13 c13 R HOK.out HI13.out).mono ?_
      rintro en wx ⟨rfl, fx⟩
      have Fx := F4.trans fx
      go_wp2_with fail
      refine hK.out _ _ ⟨Fx.cell q5 (by simp), Fx.cell q6 (by simp)⟩ (fun hHeld => ?_)
      clear hK K fx
      try simp only [Act.put, List.getElem_toArray, List.getElem_cons_succ, List.getElem_cons_zero, List.setIfInBounds_toArray, List.set_cons_zero, List.set_cons_succ]
      have hcas := rcas_any wx pm qm M t 1 (wd L : Int) (wd R : Int) ((HM2.out.fr Fd.out (by simp) (by simp)).fr Fx (by simp) (by simp)) ht0 (by omega)
      rw [HCB.out, HCL.out, HT1.out] at hcas
      have HCAS := Lib.hid hcas
      clear hcas
      refine wpAnyH_ready (rs := [15]) (by kernel_rfl) (by simp) ?_
      refine AllReadyH.cons (o := _) rfl (fun K hK => ?_) AllReadyH.nil
      simp only [List.getElem_toArray, List.getElem_cons_succ, List.getElem_cons_zero]
      go_simp
      refine HCAS.out.mono ?_
      rintro en wy ⟨rfl, hmy, fy⟩
      go_wp2_with fail
      refine hK.out _ _ ⟨fy.cell (Fx.cell q5 (by simp)) (by simp; exact HP.out), fy.cell (Fx.cell q6 (by simp)) (by simp; exact HP.out)⟩ (fun hHeld => ?_)
      clear hK K
      try simp only [Act.put, List.getElem_toArray, List.getElem_cons_succ, List.getElem_cons_zero, List.setIfInBounds_toArray, List.set_cons_zero, List.set_cons_succ]
      refine wpAnyH_done (by kernel_rfl) ?_ _
      have hy := ((H2.out.fr Fd.out (by simp)).fr Fx (by simp)).fr fy (by simp; exact HP.out)
      have HFy := Lib.hid ((HF2.out.trans (Fd.out.mono (by simp))).trans ((Fx.mono (by simp)).trans (fy.mono (by simp +contextual))))
      have HE := Lib.hid (show SwPost w p pm qm c { s with nx := .come } M (t + 1) (.returned (.tuple #[])) wy from ⟨rfl, hy, hmy, HFy.out⟩)
      clear hy hmy fy Fx
      go_wp2
      go_end0
      exact HE.out
    · simp only [List.getElem_toArray, List.getElem_cons_succ, List.getElem_cons_zero]
      go_simp
      have F2 := F1.alloc (.cells #[.int .i64 s.w] 3)
      have c12 := cell_of (i := 0) (heap_alloc_new (w101) (.cells #[.int .i64 s.w] 3)) rfl
      have hne5 : b5 ≠ (w101).heap.size := by have := heap_lt HB5.out; omega
      have HB5 := Lib.hid (heap_alloc_keep HB5.out (.cells #[.int .i64 s.w] 3))
      refine hK.out _ _ ⟨F2.cell q5 (by simp), F2.cell q6 (by simp)⟩ (fun hHeld => ?_)
      clear hK K
      try simp only [Act.put, List.getElem_toArray, List.getElem_cons_succ, List.getElem_cons_zero, List.setIfInBounds_toArray, List.set_cons_zero, List.set_cons_succ]
      obtain ⟨b12, hb12⟩ : ∃ b12, b12 = (w101).heap.size := ⟨_, rfl⟩
      rw [← hb12] at c12 hne5 ⊢
      clear hb12
      generalize World.alloc (w101) (.cells #[.int .i64 s.w] 3) = w102 at c12 F2 HB5 ⊢
      refine wpAnyH_ready (rs := [7]) (by kernel_rfl) (by simp) ?_
      refine AllReadyH.cons (o := _) rfl (fun K hK => ?_) (AllReadyH.nil)
      simp only [List.getElem_toArray, List.getElem_cons_succ, List.getElem_cons_zero]
      rw [if_pos (by rfl)]
      refine wp_append_all_own _ _ _ 26 rfl i0 Try.underlying26 hi hz0 hz1 hz2 B0 b5 rfl HB5.out hn5 g3 c3 nl L HNL.out rfl (HI2.out.fr F2 (by simp)) (by rw [← HNL.out]; have := HL15.out; omega) (by rw [HB0.out]; exact F2.size) ?_
      intro v7 w103 hown7 f7
      have F3 := F2.then f7 (fun x hx => .inr (by rw [List.mem_singleton.1 hx, ← HB0.out]; exact hn5))
      have HO7 := Lib.hid hown7
      have c12 := f7.cell c12 (by simp; omega)
      refine hK.out _ _ ⟨F3.cell q5 (by simp), F3.cell q6 (by simp)⟩ (fun hHeld => ?_)
      clear hK K hown7 f7
      try simp only [Act.put, List.getElem_toArray, List.getElem_cons_succ, List.getElem_cons_zero, List.setIfInBounds_toArray, List.set_cons_zero, List.set_cons_succ]
      refine wpAnyH_ready (rs := [13]) (by kernel_rfl) (by simp) ?_
      refine AllReadyH.cons (o := _) rfl (fun K hK => ?_) (AllReadyH.nil)
      simp only [List.getElem_toArray, List.getElem_cons_succ, List.getElem_cons_zero]
      rw [if_pos (by rfl)]
      refine wp_append_own _ _ _ 26 rfl B0 3 i0 (.int .i64 0) 1 8 Try.underlying26 hi hz0 hz1 hz2 rfl (by decide) _ nl _ rfl HO7.out ⟨b12, 0, none⟩ 1 1 [.int .i64 s.w] rfl rfl (cell_one_of c12) (by simp [Value.oneCell']) (by have := HL15.out; unfold maxLen; omega) (by have := HL15.out; omega) (by rw [HB0.out]; exact F3.size) ?_
      intro v13 w104 hown13 hgrow _
      have F4 := F3.grown hgrow (fun k hk => .inr (by rw [← HB0.out]; exact (HO7.out.lt k hk).1))
      obtain ⟨g13, c13, rfl, hI13⟩ := row_ints (L := R) (by rw [HR.out]; simpa [HNL.out] using hown13)
      have HI13 := Lib.hid hI13
      refine hK.out _ _ ⟨F4.cell q5 (by simp), F4.cell q6 (by simp)⟩ (fun hHeld => ?_)
      clear hK K hown13 hgrow hI13
      try simp only [Act.put, List.getElem_toArray, List.getElem_cons_succ, List.getElem_cons_zero, List.setIfInBounds_toArray, List.set_cons_zero, List.set_cons_succ]
      refine wpAnyH_ready (rs := [14]) (by kernel_rfl) (by simp) ?_
      refine AllReadyH.cons (o := _) rfl (fun K hK => ?_) AllReadyH.nil
      simp only [List.getElem_toArray, List.getElem_cons_succ, List.getElem_cons_zero]
      go_simp
      refine (ref_word_any w104 g13 c13 R HOK.out HI13.out).mono ?_
      rintro en wx ⟨rfl, fx⟩
      have Fx := F4.trans fx
      go_wp2_with fail
      refine hK.out _ _ ⟨Fx.cell q5 (by simp), Fx.cell q6 (by simp)⟩ (fun hHeld => ?_)
      clear hK K fx
      try simp only [Act.put, List.getElem_toArray, List.getElem_cons_succ, List.getElem_cons_zero, List.setIfInBounds_toArray, List.set_cons_zero, List.set_cons_succ]
      have hcas := rcas_any wx pm qm M t 1 (wd L : Int) (wd R : Int) ((HM2.out.fr Fd.out (by simp) (by simp)).fr Fx (by simp) (by simp)) ht0 (by omega)
      rw [HCB.out, HCL.out, HT1.out] at hcas
      have HCAS := Lib.hid hcas
      clear hcas
      refine wpAnyH_ready (rs := [15]) (by kernel_rfl) (by simp) ?_
      refine AllReadyH.cons (o := _) rfl (fun K hK => ?_) AllReadyH.nil
      simp only [List.getElem_toArray, List.getElem_cons_succ, List.getElem_cons_zero]
      go_simp
      refine HCAS.out.mono ?_
      rintro en wy ⟨rfl, hmy, fy⟩
      go_wp2_with fail
      refine hK.out _ _ ⟨fy.cell (Fx.cell q5 (by simp)) (by simp; exact HP.out), fy.cell (Fx.cell q6 (by simp)) (by simp; exact HP.out)⟩ (fun hHeld => ?_)
      clear hK K
      try simp only [Act.put, List.getElem_toArray, List.getElem_cons_succ, List.getElem_cons_zero, List.setIfInBounds_toArray, List.set_cons_zero, List.set_cons_succ]
      refine wpAnyH_done (by kernel_rfl) ?_ _
      have hy := ((H2.out.fr Fd.out (by simp)).fr Fx (by simp)).fr fy (by simp; exact HP.out)
      have HFy := Lib.hid ((HF2.out.trans (Fd.out.mono (by simp))).trans ((Fx.mono (by simp)).trans (fy.mono (by simp +contextual))))
      have HE := Lib.hid (show SwPost w p pm qm c { s with nx := .come } M (t + 1) (.returned (.tuple #[])) wy from ⟨rfl, hy, hmy, HFy.out⟩)
      clear hy hmy fy Fx
      go_wp2
      go_end0
      exact HE.out
  · simp only [List.getElem_toArray, List.getElem_cons_succ, List.getElem_cons_zero]
    go_simp
    have F1 := F0.alloc (.cells #[.int .i64 s.w] 3)
    have c12 := cell_of (i := 0) (heap_alloc_new (wd0) (.cells #[.int .i64 s.w] 3)) rfl
    refine hK.out _ _ ⟨F1.cell q5 (by simp), F1.cell q6 (by simp)⟩ (fun hHeld => ?_)
    clear hK K
    try simp only [Act.put, List.getElem_toArray, List.getElem_cons_succ, List.getElem_cons_zero, List.setIfInBounds_toArray, List.set_cons_zero, List.set_cons_succ]
    obtain ⟨b12, hb12⟩ : ∃ b12, b12 = (wd0).heap.size := ⟨_, rfl⟩
    rw [← hb12] at c12 ⊢
    clear hb12
    generalize World.alloc (wd0) (.cells #[.int .i64 s.w] 3) = w101 at c12 F1 ⊢
    refine wpAnyH_ready (rs := [5]) (by kernel_rfl) (by simp) ?_
    refine AllReadyH.cons (o := _) rfl (fun K hK => ?_) (AllReadyH.nil)
    simp only [List.getElem_toArray, List.getElem_cons_succ, List.getElem_cons_zero]
    go_simp
    have F2 := F1.alloc (.cells #[] 3)
    have hb5 := heap_alloc_new (w101) (.cells #[] 3)
    have hn5 : B0 ≤ (w101).heap.size := by rw [HB0.out]; exact F1.size
    have hne5 : (w101).heap.size ≠ b12 := by have := World.block_lt_of_cell? _ _ c12; simp only at this; omega
    have c12 := ((Fr.refl [] (w101)).alloc (.cells #[] 3)).cell c12 (by simp)
    have HB5 := Lib.hid hb5
    clear hb5
    refine hK.out _ _ ⟨F2.cell q5 (by simp), F2.cell q6 (by simp)⟩ (fun hHeld => ?_)
    clear hK K
    try simp only [Act.put, List.getElem_toArray, List.getElem_cons_succ, List.getElem_cons_zero, List.setIfInBounds_toArray, List.set_cons_zero, List.set_cons_succ]
    obtain ⟨b5, hb5⟩ : ∃ b5, b5 = (w101).heap.size := ⟨_, rfl⟩
    rw [← hb5] at HB5 hn5 hne5 ⊢
    clear hb5
    generalize World.alloc (w101) (.cells #[] 3) = w102 at HB5 F2 c12 ⊢
    refine wpAnyH_ready (rs := [7]) (by kernel_rfl) (by simp) ?_
    refine AllReadyH.cons (o := _) rfl (fun K hK => ?_) (AllReadyH.nil)
    simp only [List.getElem_toArray, List.getElem_cons_succ, List.getElem_cons_zero]
    rw [if_pos (by rfl)]
    refine wp_append_all_own _ _ _ 26 rfl i0 Try.underlying26 hi hz0 hz1 hz2 B0 b5 rfl HB5.out hn5 g3 c3 nl L HNL.out rfl (HI2.out.fr F2 (by simp)) (by rw [← HNL.out]; have := HL15.out; omega) (by rw [HB0.out]; exact F2.size) ?_
    intro v7 w103 hown7 f7
    have F3 := F2.then f7 (fun x hx => .inr (by rw [List.mem_singleton.1 hx, ← HB0.out]; exact hn5))
    have HO7 := Lib.hid hown7
    have c12 := f7.cell c12 (by simp; omega)
    refine hK.out _ _ ⟨F3.cell q5 (by simp), F3.cell q6 (by simp)⟩ (fun hHeld => ?_)
    clear hK K hown7 f7
    try simp only [Act.put, List.getElem_toArray, List.getElem_cons_succ, List.getElem_cons_zero, List.setIfInBounds_toArray, List.set_cons_zero, List.set_cons_succ]
    refine wpAnyH_ready (rs := [13]) (by kernel_rfl) (by simp) ?_
    refine AllReadyH.cons (o := _) rfl (fun K hK => ?_) (AllReadyH.nil)
    simp only [List.getElem_toArray, List.getElem_cons_succ, List.getElem_cons_zero]
    rw [if_pos (by rfl)]
    refine wp_append_own _ _ _ 26 rfl B0 3 i0 (.int .i64 0) 1 8 Try.underlying26 hi hz0 hz1 hz2 rfl (by decide) _ nl _ rfl HO7.out ⟨b12, 0, none⟩ 1 1 [.int .i64 s.w] rfl rfl (cell_one_of c12) (by simp [Value.oneCell']) (by have := HL15.out; unfold maxLen; omega) (by have := HL15.out; omega) (by rw [HB0.out]; exact F3.size) ?_
    intro v13 w104 hown13 hgrow _
    have F4 := F3.grown hgrow (fun k hk => .inr (by rw [← HB0.out]; exact (HO7.out.lt k hk).1))
    obtain ⟨g13, c13, rfl, hI13⟩ := row_ints (L := R) (by rw [HR.out]; simpa [HNL.out] using hown13)
    have HI13 := Lib.hid hI13
    refine hK.out _ _ ⟨F4.cell q5 (by simp), F4.cell q6 (by simp)⟩ (fun hHeld => ?_)
    clear hK K hown13 hgrow hI13
    try simp only [Act.put, List.getElem_toArray, List.getElem_cons_succ, List.getElem_cons_zero, List.setIfInBounds_toArray, List.set_cons_zero, List.set_cons_succ]
    refine wpAnyH_ready (rs := [14]) (by kernel_rfl) (by simp) ?_
    refine AllReadyH.cons (o := _) rfl (fun K hK => ?_) AllReadyH.nil
    simp only [List.getElem_toArray, List.getElem_cons_succ, List.getElem_cons_zero]
    go_simp
    refine (ref_word_any w104 g13 c13 R HOK.out HI13.out).mono ?_
    rintro en wx ⟨rfl, fx⟩
    have Fx := F4.trans fx
    go_wp2_with fail
    refine hK.out _ _ ⟨Fx.cell q5 (by simp), Fx.cell q6 (by simp)⟩ (fun hHeld => ?_)
    clear hK K fx
    try simp only [Act.put, List.getElem_toArray, List.getElem_cons_succ, List.getElem_cons_zero, List.setIfInBounds_toArray, List.set_cons_zero, List.set_cons_succ]
    have hcas := rcas_any wx pm qm M t 1 (wd L : Int) (wd R : Int) ((HM2.out.fr Fd.out (by simp) (by simp)).fr Fx (by simp) (by simp)) ht0 (by omega)
    rw [HCB.out, HCL.out, HT1.out] at hcas
    have HCAS := Lib.hid hcas
    clear hcas
    refine wpAnyH_ready (rs := [15]) (by kernel_rfl) (by simp) ?_
    refine AllReadyH.cons (o := _) rfl (fun K hK => ?_) AllReadyH.nil
    simp only [List.getElem_toArray, List.getElem_cons_succ, List.getElem_cons_zero]
    go_simp
    refine HCAS.out.mono ?_
    rintro en wy ⟨rfl, hmy, fy⟩
    go_wp2_with fail
    refine hK.out _ _ ⟨fy.cell (Fx.cell q5 (by simp)) (by simp; exact HP.out), fy.cell (Fx.cell q6 (by simp)) (by simp; exact HP.out)⟩ (fun hHeld => ?_)
    clear hK K
    try simp only [Act.put, List.getElem_toArray, List.getElem_cons_succ, List.getElem_cons_zero, List.setIfInBounds_toArray, List.set_cons_zero, List.set_cons_succ]
    refine wpAnyH_done (by kernel_rfl) ?_ _
    have hy := ((H2.out.fr Fd.out (by simp)).fr Fx (by simp)).fr fy (by simp; exact HP.out)
    have HFy := Lib.hid ((HF2.out.trans (Fd.out.mono (by simp))).trans ((Fx.mono (by simp)).trans (fy.mono (by simp +contextual))))
    have HE := Lib.hid (show SwPost w p pm qm c { s with nx := .come } M (t + 1) (.returned (.tuple #[])) wy from ⟨rfl, hy, hmy, HFy.out⟩)
    clear hy hmy fy Fx
    go_wp2
    go_end0
    exact HE.out

end Go.Proofs.Ytdpefnebghljoaa
