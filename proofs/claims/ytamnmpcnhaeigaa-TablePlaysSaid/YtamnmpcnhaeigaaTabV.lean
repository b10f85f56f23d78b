/- Table: 'all', the list of what a table tells. -/
import Derived.Test.YtamnmpcnhaeigaaTabU
import Derived.Maps.AppendAt
import Derived.RangeFuncBox
import Derived.Deep.AppendLies
namespace Go.Proofs.Ytamnmpcnhaeigaa.TabI
open Go.RowKit Go.Shelf
attribute [local go_sem] Oper.semAt_some
set_option linter.unusedVariables false

/-- append to a list of the call's own, within a round: where the new list lies, too. -/
theorem wpListIn_append_lies {F : Fence} {n : Nat} {P : Program} (w : World) {ops : Array Oper} {rest : List Oper} {o : Oper} {a : Act} {Q : Exit → Act → World → Prop}
    (hg : o.guard = none) (s x : Operand) (t : TypeId) (hop : o.op = Op.call { callee := Callee.builtin Builtin.append, args := #[s, x], argTypes := #[t, t] })
    (base : Nat) (e : TypeId) (i : TypeInfo) (z : Value) (size bytes : Nat) (h1 : P.underlying t = some (.slice e)) (h2 : P.info? e = some i) (h3 : i.zero = some z) (h4 : i.size = size) (h5 : i.bytes = bytes) (h6 : z.cells.size = size) (h7 : 0 < size)
    (v : Value) (k : Nat) (xs : List Value) (hs : a.eval s = v) (hown : w.ownsRow base e size v k xs) (ad : Addr) (m c : Nat) (news : List Value) (hx : a.eval x = .slice (some ad) m c) (hn : news.length = m * size)
    (hc : ∀ j u, news[j]? = some u → w.cell? (ad.add j) = some u) (h1c : ∀ u ∈ news, u.oneCell' = true) (hm : 0 < m) (b1 : k + m ≤ maxLen) (b2 : (k + m) * bytes ≤ 140737488355328) (b3 : base ≤ w.heap.size)
    (hK : ∀ g cap w', w'.ownsRow base e size (.slice (some ⟨g, 0, none⟩) (k + m) cap) (k + m) (xs ++ news) → w.grownBy w' v.ownBlock → (v.ownBlock = some g ∨ g = w.heap.size) → g < w'.heap.size → wpListIn F n P ops Q rest (a.put o.dst (.slice (some ⟨g, 0, none⟩) (k + m) cap)) w') :
    wpListIn F n P ops Q (o :: rest) a w := by
  refine wpListIn_plain hg fun K hK' => ?_
  obtain ⟨g, cap, w', hrun, r1, r2, r3, r4⟩ := run_append_lies (P := P) w t o.type base e i z size bytes h1 h2 h3 h4 h5 h6 h7 v k xs hown ad m c news hn hc h1c hm b1 b2 b3 _ rfl
  unfold Oper.wpIn
  refine ⟨?_, ?_⟩
  · simp [Oper.about, hop, resolve, Target.leads, Sem.run_pure]
  · rw [Oper.semAt_plain F _ _ (by rw [hop]; intro c hc'; cases hc')]
    simp [execOp, hop, resolve, invoke, builtin, hs, hx, hrun, Result.andThen]
    exact hK' _ _ (hK g cap w' r1 r2 r3 r4)

theorem owns_same {W W' : World} {base e size n : Nat} {v : Value} {xs : List Value} (h : W.ownsRow base e size v n xs) (hs : ∀ b, v.ownBlock = some b → W'.heap[b]? = W.heap[b]?) : W'.ownsRow base e size v n xs := by
  refine ⟨h.1, ?_⟩
  rcases h.2 with hn | ⟨g, cap, cur, rfl, hb, hgg, rest⟩
  · exact .inl hn
  · exact .inr ⟨g, cap, cur, rfl, hb, by rw [hs g rfl]; exact hgg, rest⟩

theorem pair_info : (Try.prog.info? 25).map (fun i => (i.zero, i.size, i.bytes)) = some (some (.agg #[.int .i64 0, .int .i64 0]), 2, 16) := by kernel_rfl

/-- Between two rounds: what has come lies in the list. -/
def ListInv (w : World) (tb B : Nat) (xs : List (Int × Int)) : Nat → World → Blk → Prop := fun k W O =>
  ∃ v : Value, O = (fun b => b = tb ∨ v.ownBlock = some b) ∧ W.heap[tb]? = some (.cells #[v] 22 (0, 0)) ∧ W.ownsRow B 25 2 v k (flat (xs.take k)) ∧ Stp (fun _ => False) w W
theorem ListInv.stable {w : World} {tb B : Nat} {xs : List (Int × Int)} {B' : Nat} (hB : w.heap.size ≤ B') : Stable B' (ListInv w tb B xs) := by
  rintro k W _ W' ⟨v, rfl, ht, ho, hs⟩ e1 e2 e3 e4 e5
  exact ⟨v, rfl, (e5 tb (.inl (.inl rfl))).trans ht, owns_same ho (fun b hb => e5 b (.inl (.inr hb))), hs.outside (O1 := fun b => b = tb ∨ v.ownBlock = some b) e1 e2 e3 e4 (fun b hb => e5 b (hb.imp id (fun h => by omega)))⟩

def ListPost (w : World) (xs : List (Int × Int)) (e : Ending) (w' : World) : Prop := ∃ v, e = .returned v ∧ w'.ownsRow w.heap.size 25 2 v xs.length (flat xs) ∧ Fr [] w w'

set_option maxHeartbeats 2000000 in
theorem all_any (w : World) (p : Nat) (s : Value) (xs : List (Int × Int)) (hxs : xs.length ≤ 60) (hp : TabS w p s) (hr : Things w s xs) :
    Calls Try.prog 12 #[.pointer (some ⟨p, 0, none⟩)] w (ListPost w xs) := by
  obtain ⟨i0, hi, hz0, hz1, hz2⟩ := info_parts pair_info
  have e1 := fun (wx : World) (bx : Nat) => run_eql_func_nil (P := Try.prog) wx Try.underlying34 (.func 34) #[] #[.pointer (some ⟨bx, 0, none⟩)]
  refine (callsIn_wide (n := 3)).1 (callsIn_of_wp_marks Try.func12 rfl trivial (wpIn_wide.2 ?_) rfl)
  simp only [Try.ntmps12, List.size_toArray, List.length_cons, List.length_nil, Nat.reduceAdd, Nat.reduceSub, Array.replicate_succ, Array.replicate_zero, List.push_toArray, List.append_toArray, List.nil_append, List.cons_append]
  go_wp2_with fail
  refine (all_fn _ p).mono ?_
  rintro e w2 ⟨bx, rfl, hbx, f2⟩
  have F0 := (Fr.refl [] w).alloc (.cells #[.slice none 0 0] 22)
  have F2 : Fr [] w w2 := F0.trans f2
  have tb0 : w2.heap[w.heap.size]? = some (.cells #[.slice none 0 0] 22 (0, 0)) := f2.at (heap_alloc_new w _) (by simp)
  have hit := all_iter w2 p bx s xs (by omega) hbx (F2.at hp (by simp)) (hr.fr F2)
  have hlt2 : w.heap.size + 1 ≤ w2.heap.size := by have := f2.size; simp only [World.size_alloc] at this; exact this
  have HI := Lib.hid hit; have HF := Lib.hid F2; clear hit f2 F0 hbx hp hr F2
  go_wp2
  refine wp_range (xs := xs) (enc := encP) rfl (fun _ _ => rfl) HI.out (fun x => rfl)
    (ListInv w w.heap.size w2.heap.size xs) (fun _ _ _ _ => False) (ListInv.stable (by omega)) (fun _ _ _ _ _ h _ _ _ _ _ => h)
    (fun b => b = w.heap.size ∨ (Value.slice none 0 0).ownBlock = some b) (fun b hb => by rcases hb with h | h; omega; simp [Value.ownBlock] at h)
    ⟨_, rfl, tb0, World.ownsRow_nil _ _ _ _, (Stp.of_fr HF.out).mono (fun x hx => by simp at hx)⟩ ?round ?done ?stop
  case round =>
    rintro l' k ⟨xk, xv⟩ W1 O1 hx
    simp only [encP, kv, vv, List.zip_toArray, List.zip_cons_cons, List.zip_nil_right, List.foldl_toArray', List.foldl_cons, List.foldl_nil, List.setIfInBounds_toArray, List.set_cons_zero, List.set_cons_succ]
    gi_wp2
    refine ⟨rfl, ?_⟩
    rintro W2 ⟨v, rfl, ht, hown, hst⟩ hb2 hsz2
    have q1 : W2.cell? ⟨w.heap.size, 0, none⟩ = some v := cell_of (i := 0) ht rfl
    have q2 : W2.frozen? ⟨w.heap.size, 0, none⟩ = false := frozen_of ht
    have hk := (List.getElem?_eq_some_iff.1 hx).1
    have HX := Lib.hid hx; clear hx
    gi_wp2_with (first | (gi_at_builtin; refine wpListIn_append_lies _ rfl _ _ 22 rfl w2.heap.size 25 i0 _ 2 16 Try.underlying22 hi hz0 hz1 hz2 rfl (by decide) _ _ _ rfl (hown.alloc _) ⟨W2.heap.size, 0, none⟩ 1 1 [.int .i64 xk, .int .i64 xv] rfl rfl (World.news_of_block (heap_alloc_new W2 _)) (by intro u hu; simp at hu; rcases hu with rfl | rfl <;> rfl) (by decide) (by unfold maxLen; omega) (by omega) (by rw [World.size_alloc]; omega) ?_))
    intro g cap w1 hown1 hgrow hat hglt
    have htb : some w.heap.size ≠ v.ownBlock := fun e => by have := (hown.lt w.heap.size e.symm).1; omega
    have ltb : w.heap.size < W2.heap.size := heap_lt ht
    have ht1 : w1.heap[w.heap.size]? = some (.cells #[v] 22 (0, 0)) := (hgrow.block _ (by simp; omega) htb).trans (heap_alloc_keep ht _)
    have r1 : w1.cell? ⟨w.heap.size, 0, none⟩ = some v := cell_of (i := 0) ht1 rfl
    have r2 : w1.frozen? ⟨w.heap.size, 0, none⟩ = false := frozen_of ht1
    have hgt : g ≠ w.heap.size := by
      have := (hown1.lt g rfl).1; omega
    have stg : Stp (fun b => b = w.heap.size ∨ v.ownBlock = some b) W2 w1 :=
      ((Stp.refl _ W2).alloc _).then (O' := fun b => v.ownBlock = some b) ⟨hgrow.os, hgrow.tape, hgrow.output, hgrow.size, fun b hb hn => hgrow.block b hb (fun e => hn e.symm)⟩ (fun b hb => .inl (.inr hb))
    have hsz1 := hgrow.size
    simp only [World.size_alloc] at hsz1
    have fin : ∃ O', Stp (fun b => b = w.heap.size ∨ v.ownBlock = some b) W2 (w1.setCell ⟨w.heap.size, 0, none⟩ (.slice (some ⟨g, 0, none⟩) (k + 1) cap)) ∧ Grw (fun b => b = w.heap.size ∨ v.ownBlock = some b) O' W2 (w1.setCell ⟨w.heap.size, 0, none⟩ (.slice (some ⟨g, 0, none⟩) (k + 1) cap)) ∧
        ListInv w w.heap.size w2.heap.size xs (k + 1) (w1.setCell ⟨w.heap.size, 0, none⟩ (.slice (some ⟨g, 0, none⟩) (k + 1) cap)) O' := by
      refine ⟨_, stg.setCell (.inl (.inl rfl)) _, fun b hb => ?_, .slice (some ⟨g, 0, none⟩) (k + 1) cap, rfl, heap_setCell_same ht1 _, ?_, ?_⟩
      · rcases hb with h | h
        · exact ⟨by simp [World.setCell]; omega, .inl (.inl h)⟩
        · have hbg : b = g := by simp [Value.ownBlock] at h; exact h.symm
          subst hbg
          refine ⟨by simpa [World.setCell] using hglt, ?_⟩
          rcases hat with h | h
          · exact .inl (.inr h)
          · right; omega
      · refine owns_same (W := w1) ?_ (fun b hb => Below.heap_setCell _ _ _ _ (by simp [Value.ownBlock] at hb; show b ≠ w.heap.size; omega))
        rw [List.take_add_one, HX.out, flat_append]
        exact hown1
      · refine (hst.then (O' := fun b => b = w.heap.size ∨ v.ownBlock = some b) (stg.setCell (p := ⟨w.heap.size, 0, none⟩) (.inl (.inl rfl)) _) (fun b hb => ?_))
        rcases hb with h | h
        · right; omega
        · right; have := (hown.lt b h).1; omega
    have FIN := Lib.hid fin; clear fin hat
    have hc2 := heap_setCell_same (i := 0) ht1 (.slice (some ⟨g, 0, none⟩) (k + 1) cap)
    have r3 : (w1.setCell ⟨w.heap.size, 0, none⟩ (.slice (some ⟨g, 0, none⟩) (k + 1) cap)).cell? ⟨w.heap.size, 0, none⟩ = some (.slice (some ⟨g, 0, none⟩) (k + 1) cap) := cell_of (i := 0) hc2 rfl
    have hnb : ¬ (60 : Int) < (k : Int) + 1 := by omega
    clear hc2
    gi_wp2
    exact FIN.out
  case done =>
    rintro D W' O' hD ⟨v, rfl, ht, hown, hst⟩ _ _ hK hnD
    have q1 : W'.cell? ⟨w.heap.size, 0, none⟩ = some v := cell_of (i := 0) ht rfl
    have fin : ListPost w xs (.returned v) (W'.putObj D (.deferred none)) := by
      refine ⟨v, rfl, ?_, ?_⟩
      · have h2 := owns_same (W' := W'.putObj D (.deferred none)) hown (fun b hb => World.putObj_heap_other (fun e => hnD (.inr (by rw [← e]; exact hb))))
        rw [List.take_length] at h2
        refine ⟨h2.1, ?_⟩
        rcases h2.2 with h | ⟨g, cap, cur, h3, h4, rest⟩
        · exact .inl h
        · exact .inr ⟨g, cap, cur, h3, by omega, rest⟩
      · exact (hst.putObj (.inr (by omega)) _).to_fr (fun b hb => hb.elim)
    have FIN := Lib.hid fin; clear fin
    go_wp2
    exact leave_ret v hK (fun _ => results_tmp (t := 2) rfl _ _ _) FIN.out
  case stop => exact fun _ _ _ _ _ _ _ h => h.elim

end Go.Proofs.Ytamnmpcnhaeigaa.TabI
