/- The layer 'round': the list of all that an iterator tells. -/
import Derived.Test.YtahkkodeppeknaaRoundC
import Derived.Test.YtahkkodeppeknaaInts
import Derived.Maps.AppendAt
import Derived.RangeFuncBox
import Derived.Deep.AppendLies
namespace Go.Proofs.Ytahkkodeppeknaa
open Go.RowKit Go.Shelf
attribute [local go_sem] Oper.semAt_some

/-- append to a list of the call's own, within a round: where the new list lies, too. -/
theorem wpListIn_append_lies {F : Fence} {n : Nat} {P : Program} (w : World) {ops : Array Oper} {rest : List Oper} {o : Oper} {a : Act} {Q : Exit → Act → World → Prop}
    (hg : o.guard = none) (s x : Operand) (t : TypeId) (hop : o.op = Op.call { callee := Callee.builtin Builtin.append, args := #[s, x], argTypes := #[t, t] })
    (base : Nat) (e : TypeId) (i : TypeInfo) (z : Value) (size bytes : Nat) (h1 : P.underlying t = some (.slice e)) (h2 : P.info? e = some i) (h3 : i.zero = some z) (h4 : i.size = size) (h5 : i.bytes = bytes) (h6 : z.cells.size = size) (h7 : 0 < size)
    (v : Value) (k : Nat) (xs : List Value) (hs : a.eval s = v) (hown : w.ownsRow base e size v k xs) (ad : Addr) (m c : Nat) (news : List Value) (hx : a.eval x = .slice (some ad) m c) (hn : news.length = m * size)
    (hc : ∀ j u, news[j]? = some u → w.cell? (ad.add j) = some u) (h1c : ∀ u ∈ news, u.oneCell' = true) (hm : 0 < m) (b1 : k + m ≤ maxLen) (b2 : (k + m) * bytes ≤ 140737488355328) (b3 : base ≤ w.heap.size)
    (hK : ∀ g cap w', w'.ownsRow base e size (.slice (some ⟨g, 0, none⟩) (k + m) cap) (k + m) (xs ++ news) → w.grownBy w' v.ownBlock → (v.ownBlock = some g ∨ g = w.heap.size) → g < w'.heap.size → wpListIn F n P ops Q rest (a.put o.dst (.slice (some ⟨g, 0, none⟩) (k + m) cap)) w') :
    wpListIn F n P ops Q (o :: rest) a w := by
  refine wpListIn_plain hg fun K hK' => ?_
  obtain ⟨g, cap, w', hrun, r1, r2, r3, r4⟩ := run_append_lies (P := P) w t o.type base e i z size bytes h1 h2 h3 h4 h5 h6 h7 v k xs hown ad m c news hn hc h1c hm b1 b2 b3 _ rfl
  unfold Oper.wpIn
  refine ⟨?_, ?_⟩
  · simp [Oper.about, hop, resolve, Target.leads, Sem.run_pure]
  · rw [Oper.semAt_plain F _ _ (by rw [hop]; intro c hc'; cases hc')]
    simp [execOp, hop, resolve, invoke, builtin, hs, hx, hrun, Result.andThen]
    exact hK' _ _ (hK g cap w' r1 r2 r3 r4)

theorem owns_same {W W' : World} {base e size n : Nat} {v : Value} {xs : List Value} (h : W.ownsRow base e size v n xs) (hs : ∀ b, v.ownBlock = some b → W'.heap[b]? = W.heap[b]?) : W'.ownsRow base e size v n xs := by
  refine ⟨h.1, ?_⟩
  rcases h.2 with hn | ⟨g, cap, cur, rfl, hb, hgg, rest⟩
  · exact .inl hn
  · exact .inr ⟨g, cap, cur, rfl, hb, by rw [hs g rfl]; exact hgg, rest⟩

theorem round_info_int : (Try.prog.info? 3).map (fun i => (i.zero, i.size, i.bytes)) = some (some (.int .i64 0), 1, 8) := by kernel_rfl

/-- Between two rounds: what has come lies in the list. -/
def ListInv (w : World) (tb B : Nat) (xs : List Int) : Nat → World → Blk → Prop := fun k W O =>
  ∃ v : Value, O = (fun b => b = tb ∨ v.ownBlock = some b) ∧ W.heap[tb]? = some (.cells #[v] 23) ∧ W.ownsRow B 3 1 v k ((xs.take k).map (Value.int .i64)) ∧ Stp (fun _ => False) w W
theorem ListInv.stable {w : World} {tb B : Nat} {xs : List Int} {B' : Nat} (hB : w.heap.size ≤ B') : Stable B' (ListInv w tb B xs) := by
  rintro k W _ W' ⟨v, rfl, ht, ho, hs⟩ e1 e2 e3 e4 e5
  exact ⟨v, rfl, (e5 tb (.inl (.inl rfl))).trans ht, owns_same ho (fun b hb => e5 b (.inl (.inr hb))), hs.outside (O1 := fun b => b = tb ∨ v.ownBlock = some b) e1 e2 e3 e4 (fun b hb => e5 b (hb.imp id (fun h => by omega)))⟩

def ListPost (w : World) (xs : List Int) (e : Ending) (w' : World) : Prop := ∃ v, e = .returned v ∧ w'.ownsRow w.heap.size 3 1 v xs.length (xs.map (Value.int .i64)) ∧ Fr [] w w'

set_option maxHeartbeats 400000 in
theorem list_any (w : World) (gs : Nat) (lbs : Array Value) (Cs : Blk) (xs : List Int) (hxs : xs.length ≤ 100000)
    (egs : ∀ args w, (callFunc gs args).run Try.prog w = .ok (.enter gs args) w) (hs : IterAt Try.prog w Cs gs lbs encI xs) :
    Calls Try.prog 14 #[.func (.func gs) #[] lbs] w (ListPost w xs) := by
  have hS := Lib.hid hs; have EGS := Lib.hid egs
  clear hs egs
  obtain ⟨i0, hi, hz0, hz1, hz2⟩ := info_parts round_info_int
  have e1 := fun (wx : World) => run_eql_func_nil (P := Try.prog) wx Try.underlying25 (.func gs) #[] lbs
  refine (callsIn_wide (n := 3)).1 (callsIn_of_wp_marks Try.func14 rfl trivial (wpIn_wide.2 ?_) rfl)
  simp only [Try.ntmps14, List.size_toArray, List.length_cons, List.length_nil, Nat.reduceAdd, Nat.reduceSub, Array.replicate_succ, Array.replicate_zero, List.push_toArray, List.append_toArray, List.nil_append, List.cons_append]
  go_wp2
  have tb0 : (w.alloc (.cells #[.slice none 0 0] 23)).heap[w.heap.size]? = some (.cells #[.slice none 0 0] 23) := heap_alloc_new w _
  have st0 : Stp (fun _ => False) w (w.alloc (.cells #[.slice none 0 0] 23)) := (Stp.refl _ w).alloc _
  have sz0 : (w.alloc (.cells #[.slice none 0 0] 23)).heap.size = w.heap.size + 1 := by simp
  have hC0 : ∀ b, Cs b → (w.alloc (.cells #[.slice none 0 0] 23)).heap[b]? = w.heap[b]? := fun b hb => Below.heap_alloc _ _ _ (hS.out.1 b hb)
  generalize w.alloc (.cells #[.slice none 0 0] 23) = Wb at tb0 st0 sz0 hC0 ⊢
  have szb : w.heap.size < Wb.heap.size := by omega
  have szb' : Wb.heap.size ≤ w.heap.size + 1 := by omega
  clear sz0
  refine wp_range (C := Cs) (xs := xs) (enc := encI) rfl EGS.out (hS.out.later (by omega) hC0) (fun x => rfl)
    (ListInv w w.heap.size Wb.heap.size xs) (fun _ _ _ _ => False) (ListInv.stable (by omega)) (fun _ _ _ _ _ h _ _ _ _ _ => h)
    (fun b => b = w.heap.size ∨ (Value.slice none 0 0).ownBlock = some b) (fun b hb => by rcases hb with h | h; omega; simp [Value.ownBlock] at h)
    (fun b hb h => by rcases h with h | h; have := hS.out.1 b hb; omega; simp [Value.ownBlock] at h)
    ⟨_, rfl, tb0, World.ownsRow_nil _ _ _ _, st0⟩ ?round ?done ?stop
  case round =>
    clear hC0 e1
    intro l' k x W1 O1 hx
    simp only [encI, List.zip_toArray, List.zip_cons_cons, List.zip_nil_right, List.foldl_toArray', List.foldl_cons, List.foldl_nil, List.setIfInBounds_toArray, List.set_cons_zero, List.set_cons_succ]
    gi_wp2
    refine ⟨rfl, ?_⟩
    rintro W2 ⟨v, rfl, ht, hown, hst⟩ hb2 hsz2
    have q1 : W2.cell? ⟨w.heap.size, 0, none⟩ = some v := cell_of (i := 0) ht rfl
    have q2 : W2.frozen? ⟨w.heap.size, 0, none⟩ = false := frozen_of ht
    have hk := (List.getElem?_eq_some_iff.1 hx).1
    have HX := Lib.hid hx; clear hx
    gi_wp2_with (first | (gi_at_builtin; refine wpListIn_append_lies _ rfl _ _ 23 rfl Wb.heap.size 3 i0 (.int .i64 0) 1 8 Try.underlying23 hi hz0 hz1 hz2 rfl (by decide) _ _ _ rfl (hown.alloc _) ⟨W2.heap.size, 0, none⟩ 1 1 [.int .i64 x] rfl rfl (cell_one_new _ _ _) (by simp [Value.oneCell']) (by decide) (by unfold maxLen; omega) (by omega) (by simp; omega) ?_))
    intro g cap w1 hown1 hgrow hat hglt
    have htb : some w.heap.size ≠ v.ownBlock := fun e => by have := (hown.lt w.heap.size e.symm).1; omega
    have ltb : w.heap.size < W2.heap.size := heap_lt ht
    have ht1 : w1.heap[w.heap.size]? = some (.cells #[v] 23) := (hgrow.block _ (by simp; omega) htb).trans (heap_alloc_keep ht _)
    have r1 : w1.cell? ⟨w.heap.size, 0, none⟩ = some v := cell_of (i := 0) ht1 rfl
    have r2 : w1.frozen? ⟨w.heap.size, 0, none⟩ = false := frozen_of ht1
    have hgt : g ≠ w.heap.size := by
      have := (hown1.lt g rfl).1; omega
    have stg : Stp (fun b => b = w.heap.size ∨ v.ownBlock = some b) W2 w1 :=
      ((Stp.refl _ W2).alloc _).then (O' := fun b => v.ownBlock = some b) ⟨hgrow.os, hgrow.tape, hgrow.output, hgrow.size, fun b hb hn => hgrow.block b hb (fun e => hn e.symm)⟩ (fun b hb => .inl (.inr hb))
    have hsz1 := hgrow.size
    simp only [World.size_alloc] at hsz1
    have fin : ∃ O', Stp (fun b => b = w.heap.size ∨ v.ownBlock = some b) W2 (w1.setCell ⟨w.heap.size, 0, none⟩ (.slice (some ⟨g, 0, none⟩) (k + 1) cap)) ∧ Grw (fun b => b = w.heap.size ∨ v.ownBlock = some b) O' W2 (w1.setCell ⟨w.heap.size, 0, none⟩ (.slice (some ⟨g, 0, none⟩) (k + 1) cap)) ∧
        ListInv w w.heap.size Wb.heap.size xs (k + 1) (w1.setCell ⟨w.heap.size, 0, none⟩ (.slice (some ⟨g, 0, none⟩) (k + 1) cap)) O' := by
      refine ⟨_, stg.setCell (.inl (.inl rfl)) _, fun b hb => ?_, .slice (some ⟨g, 0, none⟩) (k + 1) cap, rfl, heap_setCell_same ht1 _, ?_, ?_⟩
      · rcases hb with h | h
        · exact ⟨by simp [World.setCell]; omega, .inl (.inl h)⟩
        · have hbg : b = g := by simp [Value.ownBlock] at h; exact h.symm
          subst hbg
          refine ⟨by simpa [World.setCell] using hglt, ?_⟩
          rcases hat with h | h
          · exact .inl (.inr h)
          · right; omega
      · refine owns_same (W := w1) ?_ (fun b hb => Below.heap_setCell _ _ _ _ (by simp [Value.ownBlock] at hb; show b ≠ w.heap.size; omega))
        rw [List.take_add_one, HX.out]
        simpa using hown1
      · refine (hst.then (O' := fun b => b = w.heap.size ∨ v.ownBlock = some b) (stg.setCell (p := ⟨w.heap.size, 0, none⟩) (.inl (.inl rfl)) _) (fun b hb => ?_))
        rcases hb with h | h
        · right; omega
        · right; have := (hown.lt b h).1; omega
    have FIN := Lib.hid fin; clear fin hat
    gi_wp2
    exact FIN.out
  case done =>
    rintro D W' O' hD ⟨v, rfl, ht, hown, hst⟩ _ _ hK hnD
    have q1 : W'.cell? ⟨w.heap.size, 0, none⟩ = some v := cell_of (i := 0) ht rfl
    have fin : ListPost w xs (.returned v) (W'.putObj D (.deferred none)) := by
      refine ⟨v, rfl, ?_, ?_⟩
      · have h2 := owns_same (W' := W'.putObj D (.deferred none)) hown (fun b hb => World.putObj_heap_other (fun e => hnD (.inr (by rw [← e]; exact hb))))
        rw [List.take_length] at h2
        refine ⟨h2.1, ?_⟩
        rcases h2.2 with h | ⟨g, cap, cur, h3, h4, rest⟩
        · exact .inl h
        · exact .inr ⟨g, cap, cur, h3, by omega, rest⟩
      · exact (hst.putObj (.inr (by omega)) _).to_fr (fun b hb => hb.elim)
    have FIN := Lib.hid fin; clear fin
    go_wp2
    exact leave_normal v hK (fun _ => results_tmp (t := 2) rfl _ _ _) FIN.out
  case stop => exact fun _ _ _ _ _ _ _ h => h.elim

end Go.Proofs.Ytahkkodeppeknaa
