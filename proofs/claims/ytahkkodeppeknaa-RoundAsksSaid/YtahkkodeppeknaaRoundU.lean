/- The layer 'round', over an iterator that counts: the list of all that it tells. -/
import Derived.Test.YtahkkodeppeknaaRoundT
namespace Go.Proofs.Ytahkkodeppeknaa
open Go.RowKit Go.Shelf
attribute [local go_sem] Oper.semAt_some

/-- Between two rounds: what has come lies in the list. -/
def ListInvT (E : Blk) (w : World) (tb B : Nat) (xs : List Int) : Nat → World → Blk → Prop := fun k W O =>
  ∃ v : Value, O = (fun b => b = tb ∨ v.ownBlock = some b) ∧ W.heap[tb]? = some (.cells #[v] 23) ∧ W.ownsRow B 3 1 v k ((xs.take k).map (Value.int .i64)) ∧ Stp E w W
theorem ListInvT.stable {E : Blk} {w : World} {tb B : Nat} {xs : List Int} {B' : Nat} (hB : w.heap.size ≤ B') : StableE B' E (ListInvT E w tb B xs) := by
  rintro k W _ W' ⟨v, rfl, ht, ho, hs⟩ e1 e2 e3 e4 e5
  exact ⟨v, rfl, (e5 tb (.inl (.inl rfl))).trans ht, owns_same ho (fun b hb => e5 b (.inl (.inr hb))), ⟨e1.trans hs.os, e2.trans hs.tape, e3.trans hs.output, Nat.le_trans hs.size e4, fun b hb hn => (e5 b (.inr ⟨by omega, hn⟩)).trans (hs.block b hb hn)⟩⟩

def ListPostT (E : Blk) (T : World → Prop) (w : World) (xs : List Int) (e : Ending) (w' : World) : Prop := ∃ v, e = .returned v ∧ w'.ownsRow w.heap.size 3 1 v xs.length (xs.map (Value.int .i64)) ∧ T w' ∧ Stp E w w'

set_option maxHeartbeats 400000 in
theorem list_anyT (w : World) (gs : Nat) (lbs : Array Value) (Cs E : Blk) (T : Nat → World → Prop) (tick : Nat → Nat) (tend : Nat) (xs : List Int) (hxs : xs.length ≤ 100000)
    (egs : ∀ args w, (callFunc gs args).run Try.prog w = .ok (.enter gs args) w) (hs : IterE Try.prog w Cs E T tick tend gs lbs encI xs) :
    Calls Try.prog 14 #[.func (.func gs) #[] lbs] w (ListPostT E (T tend) w xs) := by
  have hS := Lib.hid hs; have EGS := Lib.hid egs
  have hEW : ∀ b, E b → b < w.heap.size := fun b hb => hs.1 b (.inr hb)
  have HEW := Lib.hid hEW
  clear hEW
  clear hs egs
  obtain ⟨i0, hi, hz0, hz1, hz2⟩ := info_parts round_info_int
  have e1 := fun (wx : World) => run_eql_func_nil (P := Try.prog) wx Try.underlying25 (.func gs) #[] lbs
  refine (callsIn_wide (n := 3)).1 (callsIn_of_wp_marks Try.func14 rfl trivial (wpIn_wide.2 ?_) rfl)
  simp only [Try.ntmps14, List.size_toArray, List.length_cons, List.length_nil, Nat.reduceAdd, Nat.reduceSub, Array.replicate_succ, Array.replicate_zero, List.push_toArray, List.append_toArray, List.nil_append, List.cons_append]
  go_wp2
  have tb0 : (w.alloc (.cells #[.slice none 0 0] 23)).heap[w.heap.size]? = some (.cells #[.slice none 0 0] 23) := heap_alloc_new w _
  have st0 : Stp E w (w.alloc (.cells #[.slice none 0 0] 23)) := (Stp.refl _ w).alloc _
  have sz0 : (w.alloc (.cells #[.slice none 0 0] 23)).heap.size = w.heap.size + 1 := by simp
  have hC0 : ∀ b, Cs b ∨ E b → (w.alloc (.cells #[.slice none 0 0] 23)).heap[b]? = w.heap[b]? := fun b hb => Below.heap_alloc _ _ _ (hS.out.1 b hb)
  generalize w.alloc (.cells #[.slice none 0 0] 23) = Wb at tb0 st0 sz0 hC0 ⊢
  have szb : w.heap.size < Wb.heap.size := by omega
  have szb' : Wb.heap.size ≤ w.heap.size + 1 := by omega
  clear sz0
  refine wp_rangeT (C := Cs) (xs := xs) (enc := encI) rfl EGS.out (hS.out.later (by omega) hC0) (fun x => rfl)
    (ListInvT E w w.heap.size Wb.heap.size xs) (fun _ _ _ _ => False) (ListInvT.stable (by omega)) (fun _ => StableE.never)
    (fun b => b = w.heap.size ∨ (Value.slice none 0 0).ownBlock = some b) (fun b hb => by rcases hb with h | h; omega; simp [Value.ownBlock] at h)
    (fun b hb h => by rcases h with h | h; have := hS.out.1 b hb; omega; simp [Value.ownBlock] at h)
    ⟨_, rfl, tb0, World.ownsRow_nil _ _ _ _, st0⟩ ?round ?done ?stop
  case round =>
    clear hC0 e1
    intro l' k x W1 O1 hx
    simp only [encI, List.zip_toArray, List.zip_cons_cons, List.zip_nil_right, List.foldl_toArray', List.foldl_cons, List.foldl_nil, List.setIfInBounds_toArray, List.set_cons_zero, List.set_cons_succ]
    gi_wp2
    refine ⟨rfl, ?_⟩
    rintro W2 ⟨v, rfl, ht, hown, hst⟩ hT hb2 hsz2
    have q1 : W2.cell? ⟨w.heap.size, 0, none⟩ = some v := cell_of (i := 0) ht rfl
    have q2 : W2.frozen? ⟨w.heap.size, 0, none⟩ = false := frozen_of ht
    have hk := (List.getElem?_eq_some_iff.1 hx).1
    have HX := Lib.hid hx; clear hx
    gi_wp2_with (first | (gi_at_builtin; refine wpListIn_append_lies _ rfl _ _ 23 rfl Wb.heap.size 3 i0 (.int .i64 0) 1 8 Try.underlying23 hi hz0 hz1 hz2 rfl (by decide) _ _ _ rfl (hown.alloc _) ⟨W2.heap.size, 0, none⟩ 1 1 [.int .i64 x] rfl rfl (cell_one_new _ _ _) (by simp [Value.oneCell']) (by decide) (by unfold maxLen; omega) (by omega) (by simp; omega) ?_))
    intro g cap w1 hown1 hgrow hat hglt
    have htb : some w.heap.size ≠ v.ownBlock := fun e => by have := (hown.lt w.heap.size e.symm).1; omega
    have ltb : w.heap.size < W2.heap.size := heap_lt ht
    have ht1 : w1.heap[w.heap.size]? = some (.cells #[v] 23) := (hgrow.block _ (by simp; omega) htb).trans (heap_alloc_keep ht _)
    have r1 : w1.cell? ⟨w.heap.size, 0, none⟩ = some v := cell_of (i := 0) ht1 rfl
    have r2 : w1.frozen? ⟨w.heap.size, 0, none⟩ = false := frozen_of ht1
    have hgt : g ≠ w.heap.size := by
      have := (hown1.lt g rfl).1; omega
    have stg : Stp (fun b => b = w.heap.size ∨ v.ownBlock = some b) W2 w1 :=
      ((Stp.refl _ W2).alloc _).then (O' := fun b => v.ownBlock = some b) ⟨hgrow.os, hgrow.tape, hgrow.output, hgrow.size, fun b hb hn => hgrow.block b hb (fun e => hn e.symm)⟩ (fun b hb => .inl (.inr hb))
    have hsz1 := hgrow.size
    simp only [World.size_alloc] at hsz1
    have fin : ∃ O', Stp (fun b => b = w.heap.size ∨ v.ownBlock = some b) W2 (w1.setCell ⟨w.heap.size, 0, none⟩ (.slice (some ⟨g, 0, none⟩) (k + 1) cap)) ∧ Grw (fun b => b = w.heap.size ∨ v.ownBlock = some b) O' W2 (w1.setCell ⟨w.heap.size, 0, none⟩ (.slice (some ⟨g, 0, none⟩) (k + 1) cap)) ∧
        ListInvT E w w.heap.size Wb.heap.size xs (k + 1) (w1.setCell ⟨w.heap.size, 0, none⟩ (.slice (some ⟨g, 0, none⟩) (k + 1) cap)) O' := by
      refine ⟨_, stg.setCell (.inl (.inl rfl)) _, fun b hb => ?_, .slice (some ⟨g, 0, none⟩) (k + 1) cap, rfl, heap_setCell_same ht1 _, ?_, ?_⟩
      · rcases hb with h | h
        · exact ⟨by simp [World.setCell]; omega, .inl (.inl h)⟩
        · have hbg : b = g := by simp [Value.ownBlock] at h; exact h.symm
          subst hbg
          refine ⟨by simpa [World.setCell] using hglt, ?_⟩
          rcases hat with h | h
          · exact .inl (.inr h)
          · right; omega
      · refine owns_same (W := w1) ?_ (fun b hb => Below.heap_setCell _ _ _ _ (by simp [Value.ownBlock] at hb; show b ≠ w.heap.size; omega))
        rw [List.take_add_one, HX.out]
        simpa using hown1
      · refine (hst.then (O' := fun b => b = w.heap.size ∨ v.ownBlock = some b) (stg.setCell (p := ⟨w.heap.size, 0, none⟩) (.inl (.inl rfl)) _) (fun b hb => ?_))
        rcases hb with h | h
        · right; omega
        · right; have := (hown.lt b h).1; omega
    have FIN := Lib.hid fin; clear fin hat
    gi_wp2
    exact FIN.out
  case done =>
    rintro D W' O' hD ⟨v, rfl, ht, hown, hst⟩ hT _ _ hK hnD
    have q1 : W'.cell? ⟨w.heap.size, 0, none⟩ = some v := cell_of (i := 0) ht rfl
    have fin : ListPostT E (T tend) w xs (.returned v) (W'.putObj D (.deferred none)) := by
      refine ⟨v, rfl, ?_, hS.out.2.1 _ _ _ hT (fun b hb => World.putObj_heap_other (fun e => by have := HEW.out b hb; omega)), ?_⟩
      · have h2 := owns_same (W' := W'.putObj D (.deferred none)) hown (fun b hb => World.putObj_heap_other (fun e => hnD (.inr (by rw [← e]; exact hb))))
        rw [List.take_length] at h2
        refine ⟨h2.1, ?_⟩
        rcases h2.2 with h | ⟨g, cap, cur, h3, h4, rest⟩
        · exact .inl h
        · exact .inr ⟨g, cap, cur, h3, by omega, rest⟩
      · exact hst.putObj (.inr (by omega)) _
    have FIN := Lib.hid fin; clear fin
    go_wp2
    exact leave_normal v hK (fun _ => results_tmp (t := 2) rfl _ _ _) FIN.out
  case stop => exact fun _ _ _ _ _ _ _ h => h.elim

/-- An iterator that counts in block ba how often it was asked, from a0 on. -/
def AskedAt (ba : Nat) (a0 : Nat) : Nat → World → Prop := fun j W => W.heap[ba]? = some (.cells #[.int .i64 ((a0 : Int) + (j : Int))] 3)
def upTo (n : Nat) : List Int := (List.range n).map Int.ofNat
theorem length_upTo (n : Nat) : (upTo n).length = n := by simp [upTo]
theorem get_upTo {n k : Nat} (h : k < n) : (upTo n)[k]? = some (k : Int) := by simp [upTo, h]

set_option maxHeartbeats 400000 in
theorem asks_iter (w : World) (bn ba n a0 : Nat) (hn : n ≤ 100000) (ha : a0 ≤ 100000) (hne : bn ≠ ba) (h1 : w.cell? ⟨bn, 0, none⟩ = some (.int .i64 n)) (h2 : AskedAt ba a0 0 w) :
    IterE Try.prog w (fun b => b = bn) (fun b => b = ba) (AskedAt ba a0) (fun k => k + 1) (upTo n).length 19 #[.pointer (some ⟨bn, 0, none⟩), .pointer (some ⟨ba, 0, none⟩)] encI (upTo n) := by
  refine ⟨fun b hb => ?_, fun j W W' hT hb => (hb ba rfl).trans hT, fun W l O J Jx hs hC hCO hO hJ hJx hY h0 => ?_⟩
  · rcases hb with rfl | rfl
    · exact World.block_lt_of_cell? w _ h1
    · exact heap_lt h2
  have c1 : W.cell? ⟨bn, 0, none⟩ = some (.int .i64 n) := (World.cell?_of_block (w := w) (a := ⟨bn, 0, none⟩) (hC bn (.inl rfl))).trans h1
  have c2 : AskedAt ba a0 0 W := (hC ba (.inr rfl)).trans h2
  refine (callsIn_wide (n := 3)).1 (callsIn_of_wp Try.func19 rfl trivial ?_ rfl)
  simp only [Try.ntmps19, List.size_toArray, List.length_cons, List.length_nil, Nat.reduceAdd, Nat.reduceSub, Array.replicate_succ, Array.replicate_zero, List.push_toArray, List.append_toArray, List.nil_append, List.cons_append]
  have hb1 := hCO bn (.inl rfl); have hb2 := hCO ba (.inr rfl)
  have hlen := length_upTo n
  rw [hlen]
  have hbal := heap_lt c2
  clear hlen hC hCO hs h1 h2
  have HY := Lib.hid hY; clear hY
  gi_wp2
  gi_loopw [4] (fun i wr => ∃ (k : Nat) (O1 : Blk), k ≤ n ∧ i = .int .i64 k ∧ J k wr O1 ∧ AskedAt ba a0 k wr ∧ Stp (fun x => O x ∨ x = ba) W wr ∧ Grw O O1 W wr) (fun i _ => n - (intOf i).toNat)
  case atStart => exact ⟨0, O, Nat.zero_le _, rfl, h0, c2, Stp.refl _ _, Grw.refl hO⟩
  case round =>
    obtain ⟨k, O1, hk, rfl, hj, hc, hst, hgr⟩ := hrel
    have d1 := hst.cell c1 (fun h => h.elim hb1 hne)
    have q1 : wr.cell? ⟨ba, 0, none⟩ = some (.int .i64 ((a0 : Int) + (k : Int))) := cell_of (i := 0) hc rfl
    have q2 : wr.frozen? ⟨ba, 0, none⟩ = false := frozen_of hc
    by_cases hlt : k < n
    · have hbO : ¬ O1 ba := fun hb => by rcases (hgr ba hb).2 with h | h; exact hb2 h; omega
      have ht2 : AskedAt ba a0 (k + 1) (wr.setCell ⟨ba, 0, none⟩ (.int .i64 ((a0 : Int) + (k : Int) + 1))) := by
        have := heap_setCell_same (i := 0) hc (.int .i64 ((a0 : Int) + (k : Int) + 1))
        unfold AskedAt
        rw [show (a0 : Int) + ((k + 1 : Nat) : Int) = (a0 : Int) + (k : Int) + 1 by omega]
        exact this
      have hj2 := hJ.setCell (i := 0) hj hbO (.inr rfl) (.int .i64 ((a0 : Int) + (k : Int) + 1))
      have hst2 := hst.setCell (p := ⟨ba, 0, none⟩) (.inl (.inr rfl)) (.int .i64 ((a0 : Int) + (k : Int) + 1))
      obtain ⟨fn, tmps, assign, body, hy, hR⟩ := (HY.out k _ _ O1 (get_upTo hlt) hj2 ht2 (fun b hb => by simpa [World.setCell] using (hgr b hb).1)).at 2
      unfold encI at hy
      have hlt' : (k : Int) < (n : Int) := by omega
      have hgr2 : Grw O O1 W (wr.setCell ⟨ba, 0, none⟩ (.int .i64 ((a0 : Int) + (k : Int) + 1))) := fun b hb => ⟨by simpa [World.setCell] using (hgr b hb).1, (hgr b hb).2⟩
      clear hst hj
      gi_wp2
      refine hR.mono ?_
      rintro e W2 (⟨rfl, O2, hj3, hst3, hgr3⟩ | ⟨rfl, O2, hj3, hst3, hgr3⟩)
      · have S2 : Stp (fun x => O x ∨ x = ba) W W2 := hst2.then hst3 (fun x hx => (hgr x hx).2.imp .inl id)
        have G2 : Grw O O2 W W2 := hgr2.then hst2.size hgr3
        have T2 : AskedAt ba a0 (k + 1) W2 := hst3.at ht2 hbO
        clear hy
        gi_wp2
        go_roundw
        case rel => exact ⟨k + 1, O2, by omega, by go_num, hj3, T2, S2, G2⟩
        case measure => simp [intOf]; omega
      · have S2 : Stp (fun x => O x ∨ x = ba) W W2 := hst2.then hst3 (fun x hx => (hgr x hx).2.imp .inl id)
        have G2 : Grw O O2 W W2 := hgr2.then hst2.size hgr3
        have T2 : AskedAt ba a0 (k + 1) W2 := hst3.at ht2 hbO
        clear hy
        gi_wp2
        refine bodyPost_ret (results_none rfl _ _ _) rfl ?_
        exact ⟨⟨_, rfl⟩, .inr ⟨k, O2, hlt, hj3, T2, S2, G2⟩⟩
    · obtain rfl : k = n := by omega
      have hge : ¬ (k : Int) < (k : Int) := by omega
      gi_wp2
      go_end0
      exact ⟨⟨_, rfl⟩, .inl ⟨O1, hj, hc, hst, hgr⟩⟩

end Go.Proofs.Ytahkkodeppeknaa
