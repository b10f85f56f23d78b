/- The layer 'round': what its iterators tell. -/
import Derived.Test.YtahkkodeppeknaaIter
import Derived.Test.YtahkkodeppeknaaRows
import Derived.WalkKit
import Derived.WalkSpells
import Derived.WalkLawsBesides
import Derived.RangeFuncBound
import Derived.RangeFuncCalls
import Derived.Shelf.Abstract
import Derived.Shelf.RegionOpen
import Derived.OwnWalkIn
import Derived.TacticsInMore
import Derived.LoopNIn
import Derived.LoopIn
import Derived.Lib.Hide
import Derived.Outline
namespace Go.Proofs.Ytahkkodeppeknaa
open Go.RowKit Go.Shelf
attribute [local go_sem] Oper.semAt_some

/-- A number, as a round is handed it. -/
def encI (x : Int) : Array Value := #[.int .i64 x]

/-- The numbers from f on, round n. -/
def ofList (n f : Nat) : List Int := (List.range n).map fun (i : Nat) => ((f : Int) + (i : Int)) % (n : Int)
theorem length_ofList (n f : Nat) : (ofList n f).length = n := by simp [ofList]
theorem get_ofList {n f k : Nat} (h : k < n) : (ofList n f)[k]? = some (((f : Int) + (k : Int)) % (n : Int)) := by simp [ofList, h]

set_option maxHeartbeats 400000 in
theorem of_iter (w : World) (b1 b2 n f : Nat) (hn : n ≤ 100000) (hf : f < n ∨ f = 0) (h1 : w.cell? ⟨b1, 0, none⟩ = some (.int .i64 n)) (h2 : w.cell? ⟨b2, 0, none⟩ = some (.int .i64 f)) :
    IterAt Try.prog w (fun b => b = b1 ∨ b = b2) 26 #[.pointer (some ⟨b1, 0, none⟩), .pointer (some ⟨b2, 0, none⟩)] encI (ofList n f) := by
  refine ⟨fun b hb => ?_, fun W l O J Jx hs hC hCO hO hJ hJx hY h0 => ?_⟩
  · rcases hb with rfl | rfl
    · exact World.block_lt_of_cell? w _ h1
    · exact World.block_lt_of_cell? w _ h2
  have c1 : W.cell? ⟨b1, 0, none⟩ = some (.int .i64 n) := (World.cell?_of_block (w := w) (a := ⟨b1, 0, none⟩) (hC b1 (.inl rfl))).trans h1
  have c2 : W.cell? ⟨b2, 0, none⟩ = some (.int .i64 f) := (World.cell?_of_block (w := w) (a := ⟨b2, 0, none⟩) (hC b2 (.inr rfl))).trans h2
  refine (callsIn_wide (n := 3)).1 (callsIn_of_wp Try.func26 rfl trivial ?_ rfl)
  simp only [Try.ntmps26, List.size_toArray, List.length_cons, List.length_nil, Nat.reduceAdd, Nat.reduceSub, Array.replicate_succ, Array.replicate_zero, List.push_toArray, List.append_toArray, List.nil_append, List.cons_append]
  have hb1 := hCO b1 (.inl rfl); have hb2 := hCO b2 (.inr rfl)
  have hlen := length_ofList n f
  rw [hlen]
  clear hlen hC hCO hs h1 h2
  have HY := Lib.hid hY; clear hY
  gi_wp2
  gi_loopw [6] (fun i wr => ∃ (k : Nat) (O1 : Blk), k ≤ n ∧ i = .int .i64 k ∧ J k wr O1 ∧ Stp O W wr ∧ Grw O O1 W wr) (fun i _ => n - (intOf i).toNat)
  case atStart => exact ⟨0, O, Nat.zero_le _, rfl, h0, Stp.refl _ _, Grw.refl hO⟩
  case round =>
    obtain ⟨k, O1, hk, rfl, hj, hst, hgr⟩ := hrel
    have d1 := hst.cell c1 hb1; have d2 := hst.cell c2 hb2
    by_cases hlt : k < n
    · obtain ⟨fn, tmps, assign, body, hy, hR⟩ := (HY.out k _ wr O1 (get_ofList hlt) hj (fun b hb => (hgr b hb).1)).at 2
      unfold encI at hy
      have hlt' : (k : Int) < (n : Int) := by omega
      gi_wp2
      refine hR.mono ?_
      rintro e W2 (⟨rfl, O2, hj2, hst2, hgr2⟩ | ⟨rfl, O2, hj2, hst2, hgr2⟩)
      · have S2 : Stp O W W2 := hst.then hst2 (fun x hx => (hgr x hx).2)
        have G2 : Grw O O2 W W2 := hgr.then hst.size hgr2
        clear hy
        gi_wp2
        go_roundw
        case rel => exact ⟨k + 1, O2, by omega, by go_num, hj2, S2, G2⟩
        case measure => simp [intOf]; omega
      · have S2 : Stp O W W2 := hst.then hst2 (fun x hx => (hgr x hx).2)
        have G2 : Grw O O2 W W2 := hgr.then hst.size hgr2
        clear hy
        gi_wp2
        refine bodyPost_ret (results_none rfl _ _ _) rfl ?_
        exact ⟨⟨_, rfl⟩, .inr ⟨k + 1, O2, by omega, hj2, S2, G2⟩⟩
    · obtain rfl : k = n := by omega
      have hge : ¬ (k : Int) < (k : Int) := by omega
      gi_wp2
      go_end0
      exact ⟨⟨_, rfl⟩, .inl ⟨O1, hj, hst, hgr⟩⟩

/-- .. a number below one: nothing is told. -/
theorem of_iter_none (w : World) (b1 b2 : Nat) (m f : Int) (hm : m ≤ 0) (h1 : w.cell? ⟨b1, 0, none⟩ = some (.int .i64 m)) (h2 : w.cell? ⟨b2, 0, none⟩ = some (.int .i64 f)) :
    IterAt Try.prog w (fun b => b = b1 ∨ b = b2) 26 #[.pointer (some ⟨b1, 0, none⟩), .pointer (some ⟨b2, 0, none⟩)] encI [] := by
  refine ⟨fun b hb => ?_, fun W l O J Jx hs hC hCO hO hJ hJx hY h0 => ?_⟩
  · rcases hb with rfl | rfl
    · exact World.block_lt_of_cell? w _ h1
    · exact World.block_lt_of_cell? w _ h2
  have c1 : W.cell? ⟨b1, 0, none⟩ = some (.int .i64 m) := (World.cell?_of_block (w := w) (a := ⟨b1, 0, none⟩) (hC b1 (.inl rfl))).trans h1
  refine (callsIn_wide (n := 3)).1 (callsIn_of_wp Try.func26 rfl trivial ?_ rfl)
  simp only [Try.ntmps26, List.size_toArray, List.length_cons, List.length_nil, Nat.reduceAdd, Nat.reduceSub, Array.replicate_succ, Array.replicate_zero, List.push_toArray, List.append_toArray, List.nil_append, List.cons_append]
  clear hC hCO hs h1 h2
  have HY := Lib.hid hY; clear hY
  have hge : ¬ (0 : Int) < m := by omega
  gi_wp2
  gi_loopw [6] (fun i wr => i = .int .i64 0 ∧ wr = W) (fun _ _ => 0)
  case atStart => exact ⟨rfl, rfl⟩
  case round =>
    obtain ⟨rfl, rfl⟩ := hrel
    gi_wp2
    go_end0
    exact ⟨⟨_, rfl⟩, .inl ⟨O, h0, Stp.refl _ _, Grw.refl hO⟩⟩

theorem filter_get {α : Type} (p : α → Bool) (xs : List α) (k : Nat) (x : α) (hx : xs[k]? = some x) (hp : p x = true) : (xs.filter p)[((xs.take k).filter p).length]? = some x := by
  have h1 : xs = xs.take k ++ x :: xs.drop (k + 1) := by
    have hk : k < xs.length := (List.getElem?_eq_some_iff.1 hx).1
    have hv : xs[k] = x := (List.getElem?_eq_some_iff.1 hx).2
    rw [← hv, List.getElem_cons_drop, List.take_append_drop]
  have h2 : xs.filter p = (xs.take k).filter p ++ x :: (xs.drop (k + 1)).filter p := by
    conv => lhs; rw [h1]
    rw [List.filter_append, List.filter_cons_of_pos hp]
  rw [h2]
  simp
theorem filter_take_yes {α : Type} (p : α → Bool) (xs : List α) (k : Nat) (x : α) (hx : xs[k]? = some x) (hp : p x = true) : ((xs.take (k + 1)).filter p).length = ((xs.take k).filter p).length + 1 := by
  rw [List.take_add_one, hx, List.filter_append]; simp [hp]
theorem filter_take_no {α : Type} (p : α → Bool) (xs : List α) (k : Nat) (x : α) (hx : xs[k]? = some x) (hp : p x = false) : ((xs.take (k + 1)).filter p).length = ((xs.take k).filter p).length := by
  rw [List.take_add_one, hx, List.filter_append]; simp [hp]
theorem filter_take_length {α : Type} (p : α → Bool) (xs : List α) (k : Nat) : ((xs.take k).filter p).length ≤ (xs.filter p).length :=
  ((List.take_sublist k xs).filter p).length_le

set_option maxHeartbeats 400000 in
theorem where_iter (w : World) (bs bf gs gf : Nat) (lbs lbf : Array Value) (Cs Cf : Blk) (xs : List Int) (p : Int → Bool)
    (h1 : w.cell? ⟨bs, 0, none⟩ = some (.func (.func gs) #[] lbs)) (h2 : w.cell? ⟨bf, 0, none⟩ = some (.func (.func gf) #[] lbf))
    (egs : ∀ args w, (callFunc gs args).run Try.prog w = .ok (.enter gs args) w)
    (hs : IterAt Try.prog w Cs gs lbs encI xs) (hf : FitsAt Try.prog w Cf gf lbf p) :
    IterAt Try.prog w (fun b => Cs b ∨ Cf b ∨ b = bs ∨ b = bf) 27 #[.pointer (some ⟨bs, 0, none⟩), .pointer (some ⟨bf, 0, none⟩)] encI (xs.filter p) := by
  refine ⟨fun b hb => ?_, fun W l O J Jx hsz hC hCO hO hJ hJx hY h0 => ?_⟩
  · rcases hb with h | h | rfl | rfl
    · exact hs.1 b h
    · exact hf.1 b h
    · exact World.block_lt_of_cell? w _ h1
    · exact World.block_lt_of_cell? w _ h2
  have c1 : W.cell? ⟨bs, 0, none⟩ = some (.func (.func gs) #[] lbs) := (World.cell?_of_block (w := w) (a := ⟨bs, 0, none⟩) (hC bs (.inr (.inr (.inl rfl))))).trans h1
  have c2 : W.cell? ⟨bf, 0, none⟩ = some (.func (.func gf) #[] lbf) := (World.cell?_of_block (w := w) (a := ⟨bf, 0, none⟩) (hC bf (.inr (.inr (.inr rfl))))).trans h2
  have lb1 := World.block_lt_of_cell? W _ c1; have lb2 := World.block_lt_of_cell? W _ c2
  have hS := Lib.hid hs; have hF := Lib.hid hf; have HY := Lib.hid hY; have HC := Lib.hid hC; have HCO := Lib.hid hCO; have EGS := Lib.hid egs
  clear hs hf hY hC hCO h1 h2 egs
  have e1 := fun (wx : World) => run_eql_func_nil (P := Try.prog) wx Try.underlying25 (.func gs) #[] lbs
  have e2 := fun (wx : World) => run_eql_func_nil (P := Try.prog) wx Try.underlying30 (.func gf) #[] lbf
  refine (callsIn_wide (n := 3)).1 (callsIn_of_wp_marks Try.func27 rfl trivial (wpIn_wide.2 ?_) rfl)
  simp only [Try.ntmps27, List.size_toArray, List.length_cons, List.length_nil, Nat.reduceAdd, Nat.reduceSub, Array.replicate_succ, Array.replicate_zero, List.push_toArray, List.append_toArray, List.nil_append, List.cons_append]
  go_wp2
  have cb : (W.alloc (.cells #[.func (.yield l) #[] #[]] 30)).cell? ⟨W.heap.size, 0, none⟩ = some (.func (.yield l) #[] #[]) := cell_of (heap_alloc_new W _) rfl
  have st0 : Stp O W (W.alloc (.cells #[.func (.yield l) #[] #[]] 30)) := (Stp.refl O W).alloc _
  have sz0 : (W.alloc (.cells #[.func (.yield l) #[] #[]] 30)).heap.size = W.heap.size + 1 := by simp
  have j0 : J 0 (W.alloc (.cells #[.func (.yield l) #[] #[]] 30)) O := hJ.alloc h0 hO (Nat.le_refl _) _
  have same0 : ∀ b, b < W.heap.size → (W.alloc (.cells #[.func (.yield l) #[] #[]] 30)).heap[b]? = W.heap[b]? := fun b hb => Below.heap_alloc _ _ _ hb
  generalize W.alloc (.cells #[.func (.yield l) #[] #[]] 30) = Wb at cb st0 sz0 j0 same0 ⊢
  have hCb : ∀ b, Cs b ∨ Cf b ∨ b = bs ∨ b = bf → Wb.heap[b]? = w.heap[b]? := fun b hb => (same0 b (by
    rcases hb with h | h | h | h
    · have := hS.out.1 b h; omega
    · have := hF.out.1 b h; omega
    · omega
    · omega)).trans (HC.out b hb)
  have d1 : Wb.cell? ⟨bs, 0, none⟩ = some (.func (.func gs) #[] lbs) := (World.cell?_of_block (w := W) (same0 bs lb1)).trans c1
  have d2 : Wb.cell? ⟨bf, 0, none⟩ = some (.func (.func gf) #[] lbf) := (World.cell?_of_block (w := W) (same0 bf lb2)).trans c2
  have hby : ¬ O W.heap.size := fun h => by have := hO _ h; omega
  have hbf : ¬ O bf := HCO.out bf (.inr (.inr (.inr rfl)))
  refine wp_range (C := Cs) (xs := xs) (enc := encI) rfl EGS.out (hS.out.later (by omega) (fun b hb => hCb b (.inl hb))) (fun x => rfl)
    (Track J (fun k => ((xs.take k).filter p).length) O Wb) (TrackX Jx (xs.filter p).length O Wb) (Track.stable (hJ.mono (by omega)) _ O Wb (Nat.le_refl _)) (TrackX.stable (hJx.mono (by omega)) _ O Wb (Nat.le_refl _))
    O (fun b hb => by have := hO b hb; omega) (fun b hb => HCO.out b (.inl hb)) ⟨by simpa using j0, Stp.refl _ _, Grw.refl (fun b hb => by have := hO b hb; omega)⟩ ?round ?done ?stop
  case round =>
    intro l' k x W1 O1 hx
    simp only [encI, List.zip_toArray, List.zip_cons_cons, List.zip_nil_right, List.foldl_toArray', List.foldl_cons, List.foldl_nil, List.setIfInBounds_toArray, List.set_cons_zero, List.set_cons_succ]
    gi_wp2
    refine ⟨rfl, ?_⟩
    rintro W2 ⟨hj, hst, hgr⟩ hb2 hsz2
    have q2 := hst.cell d2 hbf
    have q3 := hst.cell cb hby
    have EG := hF.out.2.1
    have FT := hF.out.2.2 W2 x (fun b hb => (hst.block b (by have := hF.out.1 b hb; omega) (HCO.out b (.inr (.inl hb)))).trans (hCb b (.inr (.inl hb))))
    have HFT := Lib.hid FT; have HX := Lib.hid hx; clear FT hx
    cases hp : p x with
    | true =>
      obtain ⟨fn, tmps, assign, body, hy, hR⟩ := (HY.out _ x W2 O1 (filter_get p xs k x HX.out hp) hj hb2).at 0
      unfold encI at hy
      have HHY := Lib.hid hy; clear hy
      gi_wp2_with fail
      refine ⟨trivial, rfl, (CallsIn.inRound l' (callsIn_wide.2 HFT.out)).mono ?_⟩
      rintro e W' ⟨rfl, rfl⟩
      rw [hp]
      have hy := HHY.out
      gi_wp2
      refine ⟨rfl, RoundIn.mono (F := Fence.wide) hR ?_⟩
      clear hy
      rintro e W3 (⟨rfl, O3, hj3, st3, gr3⟩ | ⟨rfl, O3, hj3, st3, gr3⟩)
      · have fin : ∃ O', Stp O1 W2 W3 ∧ Grw O1 O' W2 W3 ∧ Track J (fun k => ((xs.take k).filter p).length) O Wb (k + 1) W3 O' :=
          ⟨O3, st3, gr3, by show J ((xs.take (k + 1)).filter p).length W3 O3; rw [filter_take_yes p xs k x HX.out hp]; exact hj3, hst.then st3 (fun b hb => (hgr b hb).2), hgr.then hst.size gr3⟩
        have FIN := Lib.hid fin; clear fin
        gi_wp2
        exact FIN.out
      · have hle : ((xs.take k).filter p).length + 1 ≤ (xs.filter p).length := by
          have := (List.getElem?_eq_some_iff.1 (filter_get p xs k x HX.out hp)).1; omega
        have fin : ∃ O', Stp O1 W2 W3 ∧ Grw O1 O' W2 W3 ∧ TrackX Jx (xs.filter p).length O Wb .ret (k + 1) W3 O' :=
          ⟨O3, st3, gr3, rfl, _, hle, hj3, hst.then st3 (fun b hb => (hgr b hb).2), hgr.then hst.size gr3⟩
        have FIN := Lib.hid fin; clear fin hle
        gi_wp2
        exact FIN.out
    | false =>
      have fin : ∃ O', Stp O1 W2 W2 ∧ Grw O1 O' W2 W2 ∧ Track J (fun k => ((xs.take k).filter p).length) O Wb (k + 1) W2 O' :=
        ⟨O1, Stp.refl _ _, Grw.refl hb2, by show J ((xs.take (k + 1)).filter p).length W2 O1; rw [filter_take_no p xs k x HX.out hp]; exact hj, hst, hgr⟩
      have FIN := Lib.hid fin; clear fin
      gi_wp2_with fail
      refine ⟨trivial, rfl, (CallsIn.inRound l' (callsIn_wide.2 HFT.out)).mono ?_⟩
      rintro e W' ⟨rfl, rfl⟩
      rw [hp]
      gi_wp2
      refine ⟨fun _ h => (by cases h), ?_⟩
      gi_wp2
      exact FIN.out
  case done =>
    rintro D W' O' hD ⟨hj, hst, hgr⟩ _ _ hK hnD
    have fin : IterPost J Jx (xs.filter p).length O W (.returned (.tuple #[])) (W'.putObj D (.deferred none)) := by
      refine ⟨⟨_, rfl⟩, .inl ⟨O', ?_, (st0.then hst (fun b hb => .inl hb)).putObj (.inr (by omega)) _, fun b hb => ⟨by simpa using (hgr b hb).1, ?_⟩⟩⟩
      · have := (hJ.putObj hj hnD (by omega) (.deferred none))
        simpa using this
      · rcases (hgr b hb).2 with h | h
        · exact .inl h
        · right; omega
    have FIN := Lib.hid fin; clear fin
    go_wp2
    exact leave_normal _ hK (results_none rfl _ _) FIN.out
  case stop =>
    rintro D c k W' O' hD hk ⟨rfl, j, hjm, hj, hst, hgr⟩ _ _ hK hnD
    have fin : IterPost J Jx (xs.filter p).length O W (.returned (.tuple #[])) (W'.putObj D (.deferred none)) := by
      refine ⟨⟨_, rfl⟩, .inr ⟨j, O', hjm, hJx.putObj hj hnD (by omega) _, (st0.then hst (fun b hb => .inl hb)).putObj (.inr (by omega)) _, fun b hb => ⟨by simpa using (hgr b hb).1, ?_⟩⟩⟩
      rcases (hgr b hb).2 with h | h
      · exact .inl h
      · right; omega
    have FIN := Lib.hid fin; clear fin
    go_wp2
    exact leave_ret _ hK (results_none rfl _ _) FIN.out

end Go.Proofs.Ytahkkodeppeknaa
