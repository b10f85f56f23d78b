/- The layer 'round', over an iterator that counts how often it is asked: those that fit (all); each second one; the first ones. -/
import Derived.Test.YtahkkodeppeknaaRoundG
import Derived.Test.YtahkkodeppeknaaIterT
namespace Go.Proofs.Ytahkkodeppeknaa
open Go.RowKit Go.Shelf
attribute [local go_sem] Oper.semAt_some

set_option maxHeartbeats 400000 in
theorem where_iterT (w : World) (bs bf gs gf : Nat) (lbs lbf : Array Value) (Cs Cf E : Blk) (T : Nat → World → Prop) (tick : Nat → Nat) (tend : Nat) (xs : List Int)
    (h1 : w.cell? ⟨bs, 0, none⟩ = some (.func (.func gs) #[] lbs)) (h2 : w.cell? ⟨bf, 0, none⟩ = some (.func (.func gf) #[] lbf))
    (egs : ∀ args w, (callFunc gs args).run Try.prog w = .ok (.enter gs args) w)
    (hs : IterE Try.prog w Cs E T tick tend gs lbs encI xs) (hf : FitsAt Try.prog w Cf gf lbf (fun _ => true)) (hE : ¬ E bs ∧ ¬ E bf ∧ ∀ b, Cf b → ¬ E b) :
    IterE Try.prog w (fun b => Cs b ∨ Cf b ∨ b = bs ∨ b = bf) E T tick tend 27 #[.pointer (some ⟨bs, 0, none⟩), .pointer (some ⟨bf, 0, none⟩)] encI xs := by
  refine ⟨fun b hb => ?_, hs.2.1, fun W l O J Jx hsz hC hCO hO hJ hJx hY h0 => ?_⟩
  · rcases hb with (h | h | rfl | rfl) | h
    · exact hs.1 b (.inl h)
    · exact hf.1 b h
    · exact World.block_lt_of_cell? w _ h1
    · exact World.block_lt_of_cell? w _ h2
    · exact hs.1 b (.inr h)
  have c1 : W.cell? ⟨bs, 0, none⟩ = some (.func (.func gs) #[] lbs) := (World.cell?_of_block (w := w) (a := ⟨bs, 0, none⟩) (hC bs (.inl (.inr (.inr (.inl rfl)))))).trans h1
  have c2 : W.cell? ⟨bf, 0, none⟩ = some (.func (.func gf) #[] lbf) := (World.cell?_of_block (w := w) (a := ⟨bf, 0, none⟩) (hC bf (.inl (.inr (.inr (.inr rfl)))))).trans h2
  have lb1 := World.block_lt_of_cell? W _ c1; have lb2 := World.block_lt_of_cell? W _ c2
  have hS := Lib.hid hs; have hF := Lib.hid hf; have HY := Lib.hid hY; have HC := Lib.hid hC; have HCO := Lib.hid hCO; have EGS := Lib.hid egs; have HE := Lib.hid hE
  have hEW : ∀ b, E b → b < W.heap.size := fun b hb => by have := hs.1 b (.inr hb); omega
  have HEW := Lib.hid hEW
  clear hs hf hY hC hCO h1 h2 egs hE hEW
  have e1 := fun (wx : World) => run_eql_func_nil (P := Try.prog) wx Try.underlying25 (.func gs) #[] lbs
  have e2 := fun (wx : World) => run_eql_func_nil (P := Try.prog) wx Try.underlying30 (.func gf) #[] lbf
  refine (callsIn_wide (n := 3)).1 (callsIn_of_wp_marks Try.func27 rfl trivial (wpIn_wide.2 ?_) rfl)
  simp only [Try.ntmps27, List.size_toArray, List.length_cons, List.length_nil, Nat.reduceAdd, Nat.reduceSub, Array.replicate_succ, Array.replicate_zero, List.push_toArray, List.append_toArray, List.nil_append, List.cons_append]
  go_wp2
  have cb : (W.alloc (.cells #[.func (.yield l) #[] #[]] 30)).cell? ⟨W.heap.size, 0, none⟩ = some (.func (.yield l) #[] #[]) := cell_of (heap_alloc_new W _) rfl
  have st0 : Stp (fun b => O b ∨ E b) W (W.alloc (.cells #[.func (.yield l) #[] #[]] 30)) := (Stp.refl _ W).alloc _
  have sz0 : (W.alloc (.cells #[.func (.yield l) #[] #[]] 30)).heap.size = W.heap.size + 1 := by simp
  have j0 : J 0 (W.alloc (.cells #[.func (.yield l) #[] #[]] 30)) O := hJ.alloc h0 hO (Nat.le_refl _) _
  have same0 : ∀ b, b < W.heap.size → (W.alloc (.cells #[.func (.yield l) #[] #[]] 30)).heap[b]? = W.heap[b]? := fun b hb => Below.heap_alloc _ _ _ hb
  generalize W.alloc (.cells #[.func (.yield l) #[] #[]] 30) = Wb at cb st0 sz0 j0 same0 ⊢
  have hCb : ∀ b, (Cs b ∨ Cf b ∨ b = bs ∨ b = bf) ∨ E b → Wb.heap[b]? = w.heap[b]? := fun b hb => (same0 b (by
    rcases hb with (h | h | h | h) | h
    · have := hS.out.1 b (.inl h); omega
    · have := hF.out.1 b h; omega
    · omega
    · omega
    · exact HEW.out b h)).trans (HC.out b hb)
  have d1 : Wb.cell? ⟨bs, 0, none⟩ = some (.func (.func gs) #[] lbs) := (World.cell?_of_block (w := W) (same0 bs lb1)).trans c1
  have d2 : Wb.cell? ⟨bf, 0, none⟩ = some (.func (.func gf) #[] lbf) := (World.cell?_of_block (w := W) (same0 bf lb2)).trans c2
  have hby : ¬ (O W.heap.size ∨ E W.heap.size) := fun h => by rcases h with h | h; have := hO _ h; omega; have := HEW.out _ h; omega
  have hbf : ¬ (O bf ∨ E bf) := fun h => h.elim (HCO.out bf (.inl (.inr (.inr (.inr rfl))))) HE.out.2.1
  refine wp_rangeT (C := Cs) (xs := xs) (enc := encI) rfl EGS.out (hS.out.later (by omega) (fun b hb => hCb b (hb.imp .inl id))) (fun x => rfl)
    (TrackE E J (fun k => k) O Wb) (TrackXE E Jx O Wb) (TrackE.stable (hJ.mono (by omega)) _ O Wb (Nat.le_refl _)) (TrackXE.stable (hJx.mono (by omega)) O Wb (Nat.le_refl _))
    O (fun b hb => by have := hO b hb; omega) (fun b hb => HCO.out b (hb.imp .inl id)) ⟨j0, Stp.refl _ _, Grw.refl (fun b hb => by have := hO b hb; omega)⟩ ?round ?done ?stop
  case round =>
    intro l' k x W1 O1 hx
    simp only [encI, List.zip_toArray, List.zip_cons_cons, List.zip_nil_right, List.foldl_toArray', List.foldl_cons, List.foldl_nil, List.setIfInBounds_toArray, List.set_cons_zero, List.set_cons_succ]
    gi_wp2
    refine ⟨rfl, ?_⟩
    rintro W2 ⟨hj, hst, hgr⟩ hT hb2 hsz2
    have q2 := hst.cell d2 hbf
    have q3 := hst.cell cb hby
    have EG := hF.out.2.1
    have FT := hF.out.2.2 W2 x (fun b hb => (hst.block b (by have := hF.out.1 b hb; omega) (fun h => h.elim (HCO.out b (.inl (.inr (.inl hb)))) (HE.out.2.2 b hb))).trans (hCb b (.inl (.inr (.inl hb)))))
    have HFT := Lib.hid FT; have HX := Lib.hid hx; clear FT hx
    obtain ⟨fn, tmps, assign, body, hy, hR⟩ := (HY.out _ x W2 O1 HX.out hj hT hb2).at 0
    unfold encI at hy
    have HHY := Lib.hid hy; clear hy hT
    gi_wp2_with fail
    refine ⟨trivial, rfl, (CallsIn.inRound l' (callsIn_wide.2 HFT.out)).mono ?_⟩
    rintro e W' ⟨rfl, rfl⟩
    have hy := HHY.out
    gi_wp2
    refine ⟨rfl, RoundIn.mono (F := Fence.wide) hR ?_⟩
    clear hy
    rintro e W3 (⟨rfl, O3, hj3, st3, gr3⟩ | ⟨rfl, O3, hj3, st3, gr3⟩)
    · have fin : ∃ O', Stp O1 W2 W3 ∧ Grw O1 O' W2 W3 ∧ TrackE E J (fun k => k) O Wb (k + 1) W3 O' :=
        ⟨O3, st3, gr3, hj3, hst.then st3 (fun b hb => (hgr b hb).2.imp .inl id), hgr.then hst.size gr3⟩
      have FIN := Lib.hid fin; clear fin
      gi_wp2
      exact FIN.out
    · have fin : ∃ O', Stp O1 W2 W3 ∧ Grw O1 O' W2 W3 ∧ TrackXE E Jx O Wb .ret (k + 1) W3 O' :=
        ⟨O3, st3, gr3, rfl, hj3, hst.then st3 (fun b hb => (hgr b hb).2.imp .inl id), hgr.then hst.size gr3⟩
      have FIN := Lib.hid fin; clear fin
      gi_wp2
      exact FIN.out
  case done =>
    rintro D W' O' hD ⟨hj, hst, hgr⟩ hT _ _ hK hnD
    have fin : IterPostE E T tick tend J Jx xs.length O W (.returned (.tuple #[])) (W'.putObj D (.deferred none)) := by
      refine ⟨⟨_, rfl⟩, .inl ⟨O', hJ.putObj hj hnD (by omega) (.deferred none), hS.out.2.1 _ _ _ hT (fun b hb => World.putObj_heap_other (fun e => by have := HEW.out b hb; omega)), (st0.then hst (fun b hb => .inl hb)).putObj (.inr (by omega)) _, fun b hb => ⟨by simpa using (hgr b hb).1, ?_⟩⟩⟩
      rcases (hgr b hb).2 with h | h
      · exact .inl h
      · right; omega
    have FIN := Lib.hid fin; clear fin
    go_wp2
    exact leave_normal _ hK (results_none rfl _ _) FIN.out
  case stop =>
    rintro D c k W' O' hD hk ⟨rfl, hj, hst, hgr⟩ hT _ _ hK hnD
    have fin : IterPostE E T tick tend J Jx xs.length O W (.returned (.tuple #[])) (W'.putObj D (.deferred none)) := by
      refine ⟨⟨_, rfl⟩, .inr ⟨k, O', hk, hJx.putObj hj hnD (by omega) _, hS.out.2.1 _ _ _ hT (fun b hb => World.putObj_heap_other (fun e => by have := HEW.out b hb; omega)), (st0.then hst (fun b hb => .inl hb)).putObj (.inr (by omega)) _, fun b hb => ⟨by simpa using (hgr b hb).1, ?_⟩⟩⟩
      rcases (hgr b hb).2 with h | h
      · exact .inl h
      · right; omega
    have FIN := Lib.hid fin; clear fin
    go_wp2
    exact leave_ret _ hK (results_none rfl _ _) FIN.out

set_option maxHeartbeats 400000 in
theorem second_iterT (w : World) (bs gs : Nat) (lbs : Array Value) (Cs E : Blk) (T : Nat → World → Prop) (xs : List Int)
    (h1 : w.cell? ⟨bs, 0, none⟩ = some (.func (.func gs) #[] lbs))
    (egs : ∀ args w, (callFunc gs args).run Try.prog w = .ok (.enter gs args) w) (hs : IterE Try.prog w Cs E T (fun k => k + 1) xs.length gs lbs encI xs) (hE : ¬ E bs) :
    IterE Try.prog w (fun b => Cs b ∨ b = bs) E T (fun j => 2 * j + 1) xs.length 28 #[.pointer (some ⟨bs, 0, none⟩)] encI (secondL xs) := by
  refine ⟨fun b hb => ?_, hs.2.1, fun W l O J Jx hsz hC hCO hO hJ hJx hY h0 => ?_⟩
  · rcases hb with (h | rfl) | h
    · exact hs.1 b (.inl h)
    · exact World.block_lt_of_cell? w _ h1
    · exact hs.1 b (.inr h)
  have c1 : W.cell? ⟨bs, 0, none⟩ = some (.func (.func gs) #[] lbs) := (World.cell?_of_block (w := w) (a := ⟨bs, 0, none⟩) (hC bs (.inl (.inr rfl)))).trans h1
  have lb1 := World.block_lt_of_cell? W _ c1
  have hS := Lib.hid hs; have HY := Lib.hid hY; have HC := Lib.hid hC; have HCO := Lib.hid hCO; have EGS := Lib.hid egs
  have hEW : ∀ b, E b → b < W.heap.size := fun b hb => by have := hs.1 b (.inr hb); omega
  have HEW := Lib.hid hEW
  clear hs hY hC hCO h1 egs hE hEW
  have e1 := fun (wx : World) => run_eql_func_nil (P := Try.prog) wx Try.underlying25 (.func gs) #[] lbs
  refine (callsIn_wide (n := 3)).1 (callsIn_of_wp_marks Try.func28 rfl trivial (wpIn_wide.2 ?_) rfl)
  simp only [Try.ntmps28, List.size_toArray, List.length_cons, List.length_nil, Nat.reduceAdd, Nat.reduceSub, Array.replicate_succ, Array.replicate_zero, List.push_toArray, List.append_toArray, List.nil_append, List.cons_append]
  go_wp2
  have cb : (W.alloc (.cells #[.func (.yield l) #[] #[]] 30)).cell? ⟨W.heap.size, 0, none⟩ = some (.func (.yield l) #[] #[]) := cell_of (heap_alloc_new W _) rfl
  have st0 : Stp (fun b => O b ∨ E b) W (W.alloc (.cells #[.func (.yield l) #[] #[]] 30)) := (Stp.refl _ W).alloc _
  have sz0 : (W.alloc (.cells #[.func (.yield l) #[] #[]] 30)).heap.size = W.heap.size + 1 := by simp
  have j0 : J 0 (W.alloc (.cells #[.func (.yield l) #[] #[]] 30)) O := hJ.alloc h0 hO (Nat.le_refl _) _
  have same0 : ∀ b, b < W.heap.size → (W.alloc (.cells #[.func (.yield l) #[] #[]] 30)).heap[b]? = W.heap[b]? := fun b hb => Below.heap_alloc _ _ _ hb
  generalize W.alloc (.cells #[.func (.yield l) #[] #[]] 30) = Wb at cb st0 sz0 j0 same0 ⊢
  rw [← sz0]
  have tb0 : (Wb.alloc (.cells #[.bool true] 4)).heap[Wb.heap.size]? = some (.cells #[.bool true] 4) := heap_alloc_new Wb _
  have st1 : Stp (fun b => O b ∨ E b) Wb (Wb.alloc (.cells #[.bool true] 4)) := (Stp.refl _ Wb).alloc _
  have sz1 : (Wb.alloc (.cells #[.bool true] 4)).heap.size = Wb.heap.size + 1 := by simp
  have j1 : J 0 (Wb.alloc (.cells #[.bool true] 4)) O := hJ.alloc j0 (fun b hb => by have := hO b hb; omega) (by omega) _
  have same1 : ∀ b, b < Wb.heap.size → (Wb.alloc (.cells #[.bool true] 4)).heap[b]? = Wb.heap[b]? := fun b hb => Below.heap_alloc _ _ _ hb
  generalize Wb.alloc (.cells #[.bool true] 4) = Wc at tb0 st1 sz1 j1 same1 ⊢
  have hCc : ∀ b, Cs b ∨ E b → Wc.heap[b]? = w.heap[b]? := fun b hb => by
    have := hS.out.1 b hb
    exact ((same1 b (by omega)).trans (same0 b (by omega))).trans (HC.out b (hb.imp .inl id))
  have d1 : Wc.cell? ⟨bs, 0, none⟩ = some (.func (.func gs) #[] lbs) := (World.cell?_of_block (w := W) ((same1 bs (by omega)).trans (same0 bs lb1))).trans c1
  have szb : W.heap.size < Wb.heap.size := by omega
  have szc : Wb.heap.size < Wc.heap.size := by omega
  clear sz0 sz1 same0 same1
  have hby : ¬ (O W.heap.size ∨ E W.heap.size) := fun h => by rcases h with h | h; have := hO _ h; omega; have := HEW.out _ h; omega
  have htb : ¬ O Wb.heap.size := fun h => by have := hO _ h; omega
  have hOc : ∀ b, O b → b < Wb.heap.size := fun b hb => by have := hO b hb; omega
  refine wp_rangeT (C := Cs) (xs := xs) (enc := encI) rfl EGS.out (hS.out.later (by omega) hCc) (fun x => rfl)
    (TrackBE E J (fun k => (k + 1) / 2) O Wb Wb.heap.size (fun k => .cells #[.bool (k % 2 == 0)] 4)) (TrackBXE E (fun m W1 O1 => ∃ j, m = 2 * j + 1 ∧ j < (secondL xs).length ∧ Jx (j + 1) W1 O1) O Wb Wb.heap.size)
    (TrackBE.stable hJ _ O Wb _ _ (by omega) (by omega)) (fun c => TrackBXE.stable (fun m W1 O1 W' hj e1 e2 e3 e4 e5 => let ⟨j, h1, h2, h3⟩ := hj; ⟨j, h1, h2, hJx (j + 1) W1 O1 W' h3 e1 e2 e3 e4 e5⟩) O Wb _ c (by omega) (by omega))
    (fun b => O b ∨ b = Wb.heap.size) (fun b hb => by rcases hb with h | h; have := hOc b h; omega; omega) (fun b hb h => by rcases h with h | h; exact HCO.out b (hb.imp .inl id) h; have := hS.out.1 b hb; omega)
    ⟨O, rfl, by simpa using j1, htb, tb0, st1, fun b hb => ⟨by have := hOc b hb; omega, .inl hb⟩⟩ ?round ?done ?stop
  case round =>
    clear hCc d1 c1 e1
    intro l' k x W1 O1 hx
    simp only [encI, List.zip_toArray, List.zip_cons_cons, List.zip_nil_right, List.foldl_toArray', List.foldl_cons, List.foldl_nil, List.setIfInBounds_toArray, List.set_cons_zero, List.set_cons_succ]
    gi_wp2
    refine ⟨rfl, ?_⟩
    rintro W2 ⟨O0, rfl, hj, hn, htk, hst, hgr⟩ hT hb2 hsz2
    dsimp only at hj htk hb2
    have q1 : W2.cell? ⟨Wb.heap.size, 0, none⟩ = some (.bool (k % 2 == 0)) := cell_of (i := 0) htk rfl
    have q2 : W2.frozen? ⟨Wb.heap.size, 0, none⟩ = false := frozen_of htk
    have q3 := hst.cell cb hby
    have HX := Lib.hid hx; clear hx
    rcases Nat.mod_two_eq_zero_or_one k with hk | hk
    · have e0 : (k % 2 == 0) = true := by simp [hk]
      have e2 : (k + 1) / 2 = k / 2 := by omega
      have e3 : (k + 1 + 1) / 2 = k / 2 + 1 := by omega
      have e4 : ((k + 1) % 2 == 0) = false := by have : (k + 1) % 2 = 1 := by omega
                                                 simp [this]
      have hget : (secondL xs)[k / 2]? = some x := by rw [get_secondL, show 2 * (k / 2) = k by omega]; exact HX.out
      rw [e0] at q1 htk
      rw [e2] at hj
      obtain ⟨fn, tmps, assign, body, hy, hR⟩ := (HY.out _ x W2 O0 hget hj (by show T (2 * (k / 2) + 1) W2; rw [show 2 * (k / 2) + 1 = k + 1 by omega]; exact hT) (fun b hb => hb2 b (.inl hb))).at 0
      unfold encI at hy
      have hle := (List.getElem?_eq_some_iff.1 hget).1
      have E3 := Lib.hid e3; have E4 := Lib.hid e4; have HG := Lib.hid hget; have E0 := Lib.hid e0; have HK := Lib.hid hk
      clear e3 e4 hget e0 e2 hk
      gi_wp2
      refine ⟨rfl, RoundIn.mono (F := Fence.wide) hR ?_⟩
      clear hy
      rintro e W3 (⟨rfl, O3, hj3, st3, gr3⟩ | ⟨rfl, O3, hj3, st3, gr3⟩)
      · have ht3 := st3.at htk hn
        have g1 : W3.cell? ⟨Wb.heap.size, 0, none⟩ = some (.bool true) := cell_of (i := 0) ht3 rfl
        have g2 : W3.frozen? ⟨Wb.heap.size, 0, none⟩ = false := frozen_of ht3
        have n3 : ¬ O3 Wb.heap.size := fun h => by rcases (gr3 _ h).2 with h | h; exact hn h; omega
        have sz3 := st3.size
        have fin : ∃ O', Stp (fun b => O0 b ∨ b = Wb.heap.size) W2 (W3.setCell ⟨Wb.heap.size, 0, none⟩ (.bool false)) ∧ Grw (fun b => O0 b ∨ b = Wb.heap.size) O' W2 (W3.setCell ⟨Wb.heap.size, 0, none⟩ (.bool false)) ∧
            TrackBE E J (fun k => (k + 1) / 2) O Wb Wb.heap.size (fun k => .cells #[.bool (k % 2 == 0)] 4) (k + 1) (W3.setCell ⟨Wb.heap.size, 0, none⟩ (.bool false)) O' := by
          refine ⟨fun b => O3 b ∨ b = Wb.heap.size, ((st3.mono (fun b hb => .inl hb)).setCell (.inl (.inr rfl)) _), fun b hb => ?_, O3, rfl, ?_, n3, ?_, ?_, ?_⟩
          · rcases hb with h | h
            · refine ⟨by simpa [World.setCell] using (gr3 b h).1, ?_⟩
              rcases (gr3 b h).2 with h | h
              · exact .inl (.inl h)
              · exact .inr h
            · exact ⟨by simp [World.setCell]; omega, .inl (.inr h)⟩
          · show J ((k + 1 + 1) / 2) _ O3
            rw [E3.out]
            exact hJ _ _ _ _ hj3 rfl rfl rfl (by simp [World.setCell]) (fun b hb => Below.heap_setCell _ _ _ _ (fun e => by
              rcases hb with h | h
              · have e' : b = Wb.heap.size := e
                rw [e'] at h; exact n3 h
              · have : b = Wb.heap.size := e
                omega))
          · show _ = some (Obj.cells #[.bool ((k + 1) % 2 == 0)] 4)
            rw [E4.out]
            exact heap_setCell_same ht3 _
          · exact (hst.then st3 (fun b hb => (hgr b hb).2.imp .inl id)).setCell (.inr (Nat.le_refl _)) _
          · exact fun b hb => ⟨by simpa [World.setCell] using (gr3 b hb).1, (hgr.then hst.size gr3 b hb).2⟩
        have FIN := Lib.hid fin; clear fin
        gi_wp2
        exact FIN.out
      · have n3 : ¬ O3 Wb.heap.size := fun h => by rcases (gr3 _ h).2 with h | h; exact hn h; omega
        have sz3 := st3.size
        have fin : ∃ O', Stp (fun b => O0 b ∨ b = Wb.heap.size) W2 W3 ∧ Grw (fun b => O0 b ∨ b = Wb.heap.size) O' W2 W3 ∧ TrackBXE E (fun m W1 O1 => ∃ j, m = 2 * j + 1 ∧ j < (secondL xs).length ∧ Jx (j + 1) W1 O1) O Wb Wb.heap.size .ret (k + 1) W3 O' := by
          refine ⟨fun b => O3 b ∨ b = Wb.heap.size, st3.mono (fun b hb => .inl hb), fun b hb => ?_, rfl, O3, rfl, ⟨k / 2, by have := HK.out; omega, hle, hj3⟩, n3, hst.then st3 (fun b hb => (hgr b hb).2.imp .inl id), hgr.then hst.size gr3⟩
          rcases hb with h | h
          · refine ⟨(gr3 b h).1, ?_⟩
            rcases (gr3 b h).2 with h | h
            · exact .inl (.inl h)
            · exact .inr h
          · exact ⟨by omega, .inl (.inr h)⟩
        have FIN := Lib.hid fin; clear fin
        gi_wp2
        exact FIN.out
    · have e0 : (k % 2 == 0) = false := by simp [hk]
      have e2 : (k + 1) / 2 = (k + 1 + 1) / 2 := by omega
      have e4 : ((k + 1) % 2 == 0) = true := by have : (k + 1) % 2 = 0 := by omega
                                                simp [this]
      rw [e0] at q1 htk
      rw [e2] at hj
      have E4 := Lib.hid e4; have E0 := Lib.hid e0; have HK := Lib.hid hk
      clear e4 e0 e2 hk
      have sz3 := hst.size
      have fin : ∃ O', Stp (fun b => O0 b ∨ b = Wb.heap.size) W2 (W2.setCell ⟨Wb.heap.size, 0, none⟩ (.bool true)) ∧ Grw (fun b => O0 b ∨ b = Wb.heap.size) O' W2 (W2.setCell ⟨Wb.heap.size, 0, none⟩ (.bool true)) ∧
          TrackBE E J (fun k => (k + 1) / 2) O Wb Wb.heap.size (fun k => .cells #[.bool (k % 2 == 0)] 4) (k + 1) (W2.setCell ⟨Wb.heap.size, 0, none⟩ (.bool true)) O' := by
        refine ⟨fun b => O0 b ∨ b = Wb.heap.size, (Stp.refl _ _).setCell (.inl (.inr rfl)) _, fun b hb => ⟨by simpa [World.setCell] using hb2 b hb, .inl hb⟩, O0, rfl, ?_, hn, ?_, hst.setCell (.inr (Nat.le_refl _)) _, fun b hb => ⟨by simpa [World.setCell] using (hgr b hb).1, (hgr b hb).2⟩⟩
        · exact hJ _ _ _ _ hj rfl rfl rfl (by simp [World.setCell]) (fun b hb => Below.heap_setCell _ _ _ _ (fun e => by
            rcases hb with h | h
            · have e' : b = Wb.heap.size := e
              rw [e'] at h; exact hn h
            · have : b = Wb.heap.size := e
              omega))
        · show _ = some (Obj.cells #[.bool ((k + 1) % 2 == 0)] 4)
          rw [E4.out]
          exact heap_setCell_same htk _
      have FIN := Lib.hid fin; clear fin
      gi_wp2
      refine ⟨fun _ h => (by cases h), ?_⟩
      gi_wp2
      exact FIN.out
  case done =>
    rintro D W' O' hD ⟨O0, rfl, hj, hn, htk, hst, hgr⟩ hT _ _ hK hnD
    have fin : IterPostE E T (fun j => 2 * j + 1) xs.length J Jx (secondL xs).length O W (.returned (.tuple #[])) (W'.putObj D (.deferred none)) := by
      refine ⟨⟨_, rfl⟩, .inl ⟨O0, ?_, hS.out.2.1 _ _ _ hT (fun b hb => World.putObj_heap_other (fun e => by have := HEW.out b hb; omega)), (st0.then hst (fun b hb => .inl hb)).putObj (.inr (by omega)) _, fun b hb => ⟨by simpa using (hgr b hb).1, ?_⟩⟩⟩
      · rw [length_secondL]
        exact hJ.putObj hj (fun h => hnD (.inl h)) (by omega) (.deferred none)
      · rcases (hgr b hb).2 with h | h
        · exact .inl h
        · right; omega
    have FIN := Lib.hid fin; clear fin
    go_wp2
    exact leave_normal _ hK (results_none rfl _ _) FIN.out
  case stop =>
    rintro D c k W' O' hD hk ⟨rfl, O0, rfl, ⟨j, hkj, hjm, hj⟩, hn, hst, hgr⟩ hT _ _ hK hnD
    have fin : IterPostE E T (fun j => 2 * j + 1) xs.length J Jx (secondL xs).length O W (.returned (.tuple #[])) (W'.putObj D (.deferred none)) := by
      refine ⟨⟨_, rfl⟩, .inr ⟨j, O0, hjm, hJx.putObj hj (fun h => hnD (.inl h)) (by omega) _, hS.out.2.1 _ _ _ (by show T (2 * j + 1) W'; rw [← hkj]; exact hT) (fun b hb => World.putObj_heap_other (fun e => by have := HEW.out b hb; omega)), (st0.then hst (fun b hb => .inl hb)).putObj (.inr (by omega)) _, fun b hb => ⟨by simpa using (hgr b hb).1, ?_⟩⟩⟩
      rcases (hgr b hb).2 with h | h
      · exact .inl h
      · right; omega
    have FIN := Lib.hid fin; clear fin
    go_wp2
    exact leave_ret _ hK (results_none rfl _ _) FIN.out


set_option maxHeartbeats 400000 in
theorem first_iterT (w : World) (bs bm gs : Nat) (lbs : Array Value) (Cs E : Blk) (T : Nat → World → Prop) (xs : List Int) (many : Int) (hmany : many ≤ 9223372036854775807)
    (h1 : w.cell? ⟨bs, 0, none⟩ = some (.func (.func gs) #[] lbs))
    (egs : ∀ args w, (callFunc gs args).run Try.prog w = .ok (.enter gs args) w) (hs : IterE Try.prog w Cs E T (fun k => k + 1) xs.length gs lbs encI xs) (hE : ¬ E bs ∧ ¬ E bm) (hT0 : T 0 w)
    (h2 : w.cell? ⟨bm, 0, none⟩ = some (.int .i64 many)) :
    IterE Try.prog w (fun b => Cs b ∨ b = bs ∨ b = bm) E T (fun k => k + 1) (xs.take many.toNat).length 29 #[.pointer (some ⟨bs, 0, none⟩), .pointer (some ⟨bm, 0, none⟩)] encI (xs.take many.toNat) := by
  obtain ⟨ys, hys⟩ : ∃ ys, ys = xs.take many.toNat := ⟨_, rfl⟩
  rw [← hys]
  have HYS := Lib.hid hys; clear hys
  refine ⟨fun b hb => ?_, hs.2.1, fun W l O J Jx hsz hC hCO hO hJ hJx hY h0 => ?_⟩
  · rcases hb with (h | rfl | rfl) | h
    · exact hs.1 b (.inl h)
    · exact World.block_lt_of_cell? w _ h1
    · exact World.block_lt_of_cell? w _ h2
    · exact hs.1 b (.inr h)
  have c1 : W.cell? ⟨bs, 0, none⟩ = some (.func (.func gs) #[] lbs) := (World.cell?_of_block (w := w) (a := ⟨bs, 0, none⟩) (hC bs (.inl (.inr (.inl rfl))))).trans h1
  have c2 : W.cell? ⟨bm, 0, none⟩ = some (.int .i64 many) := (World.cell?_of_block (w := w) (a := ⟨bm, 0, none⟩) (hC bm (.inl (.inr (.inr rfl))))).trans h2
  have lb1 := World.block_lt_of_cell? W _ c1; have lb2 := World.block_lt_of_cell? W _ c2
  have hS := Lib.hid hs; have HY := Lib.hid hY; have HC := Lib.hid hC; have HCO := Lib.hid hCO; have EGS := Lib.hid egs
  have hEW : ∀ b, E b → b < W.heap.size := fun b hb => by have := hs.1 b (.inr hb); omega
  have HEW := Lib.hid hEW
  have hTW : T 0 W := hs.2.1 0 w W hT0 (fun b hb => hC b (.inr hb))
  have HTW := Lib.hid hTW
  clear hs hY hC hCO h1 h2 egs hE hEW hTW hT0
  have e1 := fun (wx : World) => run_eql_func_nil (P := Try.prog) wx Try.underlying25 (.func gs) #[] lbs
  refine (callsIn_wide (n := 3)).1 (callsIn_of_wp_marks Try.func29 rfl trivial (wpIn_wide.2 ?_) rfl)
  simp only [Try.ntmps29, List.size_toArray, List.length_cons, List.length_nil, Nat.reduceAdd, Nat.reduceSub, Array.replicate_succ, Array.replicate_zero, List.push_toArray, List.append_toArray, List.nil_append, List.cons_append]
  by_cases hm1 : many < 1
  · have d1 : decide (many < 1) = true := by simpa using hm1
    have hz : many.toNat = 0 := by omega
    have fin : IterPostE E T (fun k => k + 1) ys.length J Jx ys.length O W (.returned (.tuple #[])) (W.alloc (.cells #[.func (.yield l) #[] #[]] 30)) := by
      rw [HYS.out, hz]
      exact ⟨⟨_, rfl⟩, .inl ⟨O, hJ.alloc h0 hO (Nat.le_refl _) _, hS.out.2.1 0 W _ HTW.out (fun b hb => Below.heap_alloc _ _ _ (HEW.out b hb)), (Stp.refl _ W).alloc _, fun b hb => ⟨by have := hO b hb; simp; omega, .inl hb⟩⟩⟩
    have FIN := Lib.hid fin; clear fin hz
    go_wp2
    exact ⟨_, results_none rfl _ _ _, FIN.out⟩
  · have d1' : decide (many < 1) = false := by simp; omega
    go_wp2
    have cb : (W.alloc (.cells #[.func (.yield l) #[] #[]] 30)).cell? ⟨W.heap.size, 0, none⟩ = some (.func (.yield l) #[] #[]) := cell_of (heap_alloc_new W _) rfl
    have st0 : Stp (fun b => O b ∨ E b) W (W.alloc (.cells #[.func (.yield l) #[] #[]] 30)) := (Stp.refl _ W).alloc _
    have sz0 : (W.alloc (.cells #[.func (.yield l) #[] #[]] 30)).heap.size = W.heap.size + 1 := by simp
    have j0 : J 0 (W.alloc (.cells #[.func (.yield l) #[] #[]] 30)) O := hJ.alloc h0 hO (Nat.le_refl _) _
    have same0 : ∀ b, b < W.heap.size → (W.alloc (.cells #[.func (.yield l) #[] #[]] 30)).heap[b]? = W.heap[b]? := fun b hb => Below.heap_alloc _ _ _ hb
    generalize W.alloc (.cells #[.func (.yield l) #[] #[]] 30) = Wb at cb st0 sz0 j0 same0 ⊢
    rw [← sz0]
    have tb0 : (Wb.alloc (.cells #[.int .i64 many] 3)).heap[Wb.heap.size]? = some (.cells #[.int .i64 many] 3) := heap_alloc_new Wb _
    have st1 : Stp (fun b => O b ∨ E b) Wb (Wb.alloc (.cells #[.int .i64 many] 3)) := (Stp.refl _ Wb).alloc _
    have sz1 : (Wb.alloc (.cells #[.int .i64 many] 3)).heap.size = Wb.heap.size + 1 := by simp
    have j1 : J 0 (Wb.alloc (.cells #[.int .i64 many] 3)) O := hJ.alloc j0 (fun b hb => by have := hO b hb; omega) (by omega) _
    have same1 : ∀ b, b < Wb.heap.size → (Wb.alloc (.cells #[.int .i64 many] 3)).heap[b]? = Wb.heap[b]? := fun b hb => Below.heap_alloc _ _ _ hb
    generalize Wb.alloc (.cells #[.int .i64 many] 3) = Wc at tb0 st1 sz1 j1 same1 ⊢
    have hCc : ∀ b, Cs b ∨ E b → Wc.heap[b]? = w.heap[b]? := fun b hb => by
      have := hS.out.1 b hb
      exact ((same1 b (by omega)).trans (same0 b (by omega))).trans (HC.out b (hb.imp .inl id))
    have d1 : Wc.cell? ⟨bs, 0, none⟩ = some (.func (.func gs) #[] lbs) := (World.cell?_of_block (w := W) ((same1 bs (by omega)).trans (same0 bs lb1))).trans c1
    have szb : W.heap.size < Wb.heap.size := by omega
    have szc : Wb.heap.size < Wc.heap.size := by omega
    clear sz0 sz1 same0 same1
    have hby : ¬ (O W.heap.size ∨ E W.heap.size) := fun h => by rcases h with h | h; have := hO _ h; omega; have := HEW.out _ h; omega
    have htb : ¬ O Wb.heap.size := fun h => by have := hO _ h; omega
    have hOc : ∀ b, O b → b < Wb.heap.size := fun b hb => by have := hO b hb; omega
    refine wp_rangeT (C := Cs) (xs := xs) (enc := encI) rfl EGS.out (hS.out.later (by omega) hCc) (fun x => rfl)
      (fun k W1 O1 => (k : Int) < many ∧ TrackBE E J (fun k => k) O Wb Wb.heap.size (fun k => .cells #[.int .i64 (many - (k : Int))] 3) k W1 O1) (TrackBXE E (fun m W1 O1 => m ≤ ys.length ∧ (Jx m W1 O1 ∨ (m = ys.length ∧ J m W1 O1))) O Wb Wb.heap.size)
      ((TrackBE.stable hJ _ O Wb _ _ (by omega) (by omega)).and _) (fun c => TrackBXE.stable ((hJx.or (hJ.and _)).and _) O Wb _ c (by omega) (by omega))
      (fun b => O b ∨ b = Wb.heap.size) (fun b hb => by rcases hb with h | h; have := hOc b h; omega; omega) (fun b hb h => by rcases h with h | h; exact HCO.out b (hb.imp .inl id) h; have := hS.out.1 b hb; omega)
      ⟨by simp; omega, O, rfl, j1, htb, by simpa using tb0, st1, fun b hb => ⟨by have := hOc b hb; omega, .inl hb⟩⟩ ?round ?done ?stop
    case round =>
      clear hCc d1 c1 e1
      intro l' k x W1 O1 hx
      simp only [encI, List.zip_toArray, List.zip_cons_cons, List.zip_nil_right, List.foldl_toArray', List.foldl_cons, List.foldl_nil, List.setIfInBounds_toArray, List.set_cons_zero, List.set_cons_succ]
      gi_wp2
      refine ⟨rfl, ?_⟩
      rintro W2 ⟨hkm, O0, rfl, hj, hn, htk, hst, hgr⟩ hT hb2 hsz2
      dsimp only at hj htk hb2
      have q1 : W2.cell? ⟨Wb.heap.size, 0, none⟩ = some (.int .i64 (many - (k : Int))) := cell_of (i := 0) htk rfl
      have q2 : W2.frozen? ⟨Wb.heap.size, 0, none⟩ = false := frozen_of htk
      have q3 := hst.cell cb hby
      have HX := Lib.hid hx; clear hx
      have hget : ys[k]? = some x := by rw [HYS.out, List.getElem?_take, if_pos (by omega)]; exact HX.out
      have hle := (List.getElem?_eq_some_iff.1 hget).1
      have hmlen : ys.length ≤ many.toNat := by rw [HYS.out]; simp; omega
      -- the world behind 'left--'
      have ht3 := heap_setCell_same (i := 0) htk (.int .i64 (many - (k : Int) - 1))
      have q4 : (W2.setCell ⟨Wb.heap.size, 0, none⟩ (.int .i64 (many - (k : Int) - 1))).cell? ⟨W.heap.size, 0, none⟩ = some (.func (.yield l) #[] #[]) := by
        rw [World.cell?_of_block (w := W2) (Below.heap_setCell _ _ _ _ (by show W.heap.size ≠ Wb.heap.size; omega))]; exact q3
      have j3 := hJ.setCell (i := 0) hj hn (.inl (by omega)) (.int .i64 (many - (k : Int) - 1))
      have st3 : Stp (fun b => O0 b ∨ b = Wb.heap.size) W2 (W2.setCell ⟨Wb.heap.size, 0, none⟩ (.int .i64 (many - (k : Int) - 1))) := (Stp.refl _ _).setCell (.inl (.inr rfl)) _
      have hT3 := hS.out.2.1 (k + 1) W2 (W2.setCell ⟨Wb.heap.size, 0, none⟩ (.int .i64 (many - (k : Int) - 1))) hT (fun b hb => Below.heap_setCell _ _ _ _ (by have := HEW.out b hb; show b ≠ Wb.heap.size; omega))
      have st3' : Stp (fun b => O b ∨ E b) Wb (W2.setCell ⟨Wb.heap.size, 0, none⟩ (.int .i64 (many - (k : Int) - 1))) := hst.setCell (.inr (Nat.le_refl _)) _
      have sz3 : (W2.setCell ⟨Wb.heap.size, 0, none⟩ (.int .i64 (many - (k : Int) - 1))).heap.size = W2.heap.size := by simp [World.setCell]
      obtain ⟨W3, hW3⟩ : ∃ W3, W3 = W2.setCell ⟨Wb.heap.size, 0, none⟩ (.int .i64 (many - (k : Int) - 1)) := ⟨_, rfl⟩
      rw [← hW3] at ht3 q4 j3 st3 st3' sz3 hT3
      have s3a : W3.heap.size ≤ W2.heap.size := by omega
      have s3b : W2.heap.size ≤ W3.heap.size := by omega
      clear sz3
      obtain ⟨fn, tmps, assign, body, hy, hR⟩ := (HY.out k x W3 O0 hget j3 hT3 (fun b hb => by have := hb2 b (.inl hb); omega)).at 0
      unfold encI at hy
      have g1 : W3.cell? ⟨Wb.heap.size, 0, none⟩ = some (.int .i64 (many - (k : Int) - 1)) := cell_of (i := 0) ht3 rfl
      have hk0 : (0 : Int) ≤ k := by omega
      have hm0 : 1 ≤ many := by omega
      have HW3 := Lib.hid hW3; have HG := Lib.hid hget
      clear hget htk hT hT3
      subst hW3
      gi_wp2
      refine ⟨rfl, RoundIn.mono (F := Fence.wide) hR ?_⟩
      clear hy
      obtain ⟨W3, hW3⟩ : ∃ W3, W3 = W2.setCell ⟨Wb.heap.size, 0, none⟩ (.int .i64 (many - (k : Int) - 1)) := ⟨_, rfl⟩
      rw [← hW3] at ht3 st3 st3' s3a s3b ⊢
      clear hW3 hR q4 g1 j3 HW3 q1
      rintro e W4 (⟨rfl, O3, hj3, st4, gr4⟩ | ⟨rfl, O3, hj3, st4, gr4⟩)
      · have n3 : ¬ O3 Wb.heap.size := fun h => by rcases (gr4 _ h).2 with h | h; exact hn h; omega
        have sz4 := st4.size
        have ht4 := st4.at ht3 hn
        have g1 : W4.cell? ⟨Wb.heap.size, 0, none⟩ = some (.int .i64 (many - (k : Int) - 1)) := cell_of (i := 0) ht4 rfl
        have stA : Stp (fun b => O0 b ∨ b = Wb.heap.size) W2 W4 := st3.then (st4.mono (fun b hb => .inl hb)) (fun b hb => .inl hb)
        have grA : Grw (fun b => O0 b ∨ b = Wb.heap.size) (fun b => O3 b ∨ b = Wb.heap.size) W2 W4 := fun b hb => by
          rcases hb with h | h
          · refine ⟨(gr4 b h).1, ?_⟩
            rcases (gr4 b h).2 with h | h
            · exact .inl (.inl h)
            · exact .inr (by omega)
          · exact ⟨by omega, .inl (.inr h)⟩
        have stB : Stp (fun b => O b ∨ E b) Wb W4 := st3'.then st4 (fun b hb => (hgr b hb).2.imp .inl id)
        have grB : Grw O O3 Wb W4 := fun b hb => ⟨(gr4 b hb).1, by
          rcases (gr4 b hb).2 with h | h
          · exact (hgr b h).2
          · right; omega⟩
        by_cases hend : many - (k : Int) - 1 = 0
        · have e2 : (many - (k : Int) - 1 == 0) = true := by simpa using hend
          have hl : k + 1 = ys.length := by omega
          have fin : ∃ O', Stp (fun b => O0 b ∨ b = Wb.heap.size) W2 W4 ∧ Grw (fun b => O0 b ∨ b = Wb.heap.size) O' W2 W4 ∧
              TrackBXE E (fun m W1 O1 => m ≤ ys.length ∧ (Jx m W1 O1 ∨ (m = ys.length ∧ J m W1 O1))) O Wb Wb.heap.size .ret (k + 1) W4 O' :=
            ⟨_, stA, grA, rfl, O3, rfl, ⟨by omega, .inr ⟨hl, hj3⟩⟩, n3, stB, grB⟩
          have FIN := Lib.hid fin; clear fin hend hl
          gi_wp2
          exact FIN.out
        · have e2 : (many - (k : Int) - 1 == 0) = false := by simpa using hend
          have e5 : many - (k : Int) - 1 = many - ((k + 1 : Nat) : Int) := by omega
          have fin : ∃ O', Stp (fun b => O0 b ∨ b = Wb.heap.size) W2 W4 ∧ Grw (fun b => O0 b ∨ b = Wb.heap.size) O' W2 W4 ∧
              (((k + 1 : Nat) : Int) < many ∧ TrackBE E J (fun k => k) O Wb Wb.heap.size (fun k => .cells #[.int .i64 (many - (k : Int))] 3) (k + 1) W4 O') :=
            ⟨_, stA, grA, by omega, O3, rfl, hj3, n3, by rw [e5] at ht4; exact ht4, stB, grB⟩
          have FIN := Lib.hid fin; clear fin hend e5
          gi_wp2
          exact FIN.out
      · have n3 : ¬ O3 Wb.heap.size := fun h => by rcases (gr4 _ h).2 with h | h; exact hn h; omega
        have sz4 := st4.size
        have stA : Stp (fun b => O0 b ∨ b = Wb.heap.size) W2 W4 := st3.then (st4.mono (fun b hb => .inl hb)) (fun b hb => .inl hb)
        have grA : Grw (fun b => O0 b ∨ b = Wb.heap.size) (fun b => O3 b ∨ b = Wb.heap.size) W2 W4 := fun b hb => by
          rcases hb with h | h
          · refine ⟨(gr4 b h).1, ?_⟩
            rcases (gr4 b h).2 with h | h
            · exact .inl (.inl h)
            · exact .inr (by omega)
          · exact ⟨by omega, .inl (.inr h)⟩
        have stB : Stp (fun b => O b ∨ E b) Wb W4 := st3'.then st4 (fun b hb => (hgr b hb).2.imp .inl id)
        have grB : Grw O O3 Wb W4 := fun b hb => ⟨(gr4 b hb).1, by
          rcases (gr4 b hb).2 with h | h
          · exact (hgr b h).2
          · right; omega⟩
        have fin : ∃ O', Stp (fun b => O0 b ∨ b = Wb.heap.size) W2 W4 ∧ Grw (fun b => O0 b ∨ b = Wb.heap.size) O' W2 W4 ∧
            TrackBXE E (fun m W1 O1 => m ≤ ys.length ∧ (Jx m W1 O1 ∨ (m = ys.length ∧ J m W1 O1))) O Wb Wb.heap.size .ret (k + 1) W4 O' :=
          ⟨_, stA, grA, rfl, O3, rfl, ⟨by omega, .inl hj3⟩, n3, stB, grB⟩
        have FIN := Lib.hid fin; clear fin
        gi_wp2
        exact FIN.out
    case done =>
      rintro D W' O' hD ⟨hkm, O0, rfl, hj, hn, htk, hst, hgr⟩ hT _ _ hK hnD
      have fin : IterPostE E T (fun k => k + 1) ys.length J Jx ys.length O W (.returned (.tuple #[])) (W'.putObj D (.deferred none)) := by
        refine ⟨⟨_, rfl⟩, .inl ⟨O0, ?_, ?_, (st0.then hst (fun b hb => .inl hb)).putObj (.inr (by omega)) _, fun b hb => ⟨by simpa using (hgr b hb).1, ?_⟩⟩⟩
        · have e : ys = xs := by rw [HYS.out]; exact List.take_of_length_le (by omega)
          rw [e]
          exact hJ.putObj hj (fun h => hnD (.inl h)) (by omega) (.deferred none)
        · have e : ys = xs := by rw [HYS.out]; exact List.take_of_length_le (by omega)
          rw [e]
          exact hS.out.2.1 _ _ _ hT (fun b hb => World.putObj_heap_other (fun e => by have := HEW.out b hb; omega))
        · rcases (hgr b hb).2 with h | h
          · exact .inl h
          · right; omega
      have FIN := Lib.hid fin; clear fin
      go_wp2
      exact leave_normal _ hK (results_none rfl _ _) FIN.out
    case stop =>
      rintro D c k W' O' hD hk ⟨rfl, O0, rfl, ⟨hjm, hj⟩, hn, hst, hgr⟩ hT _ _ hK hnD
      have fin : IterPostE E T (fun k => k + 1) ys.length J Jx ys.length O W (.returned (.tuple #[])) (W'.putObj D (.deferred none)) := by
        have hT2 := hS.out.2.1 (k + 1) W' (W'.putObj D (.deferred none)) hT (fun b hb => World.putObj_heap_other (fun e => by have := HEW.out b hb; omega))
        have hS2 : Stp (fun b => O b ∨ E b) W (W'.putObj D (.deferred none)) := (st0.then hst (fun b hb => .inl hb)).putObj (.inr (by omega)) _
        have hG2 : Grw O O0 W (W'.putObj D (.deferred none)) := fun b hb => ⟨by simpa using (hgr b hb).1, by
          rcases (hgr b hb).2 with h | h
          · exact .inl h
          · right; omega⟩
        rcases hj with hj | ⟨hkl, hj⟩
        · exact ⟨⟨_, rfl⟩, .inr ⟨k, O0, hjm, hJx.putObj hj (fun h => hnD (.inl h)) (by omega) _, hT2, hS2, hG2⟩⟩
        · refine ⟨⟨_, rfl⟩, .inl ⟨O0, ?_, ?_, hS2, hG2⟩⟩
          · rw [← hkl]; exact hJ.putObj hj (fun h => hnD (.inl h)) (by omega) _
          · rw [← hkl]; exact hT2
      have FIN := Lib.hid fin; clear fin
      go_wp2
      exact leave_ret _ hK (results_none rfl _ _) FIN.out


end Go.Proofs.Ytahkkodeppeknaa
