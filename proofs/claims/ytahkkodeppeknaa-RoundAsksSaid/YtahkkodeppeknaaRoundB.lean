/- The layer 'round', more: each second one. -/
import Derived.Test.YtahkkodeppeknaaRound
namespace Go.Proofs.Ytahkkodeppeknaa
open Go.RowKit Go.Shelf
attribute [local go_sem] Oper.semAt_some

/-- Each second one, the first one first. -/
def secondL {α : Type} : List α → List α
  | [] => []
  | [x] => [x]
  | x :: _ :: t => x :: secondL t
theorem length_secondL {α : Type} : ∀ xs : List α, (secondL xs).length = (xs.length + 1) / 2
  | [] => by simp [secondL]
  | [_] => by simp [secondL]
  | _ :: _ :: t => by simp only [secondL, List.length_cons, length_secondL t]; omega
theorem get_secondL {α : Type} : ∀ (xs : List α) (j : Nat), (secondL xs)[j]? = xs[2 * j]?
  | [], j => by simp [secondL]
  | [x], 0 => rfl
  | [x], j + 1 => by simp [secondL, show 2 * (j + 1) = 2 * j + 1 + 1 from by omega]
  | x :: y :: t, 0 => rfl
  | x :: y :: t, j + 1 => by simp only [secondL, List.getElem?_cons_succ, get_secondL t j, show 2 * (j + 1) = 2 * j + 1 + 1 from by omega]

set_option maxHeartbeats 400000 in
theorem second_iter (w : World) (bs gs : Nat) (lbs : Array Value) (Cs : Blk) (xs : List Int)
    (h1 : w.cell? ⟨bs, 0, none⟩ = some (.func (.func gs) #[] lbs))
    (egs : ∀ args w, (callFunc gs args).run Try.prog w = .ok (.enter gs args) w) (hs : IterAt Try.prog w Cs gs lbs encI xs) :
    IterAt Try.prog w (fun b => Cs b ∨ b = bs) 28 #[.pointer (some ⟨bs, 0, none⟩)] encI (secondL xs) := by
  refine ⟨fun b hb => ?_, fun W l O J Jx hsz hC hCO hO hJ hJx hY h0 => ?_⟩
  · rcases hb with h | rfl
    · exact hs.1 b h
    · exact World.block_lt_of_cell? w _ h1
  have c1 : W.cell? ⟨bs, 0, none⟩ = some (.func (.func gs) #[] lbs) := (World.cell?_of_block (w := w) (a := ⟨bs, 0, none⟩) (hC bs (.inr rfl))).trans h1
  have lb1 := World.block_lt_of_cell? W _ c1
  have hS := Lib.hid hs; have HY := Lib.hid hY; have HC := Lib.hid hC; have HCO := Lib.hid hCO; have EGS := Lib.hid egs
  clear hs hY hC hCO h1 egs
  have e1 := fun (wx : World) => run_eql_func_nil (P := Try.prog) wx Try.underlying25 (.func gs) #[] lbs
  refine (callsIn_wide (n := 3)).1 (callsIn_of_wp_marks Try.func28 rfl trivial (wpIn_wide.2 ?_) rfl)
  simp only [Try.ntmps28, List.size_toArray, List.length_cons, List.length_nil, Nat.reduceAdd, Nat.reduceSub, Array.replicate_succ, Array.replicate_zero, List.push_toArray, List.append_toArray, List.nil_append, List.cons_append]
  go_wp2
  have cb : (W.alloc (.cells #[.func (.yield l) #[] #[]] 30)).cell? ⟨W.heap.size, 0, none⟩ = some (.func (.yield l) #[] #[]) := cell_of (heap_alloc_new W _) rfl
  have st0 : Stp O W (W.alloc (.cells #[.func (.yield l) #[] #[]] 30)) := (Stp.refl O W).alloc _
  have sz0 : (W.alloc (.cells #[.func (.yield l) #[] #[]] 30)).heap.size = W.heap.size + 1 := by simp
  have j0 : J 0 (W.alloc (.cells #[.func (.yield l) #[] #[]] 30)) O := hJ.alloc h0 hO (Nat.le_refl _) _
  have same0 : ∀ b, b < W.heap.size → (W.alloc (.cells #[.func (.yield l) #[] #[]] 30)).heap[b]? = W.heap[b]? := fun b hb => Below.heap_alloc _ _ _ hb
  generalize W.alloc (.cells #[.func (.yield l) #[] #[]] 30) = Wb at cb st0 sz0 j0 same0 ⊢
  rw [← sz0]
  have tb0 : (Wb.alloc (.cells #[.bool true] 4)).heap[Wb.heap.size]? = some (.cells #[.bool true] 4) := heap_alloc_new Wb _
  have st1 : Stp O Wb (Wb.alloc (.cells #[.bool true] 4)) := (Stp.refl O Wb).alloc _
  have sz1 : (Wb.alloc (.cells #[.bool true] 4)).heap.size = Wb.heap.size + 1 := by simp
  have j1 : J 0 (Wb.alloc (.cells #[.bool true] 4)) O := hJ.alloc j0 (fun b hb => by have := hO b hb; omega) (by omega) _
  have same1 : ∀ b, b < Wb.heap.size → (Wb.alloc (.cells #[.bool true] 4)).heap[b]? = Wb.heap[b]? := fun b hb => Below.heap_alloc _ _ _ hb
  generalize Wb.alloc (.cells #[.bool true] 4) = Wc at tb0 st1 sz1 j1 same1 ⊢
  have hCc : ∀ b, Cs b → Wc.heap[b]? = w.heap[b]? := fun b hb => by
    have := hS.out.1 b hb
    exact ((same1 b (by omega)).trans (same0 b (by omega))).trans (HC.out b (.inl hb))
  have d1 : Wc.cell? ⟨bs, 0, none⟩ = some (.func (.func gs) #[] lbs) := (World.cell?_of_block (w := W) ((same1 bs (by omega)).trans (same0 bs lb1))).trans c1
  have szb : W.heap.size < Wb.heap.size := by omega
  have szc : Wb.heap.size < Wc.heap.size := by omega
  clear sz0 sz1 same0 same1
  have hby : ¬ O W.heap.size := fun h => by have := hO _ h; omega
  have htb : ¬ O Wb.heap.size := fun h => by have := hO _ h; omega
  have hOc : ∀ b, O b → b < Wb.heap.size := fun b hb => by have := hO b hb; omega
  refine wp_range (C := Cs) (xs := xs) (enc := encI) rfl EGS.out (hS.out.later (by omega) hCc) (fun x => rfl)
    (TrackB J (fun k => (k + 1) / 2) O Wb Wb.heap.size (fun k => .cells #[.bool (k % 2 == 0)] 4)) (TrackBX Jx (secondL xs).length O Wb Wb.heap.size)
    (TrackB.stable hJ _ O Wb _ _ (by omega) (by omega)) (fun c => TrackBX.stable hJx _ O Wb _ c (by omega) (by omega))
    (fun b => O b ∨ b = Wb.heap.size) (fun b hb => by rcases hb with h | h; have := hOc b h; omega; omega) (fun b hb h => by rcases h with h | h; exact HCO.out b (.inl hb) h; have := hS.out.1 b hb; omega)
    ⟨O, rfl, by simpa using j1, htb, tb0, st1, fun b hb => ⟨by have := hOc b hb; omega, .inl hb⟩⟩ ?round ?done ?stop
  case round =>
    clear hCc d1 c1 e1
    intro l' k x W1 O1 hx
    simp only [encI, List.zip_toArray, List.zip_cons_cons, List.zip_nil_right, List.foldl_toArray', List.foldl_cons, List.foldl_nil, List.setIfInBounds_toArray, List.set_cons_zero, List.set_cons_succ]
    gi_wp2
    refine ⟨rfl, ?_⟩
    rintro W2 ⟨O0, rfl, hj, hn, htk, hst, hgr⟩ hb2 hsz2
    dsimp only at hj htk hb2
    have q1 : W2.cell? ⟨Wb.heap.size, 0, none⟩ = some (.bool (k % 2 == 0)) := cell_of (i := 0) htk rfl
    have q2 : W2.frozen? ⟨Wb.heap.size, 0, none⟩ = false := frozen_of htk
    have q3 := hst.cell cb hby
    have HX := Lib.hid hx; clear hx
    rcases Nat.mod_two_eq_zero_or_one k with hk | hk
    · have e0 : (k % 2 == 0) = true := by simp [hk]
      have e2 : (k + 1) / 2 = k / 2 := by omega
      have e3 : (k + 1 + 1) / 2 = k / 2 + 1 := by omega
      have e4 : ((k + 1) % 2 == 0) = false := by have : (k + 1) % 2 = 1 := by omega
                                                 simp [this]
      have hget : (secondL xs)[k / 2]? = some x := by rw [get_secondL, show 2 * (k / 2) = k by omega]; exact HX.out
      rw [e0] at q1 htk
      rw [e2] at hj
      obtain ⟨fn, tmps, assign, body, hy, hR⟩ := (HY.out _ x W2 O0 hget hj (fun b hb => hb2 b (.inl hb))).at 0
      unfold encI at hy
      have hle := (List.getElem?_eq_some_iff.1 hget).1
      have E3 := Lib.hid e3; have E4 := Lib.hid e4; have HG := Lib.hid hget; have E0 := Lib.hid e0; have HK := Lib.hid hk
      clear e3 e4 hget e0 e2 hk
      gi_wp2
      refine ⟨rfl, RoundIn.mono (F := Fence.wide) hR ?_⟩
      clear hy
      rintro e W3 (⟨rfl, O3, hj3, st3, gr3⟩ | ⟨rfl, O3, hj3, st3, gr3⟩)
      · have ht3 := st3.at htk hn
        have g1 : W3.cell? ⟨Wb.heap.size, 0, none⟩ = some (.bool true) := cell_of (i := 0) ht3 rfl
        have g2 : W3.frozen? ⟨Wb.heap.size, 0, none⟩ = false := frozen_of ht3
        have n3 : ¬ O3 Wb.heap.size := fun h => by rcases (gr3 _ h).2 with h | h; exact hn h; omega
        have sz3 := st3.size
        have fin : ∃ O', Stp (fun b => O0 b ∨ b = Wb.heap.size) W2 (W3.setCell ⟨Wb.heap.size, 0, none⟩ (.bool false)) ∧ Grw (fun b => O0 b ∨ b = Wb.heap.size) O' W2 (W3.setCell ⟨Wb.heap.size, 0, none⟩ (.bool false)) ∧
            TrackB J (fun k => (k + 1) / 2) O Wb Wb.heap.size (fun k => .cells #[.bool (k % 2 == 0)] 4) (k + 1) (W3.setCell ⟨Wb.heap.size, 0, none⟩ (.bool false)) O' := by
          refine ⟨fun b => O3 b ∨ b = Wb.heap.size, ((st3.mono (fun b hb => .inl hb)).setCell (.inl (.inr rfl)) _), fun b hb => ?_, O3, rfl, ?_, n3, ?_, ?_, ?_⟩
          · rcases hb with h | h
            · refine ⟨by simpa [World.setCell] using (gr3 b h).1, ?_⟩
              rcases (gr3 b h).2 with h | h
              · exact .inl (.inl h)
              · exact .inr h
            · exact ⟨by simp [World.setCell]; omega, .inl (.inr h)⟩
          · show J ((k + 1 + 1) / 2) _ O3
            rw [E3.out]
            exact hJ _ _ _ _ hj3 rfl rfl rfl (by simp [World.setCell]) (fun b hb => Below.heap_setCell _ _ _ _ (fun e => by
              rcases hb with h | h
              · have e' : b = Wb.heap.size := e
                rw [e'] at h; exact n3 h
              · have : b = Wb.heap.size := e
                omega))
          · show _ = some (Obj.cells #[.bool ((k + 1) % 2 == 0)] 4)
            rw [E4.out]
            exact heap_setCell_same ht3 _
          · exact (hst.then st3 (fun b hb => (hgr b hb).2)).setCell (.inr (Nat.le_refl _)) _
          · exact fun b hb => ⟨by simpa [World.setCell] using (gr3 b hb).1, (hgr.then hst.size gr3 b hb).2⟩
        have FIN := Lib.hid fin; clear fin
        gi_wp2
        exact FIN.out
      · have n3 : ¬ O3 Wb.heap.size := fun h => by rcases (gr3 _ h).2 with h | h; exact hn h; omega
        have sz3 := st3.size
        have fin : ∃ O', Stp (fun b => O0 b ∨ b = Wb.heap.size) W2 W3 ∧ Grw (fun b => O0 b ∨ b = Wb.heap.size) O' W2 W3 ∧ TrackBX Jx (secondL xs).length O Wb Wb.heap.size .ret (k + 1) W3 O' := by
          refine ⟨fun b => O3 b ∨ b = Wb.heap.size, st3.mono (fun b hb => .inl hb), fun b hb => ?_, rfl, _, O3, rfl, hle, hj3, n3, hst.then st3 (fun b hb => (hgr b hb).2), hgr.then hst.size gr3⟩
          rcases hb with h | h
          · refine ⟨(gr3 b h).1, ?_⟩
            rcases (gr3 b h).2 with h | h
            · exact .inl (.inl h)
            · exact .inr h
          · exact ⟨by omega, .inl (.inr h)⟩
        have FIN := Lib.hid fin; clear fin
        gi_wp2
        exact FIN.out
    · have e0 : (k % 2 == 0) = false := by simp [hk]
      have e2 : (k + 1) / 2 = (k + 1 + 1) / 2 := by omega
      have e4 : ((k + 1) % 2 == 0) = true := by have : (k + 1) % 2 = 0 := by omega
                                                simp [this]
      rw [e0] at q1 htk
      rw [e2] at hj
      have E4 := Lib.hid e4; have E0 := Lib.hid e0; have HK := Lib.hid hk
      clear e4 e0 e2 hk
      have sz3 := hst.size
      have fin : ∃ O', Stp (fun b => O0 b ∨ b = Wb.heap.size) W2 (W2.setCell ⟨Wb.heap.size, 0, none⟩ (.bool true)) ∧ Grw (fun b => O0 b ∨ b = Wb.heap.size) O' W2 (W2.setCell ⟨Wb.heap.size, 0, none⟩ (.bool true)) ∧
          TrackB J (fun k => (k + 1) / 2) O Wb Wb.heap.size (fun k => .cells #[.bool (k % 2 == 0)] 4) (k + 1) (W2.setCell ⟨Wb.heap.size, 0, none⟩ (.bool true)) O' := by
        refine ⟨fun b => O0 b ∨ b = Wb.heap.size, (Stp.refl _ _).setCell (.inl (.inr rfl)) _, fun b hb => ⟨by simpa [World.setCell] using hb2 b hb, .inl hb⟩, O0, rfl, ?_, hn, ?_, hst.setCell (.inr (Nat.le_refl _)) _, fun b hb => ⟨by simpa [World.setCell] using (hgr b hb).1, (hgr b hb).2⟩⟩
        · exact hJ _ _ _ _ hj rfl rfl rfl (by simp [World.setCell]) (fun b hb => Below.heap_setCell _ _ _ _ (fun e => by
            rcases hb with h | h
            · have e' : b = Wb.heap.size := e
              rw [e'] at h; exact hn h
            · have : b = Wb.heap.size := e
              omega))
        · show _ = some (Obj.cells #[.bool ((k + 1) % 2 == 0)] 4)
          rw [E4.out]
          exact heap_setCell_same htk _
      have FIN := Lib.hid fin; clear fin
      gi_wp2
      refine ⟨fun _ h => (by cases h), ?_⟩
      gi_wp2
      exact FIN.out
  case done =>
    rintro D W' O' hD ⟨O0, rfl, hj, hn, htk, hst, hgr⟩ _ _ hK hnD
    have fin : IterPost J Jx (secondL xs).length O W (.returned (.tuple #[])) (W'.putObj D (.deferred none)) := by
      refine ⟨⟨_, rfl⟩, .inl ⟨O0, ?_, (st0.then hst (fun b hb => .inl hb)).putObj (.inr (by omega)) _, fun b hb => ⟨by simpa using (hgr b hb).1, ?_⟩⟩⟩
      · rw [length_secondL]
        exact hJ.putObj hj (fun h => hnD (.inl h)) (by omega) (.deferred none)
      · rcases (hgr b hb).2 with h | h
        · exact .inl h
        · right; omega
    have FIN := Lib.hid fin; clear fin
    go_wp2
    exact leave_normal _ hK (results_none rfl _ _) FIN.out
  case stop =>
    rintro D c k W' O' hD hk ⟨rfl, j, O0, rfl, hjm, hj, hn, hst, hgr⟩ _ _ hK hnD
    have fin : IterPost J Jx (secondL xs).length O W (.returned (.tuple #[])) (W'.putObj D (.deferred none)) := by
      refine ⟨⟨_, rfl⟩, .inr ⟨j, O0, hjm, hJx.putObj hj (fun h => hnD (.inl h)) (by omega) _, (st0.then hst (fun b hb => .inl hb)).putObj (.inr (by omega)) _, fun b hb => ⟨by simpa using (hgr b hb).1, ?_⟩⟩⟩
      rcases (hgr b hb).2 with h | h
      · exact .inl h
      · right; omega
    have FIN := Lib.hid fin; clear fin
    go_wp2
    exact leave_ret _ hK (results_none rfl _ _) FIN.out

end Go.Proofs.Ytahkkodeppeknaa
