/- The layer 'round', more: the first ones. -/
import Derived.Test.YtahkkodeppeknaaRoundB
namespace Go.Proofs.Ytahkkodeppeknaa
open Go.RowKit Go.Shelf
attribute [local go_sem] Oper.semAt_some

set_option maxHeartbeats 400000 in
theorem first_iter (w : World) (bs bm gs : Nat) (lbs : Array Value) (Cs : Blk) (xs : List Int) (many : Int) (hmany : many ≤ 9223372036854775807)
    (h1 : w.cell? ⟨bs, 0, none⟩ = some (.func (.func gs) #[] lbs))
    (egs : ∀ args w, (callFunc gs args).run Try.prog w = .ok (.enter gs args) w) (hs : IterAt Try.prog w Cs gs lbs encI xs)
    (h2 : w.cell? ⟨bm, 0, none⟩ = some (.int .i64 many)) :
    IterAt Try.prog w (fun b => Cs b ∨ b = bs ∨ b = bm) 29 #[.pointer (some ⟨bs, 0, none⟩), .pointer (some ⟨bm, 0, none⟩)] encI (xs.take many.toNat) := by
  obtain ⟨ys, hys⟩ : ∃ ys, ys = xs.take many.toNat := ⟨_, rfl⟩
  rw [← hys]
  have HYS := Lib.hid hys; clear hys
  refine ⟨fun b hb => ?_, fun W l O J Jx hsz hC hCO hO hJ hJx hY h0 => ?_⟩
  · rcases hb with h | rfl | rfl
    · exact hs.1 b h
    · exact World.block_lt_of_cell? w _ h1
    · exact World.block_lt_of_cell? w _ h2
  have c1 : W.cell? ⟨bs, 0, none⟩ = some (.func (.func gs) #[] lbs) := (World.cell?_of_block (w := w) (a := ⟨bs, 0, none⟩) (hC bs (.inr (.inl rfl)))).trans h1
  have c2 : W.cell? ⟨bm, 0, none⟩ = some (.int .i64 many) := (World.cell?_of_block (w := w) (a := ⟨bm, 0, none⟩) (hC bm (.inr (.inr rfl)))).trans h2
  have lb1 := World.block_lt_of_cell? W _ c1; have lb2 := World.block_lt_of_cell? W _ c2
  have hS := Lib.hid hs; have HY := Lib.hid hY; have HC := Lib.hid hC; have HCO := Lib.hid hCO; have EGS := Lib.hid egs
  clear hs hY hC hCO h1 h2 egs
  have e1 := fun (wx : World) => run_eql_func_nil (P := Try.prog) wx Try.underlying25 (.func gs) #[] lbs
  refine (callsIn_wide (n := 3)).1 (callsIn_of_wp_marks Try.func29 rfl trivial (wpIn_wide.2 ?_) rfl)
  simp only [Try.ntmps29, List.size_toArray, List.length_cons, List.length_nil, Nat.reduceAdd, Nat.reduceSub, Array.replicate_succ, Array.replicate_zero, List.push_toArray, List.append_toArray, List.nil_append, List.cons_append]
  by_cases hm1 : many < 1
  · have d1 : decide (many < 1) = true := by simpa using hm1
    have hz : many.toNat = 0 := by omega
    have fin : IterPost J Jx ys.length O W (.returned (.tuple #[])) (W.alloc (.cells #[.func (.yield l) #[] #[]] 30)) := by
      rw [HYS.out, hz]
      exact ⟨⟨_, rfl⟩, .inl ⟨O, hJ.alloc h0 hO (Nat.le_refl _) _, (Stp.refl O W).alloc _, fun b hb => ⟨by have := hO b hb; simp; omega, .inl hb⟩⟩⟩
    have FIN := Lib.hid fin; clear fin hz
    go_wp2
    exact ⟨_, results_none rfl _ _ _, FIN.out⟩
  · have d1' : decide (many < 1) = false := by simp; omega
    go_wp2
    have cb : (W.alloc (.cells #[.func (.yield l) #[] #[]] 30)).cell? ⟨W.heap.size, 0, none⟩ = some (.func (.yield l) #[] #[]) := cell_of (heap_alloc_new W _) rfl
    have st0 : Stp O W (W.alloc (.cells #[.func (.yield l) #[] #[]] 30)) := (Stp.refl O W).alloc _
    have sz0 : (W.alloc (.cells #[.func (.yield l) #[] #[]] 30)).heap.size = W.heap.size + 1 := by simp
    have j0 : J 0 (W.alloc (.cells #[.func (.yield l) #[] #[]] 30)) O := hJ.alloc h0 hO (Nat.le_refl _) _
    have same0 : ∀ b, b < W.heap.size → (W.alloc (.cells #[.func (.yield l) #[] #[]] 30)).heap[b]? = W.heap[b]? := fun b hb => Below.heap_alloc _ _ _ hb
    generalize W.alloc (.cells #[.func (.yield l) #[] #[]] 30) = Wb at cb st0 sz0 j0 same0 ⊢
    rw [← sz0]
    have tb0 : (Wb.alloc (.cells #[.int .i64 many] 3)).heap[Wb.heap.size]? = some (.cells #[.int .i64 many] 3) := heap_alloc_new Wb _
    have st1 : Stp O Wb (Wb.alloc (.cells #[.int .i64 many] 3)) := (Stp.refl O Wb).alloc _
    have sz1 : (Wb.alloc (.cells #[.int .i64 many] 3)).heap.size = Wb.heap.size + 1 := by simp
    have j1 : J 0 (Wb.alloc (.cells #[.int .i64 many] 3)) O := hJ.alloc j0 (fun b hb => by have := hO b hb; omega) (by omega) _
    have same1 : ∀ b, b < Wb.heap.size → (Wb.alloc (.cells #[.int .i64 many] 3)).heap[b]? = Wb.heap[b]? := fun b hb => Below.heap_alloc _ _ _ hb
    generalize Wb.alloc (.cells #[.int .i64 many] 3) = Wc at tb0 st1 sz1 j1 same1 ⊢
    have hCc : ∀ b, Cs b → Wc.heap[b]? = w.heap[b]? := fun b hb => by
      have := hS.out.1 b hb
      exact ((same1 b (by omega)).trans (same0 b (by omega))).trans (HC.out b (.inl hb))
    have d1 : Wc.cell? ⟨bs, 0, none⟩ = some (.func (.func gs) #[] lbs) := (World.cell?_of_block (w := W) ((same1 bs (by omega)).trans (same0 bs lb1))).trans c1
    have szb : W.heap.size < Wb.heap.size := by omega
    have szc : Wb.heap.size < Wc.heap.size := by omega
    clear sz0 sz1 same0 same1
    have hby : ¬ O W.heap.size := fun h => by have := hO _ h; omega
    have htb : ¬ O Wb.heap.size := fun h => by have := hO _ h; omega
    have hOc : ∀ b, O b → b < Wb.heap.size := fun b hb => by have := hO b hb; omega
    refine wp_range (C := Cs) (xs := xs) (enc := encI) rfl EGS.out (hS.out.later (by omega) hCc) (fun x => rfl)
      (fun k W1 O1 => (k : Int) < many ∧ TrackB J (fun k => k) O Wb Wb.heap.size (fun k => .cells #[.int .i64 (many - (k : Int))] 3) k W1 O1) (TrackBX (fun j W1 O1 => Jx j W1 O1 ∨ (j = ys.length ∧ J j W1 O1)) ys.length O Wb Wb.heap.size)
      ((TrackB.stable hJ _ O Wb _ _ (by omega) (by omega)).and _) (fun c => TrackBX.stable (hJx.or (hJ.and _)) _ O Wb _ c (by omega) (by omega))
      (fun b => O b ∨ b = Wb.heap.size) (fun b hb => by rcases hb with h | h; have := hOc b h; omega; omega) (fun b hb h => by rcases h with h | h; exact HCO.out b (.inl hb) h; have := hS.out.1 b hb; omega)
      ⟨by simp; omega, O, rfl, j1, htb, by simpa using tb0, st1, fun b hb => ⟨by have := hOc b hb; omega, .inl hb⟩⟩ ?round ?done ?stop
    case round =>
      clear hCc d1 c1 e1
      intro l' k x W1 O1 hx
      simp only [encI, List.zip_toArray, List.zip_cons_cons, List.zip_nil_right, List.foldl_toArray', List.foldl_cons, List.foldl_nil, List.setIfInBounds_toArray, List.set_cons_zero, List.set_cons_succ]
      gi_wp2
      refine ⟨rfl, ?_⟩
      rintro W2 ⟨hkm, O0, rfl, hj, hn, htk, hst, hgr⟩ hb2 hsz2
      dsimp only at hj htk hb2
      have q1 : W2.cell? ⟨Wb.heap.size, 0, none⟩ = some (.int .i64 (many - (k : Int))) := cell_of (i := 0) htk rfl
      have q2 : W2.frozen? ⟨Wb.heap.size, 0, none⟩ = false := frozen_of htk
      have q3 := hst.cell cb hby
      have HX := Lib.hid hx; clear hx
      have hget : ys[k]? = some x := by rw [HYS.out, List.getElem?_take, if_pos (by omega)]; exact HX.out
      have hle := (List.getElem?_eq_some_iff.1 hget).1
      have hmlen : ys.length ≤ many.toNat := by rw [HYS.out]; simp; omega
      -- the world behind 'left--'
      have ht3 := heap_setCell_same (i := 0) htk (.int .i64 (many - (k : Int) - 1))
      have q4 : (W2.setCell ⟨Wb.heap.size, 0, none⟩ (.int .i64 (many - (k : Int) - 1))).cell? ⟨W.heap.size, 0, none⟩ = some (.func (.yield l) #[] #[]) := by
        rw [World.cell?_of_block (w := W2) (Below.heap_setCell _ _ _ _ (by show W.heap.size ≠ Wb.heap.size; omega))]; exact q3
      have j3 := hJ.setCell (i := 0) hj hn (by omega) (.int .i64 (many - (k : Int) - 1))
      have st3 : Stp (fun b => O0 b ∨ b = Wb.heap.size) W2 (W2.setCell ⟨Wb.heap.size, 0, none⟩ (.int .i64 (many - (k : Int) - 1))) := (Stp.refl _ _).setCell (.inl (.inr rfl)) _
      have st3' : Stp O Wb (W2.setCell ⟨Wb.heap.size, 0, none⟩ (.int .i64 (many - (k : Int) - 1))) := hst.setCell (.inr (Nat.le_refl _)) _
      have sz3 : (W2.setCell ⟨Wb.heap.size, 0, none⟩ (.int .i64 (many - (k : Int) - 1))).heap.size = W2.heap.size := by simp [World.setCell]
      obtain ⟨W3, hW3⟩ : ∃ W3, W3 = W2.setCell ⟨Wb.heap.size, 0, none⟩ (.int .i64 (many - (k : Int) - 1)) := ⟨_, rfl⟩
      rw [← hW3] at ht3 q4 j3 st3 st3' sz3
      have s3a : W3.heap.size ≤ W2.heap.size := by omega
      have s3b : W2.heap.size ≤ W3.heap.size := by omega
      clear sz3
      obtain ⟨fn, tmps, assign, body, hy, hR⟩ := (HY.out k x W3 O0 hget j3 (fun b hb => by have := hb2 b (.inl hb); omega)).at 0
      unfold encI at hy
      have g1 : W3.cell? ⟨Wb.heap.size, 0, none⟩ = some (.int .i64 (many - (k : Int) - 1)) := cell_of (i := 0) ht3 rfl
      have hk0 : (0 : Int) ≤ k := by omega
      have hm0 : 1 ≤ many := by omega
      have HW3 := Lib.hid hW3; have HG := Lib.hid hget
      clear hget htk
      subst hW3
      gi_wp2
      refine ⟨rfl, RoundIn.mono (F := Fence.wide) hR ?_⟩
      clear hy
      obtain ⟨W3, hW3⟩ : ∃ W3, W3 = W2.setCell ⟨Wb.heap.size, 0, none⟩ (.int .i64 (many - (k : Int) - 1)) := ⟨_, rfl⟩
      rw [← hW3] at ht3 st3 st3' s3a s3b ⊢
      clear hW3 hR q4 g1 j3 HW3 q1
      rintro e W4 (⟨rfl, O3, hj3, st4, gr4⟩ | ⟨rfl, O3, hj3, st4, gr4⟩)
      · have n3 : ¬ O3 Wb.heap.size := fun h => by rcases (gr4 _ h).2 with h | h; exact hn h; omega
        have sz4 := st4.size
        have ht4 := st4.at ht3 hn
        have g1 : W4.cell? ⟨Wb.heap.size, 0, none⟩ = some (.int .i64 (many - (k : Int) - 1)) := cell_of (i := 0) ht4 rfl
        have stA : Stp (fun b => O0 b ∨ b = Wb.heap.size) W2 W4 := st3.then (st4.mono (fun b hb => .inl hb)) (fun b hb => .inl hb)
        have grA : Grw (fun b => O0 b ∨ b = Wb.heap.size) (fun b => O3 b ∨ b = Wb.heap.size) W2 W4 := fun b hb => by
          rcases hb with h | h
          · refine ⟨(gr4 b h).1, ?_⟩
            rcases (gr4 b h).2 with h | h
            · exact .inl (.inl h)
            · exact .inr (by omega)
          · exact ⟨by omega, .inl (.inr h)⟩
        have stB : Stp O Wb W4 := st3'.then st4 (fun b hb => (hgr b hb).2)
        have grB : Grw O O3 Wb W4 := fun b hb => ⟨(gr4 b hb).1, by
          rcases (gr4 b hb).2 with h | h
          · exact (hgr b h).2
          · right; omega⟩
        by_cases hend : many - (k : Int) - 1 = 0
        · have e2 : (many - (k : Int) - 1 == 0) = true := by simpa using hend
          have hl : k + 1 = ys.length := by omega
          have fin : ∃ O', Stp (fun b => O0 b ∨ b = Wb.heap.size) W2 W4 ∧ Grw (fun b => O0 b ∨ b = Wb.heap.size) O' W2 W4 ∧
              TrackBX (fun j W1 O1 => Jx j W1 O1 ∨ (j = ys.length ∧ J j W1 O1)) ys.length O Wb Wb.heap.size .ret (k + 1) W4 O' :=
            ⟨_, stA, grA, rfl, k + 1, O3, rfl, by omega, .inr ⟨hl, hj3⟩, n3, stB, grB⟩
          have FIN := Lib.hid fin; clear fin hend hl
          gi_wp2
          exact FIN.out
        · have e2 : (many - (k : Int) - 1 == 0) = false := by simpa using hend
          have e5 : many - (k : Int) - 1 = many - ((k + 1 : Nat) : Int) := by omega
          have fin : ∃ O', Stp (fun b => O0 b ∨ b = Wb.heap.size) W2 W4 ∧ Grw (fun b => O0 b ∨ b = Wb.heap.size) O' W2 W4 ∧
              (((k + 1 : Nat) : Int) < many ∧ TrackB J (fun k => k) O Wb Wb.heap.size (fun k => .cells #[.int .i64 (many - (k : Int))] 3) (k + 1) W4 O') :=
            ⟨_, stA, grA, by omega, O3, rfl, hj3, n3, by rw [e5] at ht4; exact ht4, stB, grB⟩
          have FIN := Lib.hid fin; clear fin hend e5
          gi_wp2
          exact FIN.out
      · have n3 : ¬ O3 Wb.heap.size := fun h => by rcases (gr4 _ h).2 with h | h; exact hn h; omega
        have sz4 := st4.size
        have stA : Stp (fun b => O0 b ∨ b = Wb.heap.size) W2 W4 := st3.then (st4.mono (fun b hb => .inl hb)) (fun b hb => .inl hb)
        have grA : Grw (fun b => O0 b ∨ b = Wb.heap.size) (fun b => O3 b ∨ b = Wb.heap.size) W2 W4 := fun b hb => by
          rcases hb with h | h
          · refine ⟨(gr4 b h).1, ?_⟩
            rcases (gr4 b h).2 with h | h
            · exact .inl (.inl h)
            · exact .inr (by omega)
          · exact ⟨by omega, .inl (.inr h)⟩
        have stB : Stp O Wb W4 := st3'.then st4 (fun b hb => (hgr b hb).2)
        have grB : Grw O O3 Wb W4 := fun b hb => ⟨(gr4 b hb).1, by
          rcases (gr4 b hb).2 with h | h
          · exact (hgr b h).2
          · right; omega⟩
        have fin : ∃ O', Stp (fun b => O0 b ∨ b = Wb.heap.size) W2 W4 ∧ Grw (fun b => O0 b ∨ b = Wb.heap.size) O' W2 W4 ∧
            TrackBX (fun j W1 O1 => Jx j W1 O1 ∨ (j = ys.length ∧ J j W1 O1)) ys.length O Wb Wb.heap.size .ret (k + 1) W4 O' :=
          ⟨_, stA, grA, rfl, k + 1, O3, rfl, by omega, .inl hj3, n3, stB, grB⟩
        have FIN := Lib.hid fin; clear fin
        gi_wp2
        exact FIN.out
    case done =>
      rintro D W' O' hD ⟨hkm, O0, rfl, hj, hn, htk, hst, hgr⟩ _ _ hK hnD
      have fin : IterPost J Jx ys.length O W (.returned (.tuple #[])) (W'.putObj D (.deferred none)) := by
        refine ⟨⟨_, rfl⟩, .inl ⟨O0, ?_, (st0.then hst (fun b hb => .inl hb)).putObj (.inr (by omega)) _, fun b hb => ⟨by simpa using (hgr b hb).1, ?_⟩⟩⟩
        · have e : ys = xs := by rw [HYS.out]; exact List.take_of_length_le (by omega)
          rw [e]
          exact hJ.putObj hj (fun h => hnD (.inl h)) (by omega) (.deferred none)
        · rcases (hgr b hb).2 with h | h
          · exact .inl h
          · right; omega
      have FIN := Lib.hid fin; clear fin
      go_wp2
      exact leave_normal _ hK (results_none rfl _ _) FIN.out
    case stop =>
      rintro D c k W' O' hD hk ⟨rfl, j, O0, rfl, hjm, hj, hn, hst, hgr⟩ _ _ hK hnD
      have fin : IterPost J Jx ys.length O W (.returned (.tuple #[])) (W'.putObj D (.deferred none)) := by
        have hS2 : Stp O W (W'.putObj D (.deferred none)) := (st0.then hst (fun b hb => .inl hb)).putObj (.inr (by omega)) _
        have hG2 : Grw O O0 W (W'.putObj D (.deferred none)) := fun b hb => ⟨by simpa using (hgr b hb).1, by
          rcases (hgr b hb).2 with h | h
          · exact .inl h
          · right; omega⟩
        rcases hj with hj | ⟨rfl, hj⟩
        · exact ⟨⟨_, rfl⟩, .inr ⟨j, O0, hjm, hJx.putObj hj (fun h => hnD (.inl h)) (by omega) _, hS2, hG2⟩⟩
        · exact ⟨⟨_, rfl⟩, .inl ⟨O0, hJ.putObj hj (fun h => hnD (.inl h)) (by omega) _, hS2, hG2⟩⟩
      have FIN := Lib.hid fin; clear fin
      go_wp2
      exact leave_ret _ hK (results_none rfl _ _) FIN.out

end Go.Proofs.Ytahkkodeppeknaa
