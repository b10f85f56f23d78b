/- coachhouseref05.Table: at, Put, Get, Drop. -/
import Derived.Test.YtamnmpcnhaeigaaTabSm
import Derived.Test.YtamnmpcnhaeigaaTabZR
namespace Go.Proofs.Ytamnmpcnhaeigaa.TabI
open Go.RowKit
set_option linter.unusedVariables false

/-- The document's table: its block r, its list v, in a row of its own. -/
structure RefAt (B : Nat) (w : World) (r : Nat) (v : Value) (R : List (Int × Int)) : Prop where
  tab : w.heap[r]? = some (.cells #[v] 55 (0, 0))
  own : w.ownsRow B 25 2 v R.length (flat R)
  low : B ≤ r
  apart : r ∉ rowsOf v
theorem rows_own {v : Value} {b : Nat} : v.ownBlock = some b ↔ b ∈ rowsOf v := by
  unfold Value.ownBlock rowsOf
  split <;> simp [eq_comm]
theorem own_some {w : World} {base : Nat} {v : Value} {L : List (Int × Int)} (h : w.ownsRow base 25 2 v L.length (flat L)) :
    (v = .slice none 0 0 ∧ L = []) ∨ ∃ q c, v = .slice (some ⟨q, 0, none⟩) L.length c ∧ L.length ≤ c ∧ base ≤ q ∧ q < w.heap.size ∧
      ∀ (j : Nat) (x : Int × Int), L[j]? = some x → w.cell? ⟨q, j * 2, none⟩ = some (.int .i64 x.1) ∧ w.cell? ⟨q, j * 2 + 1, none⟩ = some (.int .i64 x.2) := by
  rcases h.2 with ⟨rfl, h0⟩ | ⟨g, cap, cur, rfl, hb, hg, hn, hc, hsz, ht⟩
  · exact .inl ⟨rfl, List.eq_nil_of_length_eq_zero h0⟩
  · refine .inr ⟨g, cap, rfl, hn, hb, heap_lt hg, fun j x hx => ?_⟩
    have hl := (List.getElem?_eq_some_iff.1 hx).1
    obtain ⟨h1, h2⟩ := get_flat_l L j x hx
    rw [← ht, List.getElem?_take, if_pos (by omega)] at h1 h2
    exact ⟨cell_of hg (by rw [← Array.getElem?_toList]; exact h1), cell_of hg (by rw [← Array.getElem?_toList]; exact h2)⟩
theorem RefAt.fr {B : Nat} {w w' : World} {r : Nat} {v : Value} {R : List (Int × Int)} (h : RefAt B w r v R) (f : Fr [] w w') : RefAt B w' r v R :=
  ⟨f.at h.tab (by simp), owns_same h.own (fun b hb => f.block b (h.own.lt b hb).2 (by simp)), h.low, h.apart⟩
theorem RefAt.lo {B B' : Nat} {w w' : World} {r : Nat} {v : Value} {R : List (Int × Int)} (h : RefAt B w r v R) (f : Lo B' w w') (hr : r < B') (hv : ∀ b, v.ownBlock = some b → b < B') : RefAt B w' r v R := by
  obtain ⟨S, h1, h2⟩ := f
  exact ⟨h1.at h.tab (fun m => by have := h2 _ m; omega), owns_same h.own (fun b hb => h1.block b (h.own.lt b hb).2 (fun m => by have := h2 _ m; have := hv b hb; omega)), h.low, h.apart⟩

set_option maxHeartbeats 1000000 in
theorem at_any (B : Nat) (w : World) (r : Nat) (v : Value) (R : List (Int × Int)) (k : Int) (hn : R.length ≤ 1000) (h : RefAt B w r v R) :
    Calls Try.prog 43 #[.pointer (some ⟨r, 0, none⟩), .int .i64 k] w fun e w' => ∃ i, e = .returned (.int .i64 i) ∧ AtIs R k i ∧ w' = w := by
  have c1 : w.cell? ⟨r, 0, none⟩ = some v := cell_of (i := 0) h.tab rfl
  rcases own_some h.own with ⟨rfl, rfl⟩ | ⟨q, c, rfl, hc, hbq, hq, hcell⟩
  · clear h
    go_enter Try.func43, Try.ntmps43
    go_wp2
    go_loopw [5] (fun i wr => i = .int .i64 0 ∧ wr = w) (fun _ _ => 0)
    case atStart => exact ⟨rfl, rfl⟩
    case round =>
      obtain ⟨rfl, rfl⟩ := hrel
      go_wp2
      go_ret
      exact ⟨-1, rfl, Or.inl ⟨rfl, by simp⟩, rfl⟩
  · clear h
    have HC := Lib.hid hcell; clear hcell
    obtain ⟨n, hnn⟩ : ∃ n, R.length = n := ⟨_, rfl⟩
    have HN := Lib.hid hnn
    rw [hnn] at hn hc c1
    clear hnn
    go_enter Try.func43, Try.ntmps43
    go_wp2
    go_loopw [5] (fun i wr => ∃ j : Nat, j ≤ n ∧ i = .int .i64 j ∧ wr = w ∧ ∀ (m : Nat) (x : Int × Int), m < j → R[m]? = some x → x.1 ≠ k) (fun i _ => n - (intOf i).toNat)
    case atStart => exact ⟨0, Nat.zero_le _, rfl, rfl, fun m x hm => absurd hm (Nat.not_lt_zero _)⟩
    case round =>
      obtain ⟨j, hj, rfl, rfl, hno⟩ := hrel
      by_cases hlt : j < n
      · obtain ⟨⟨a, u⟩, hx⟩ : ∃ x, R[j]? = some x := ⟨_, List.getElem?_eq_getElem (by rw [HN.out]; exact hlt)⟩
        obtain ⟨d0, -⟩ := HC.out j _ hx
        dsimp only at d0
        have hlt' : (j : Int) < (n : Int) := by omega
        have hj0 : (0 : Int) ≤ (j : Int) := by omega
        have HX := Lib.hid hx; have HNO := Lib.hid hno
        clear hx hno
        by_cases he : a = k
        · subst he
          go_wp2
          go_ret
          exact ⟨_, rfl, .inr ⟨j, u, rfl, HX.out⟩, rfl⟩
        · have HE := Lib.hid he
          go_wp2
          go_roundw
          case rel => exact ⟨j + 1, by omega, by go_num, by first | rfl | trivial, fun m x hm hx => by
            rcases Nat.lt_or_ge m j with h1 | h1
            · exact HNO.out m x h1 hx
            · have e : m = j := by omega
              rw [e, HX.out] at hx
              rw [← Option.some.inj hx]; exact HE.out⟩
          case measure => simp [intOf]; omega
      · obtain rfl : j = n := by omega
        have FIN := Lib.hid (show AtIs R k (-1) from Or.inl ⟨rfl, fun x hx => by
          obtain ⟨m, hm⟩ := List.mem_iff_getElem?.1 hx
          exact hno m x (by have := (List.getElem?_eq_some_iff.1 hm).1; have := HN.out; omega) hm⟩)
        clear hno
        go_wp2
        go_ret
        exact ⟨_, rfl, FIN.out, rfl⟩

set_option maxHeartbeats 1000000 in
theorem rget_any (B : Nat) (w : World) (r : Nat) (v : Value) (R : List (Int × Int)) (k : Int) (hn : R.length ≤ 1000) (h : RefAt B w r v R) :
    Calls Try.prog 25 #[.pointer (some ⟨r, 0, none⟩), .int .i64 k] w fun e w' => ∃ x b, e = .returned (.tuple #[.int .i64 x, .bool b]) ∧ GetIs R k x b ∧ w' = w := by
  have HAT := Lib.hid (at_any B w r v R k hn h)
  have c1 : w.cell? ⟨r, 0, none⟩ = some v := cell_of (i := 0) h.tab rfl
  have HO := Lib.hid (own_some h.own)
  clear h
  go_enter Try.func25, Try.ntmps25
  go_wp2_with fail
  refine HAT.out.mono ?_
  rintro e w1 ⟨i, rfl, hi, rfl⟩
  rcases hi with ⟨rfl, hno⟩ | ⟨j, u, rfl, hj⟩
  · have HNO := Lib.hid hno
    clear hno
    go_wp2
    go_ret2
    exact ⟨_, _, rfl, .inl ⟨rfl, rfl, HNO.out⟩, rfl⟩
  · rcases HO.out with ⟨rfl, rfl⟩ | ⟨q, c, rfl, hc, hbq, hq, hcell⟩
    · simp at hj
    · obtain ⟨-, d1⟩ := hcell j _ hj
      dsimp only at d1
      have hjl := (List.getElem?_eq_some_iff.1 hj).1
      have HJ := Lib.hid hj
      have hj0 : ¬ ((j : Int) < 0) := by omega
      have hj1 : (0 : Int) ≤ (j : Int) := by omega
      obtain ⟨n, hnn⟩ : ∃ n, R.length = n := ⟨_, rfl⟩
      rw [hnn] at hc c1 hjl
      clear hcell hj HO HAT hnn
      go_wp2
      go_ret2
      exact ⟨_, _, rfl, .inr ⟨rfl, j, HJ.out⟩, rfl⟩

theorem flat_set {x y u : Int} : ∀ {R : List (Int × Int)} {j : Nat}, R[j]? = some (x, u) → flat (R.set j (x, y)) = (flat R).set (j * 2 + 1) (.int .i64 y)
  | (a, b) :: R, 0, h => by
    simp at h
    obtain ⟨rfl, rfl⟩ := h
    rfl
  | z :: R, j + 1, h => by
    have ih := flat_set (R := R) (j := j) (y := y) (by simpa using h)
    rw [List.set_cons_succ, flat_cons, flat_cons, ih, show (j + 1) * 2 + 1 = (j * 2 + 1) + 1 + 1 by omega]
    rfl
theorem own_set {w : World} {base q n c : Nat} {R : List (Int × Int)} (h : w.ownsRow base 25 2 (.slice (some ⟨q, 0, none⟩) n c) n (flat R)) {j : Nat} {x u : Int} (hj : R[j]? = some (x, u)) (y : Int) :
    (w.setCell ⟨q, j * 2 + 1, none⟩ (.int .i64 y)).ownsRow base 25 2 (.slice (some ⟨q, 0, none⟩) n c) n (flat (R.set j (x, y))) := by
  have hl := h.1
  rcases h.2 with ⟨h0, _⟩ | ⟨g, cap, cur, h0, hb, hg, hn, hc, hsz, ht⟩
  · cases h0
  · cases h0
    refine ⟨by rw [flat_length, List.length_set, ← flat_length]; exact hl, .inr ⟨q, c, _, rfl, hb, heap_setCell_same hg _, hn, hc, by simpa using hsz, ?_⟩⟩
    rw [flat_set hj, ← ht]
    simp [List.take_set]

set_option maxHeartbeats 1000000 in
set_option maxRecDepth 100000 in
theorem rput_any (B : Nat) (w : World) (r : Nat) (v : Value) (R : List (Int × Int)) (k x : Int) (hn : R.length ≤ 1000) (hB : B ≤ w.heap.size) (h : RefAt B w r v R) :
    Calls Try.prog 24 #[.pointer (some ⟨r, 0, none⟩), .int .i64 k, .int .i64 x] w fun e w' => ∃ b v' R', e = .returned (.bool b) ∧ PutIs R k x R' b ∧ RefAt B w' r v' R' ∧ Turned w w' r v v' := by
  have HAT := Lib.hid (at_any B w r v R k hn h)
  have c1 : w.cell? ⟨r, 0, none⟩ = some v := cell_of (i := 0) h.tab rfl
  have z1 : w.frozen? ⟨r, 0, none⟩ = false := frozen_of h.tab
  have HO := Lib.hid (own_some h.own)
  have H := Lib.hid h
  obtain ⟨i0, hi0, hz0, hz1, hz2⟩ := info_parts pair_info
  clear h
  go_enter Try.func24, Try.ntmps24
  go_wp2_with fail
  refine HAT.out.mono ?_
  rintro e w1 ⟨i, rfl, hi, rfl⟩
  rcases hi with ⟨rfl, hno⟩ | ⟨j, u, rfl, hj⟩
  · have HNO := Lib.hid hno
    obtain ⟨n, hnn⟩ : ∃ n, R.length = n := ⟨_, rfl⟩
    have hown := H.out.own
    rw [hnn] at hown
    have HOW := Lib.hid hown
    have HN := Lib.hid hnn
    rw [hnn] at hn
    clear hno HAT hown hnn
    go_wp2_with (first
      | (at_builtin; refine wpList_append_own_at _ rfl _ _ 22 rfl B 25 i0 (.agg #[.int .i64 0, .int .i64 0]) 2 16 Try.underlying22 hi0 hz0 hz1 hz2 rfl (by decide) _ n _ rfl (HOW.out.alloc _) ⟨w1.heap.size, 0, none⟩ 1 1 [.int .i64 k, .int .i64 x] rfl rfl (World.news_of_block (heap_alloc_new w1 _)) (by intro u hu; simp at hu; rcases hu with rfl | rfl <;> rfl) (by unfold maxLen; omega) (by omega) (by rw [World.size_alloc]; omega) ?_)
      | fail)
    intro v' w2 hown2 hgrow2 _ hat
    have hrl := heap_lt H.out.tab
    have hra : some r ≠ v.ownBlock := fun e => H.out.apart (rows_own.1 e.symm)
    have ht2 : w2.heap[r]? = some (.cells #[v] 55 (0, 0)) := (hgrow2.block r (by rw [World.size_alloc]; omega) hra).trans (heap_alloc_keep H.out.tab _)
    have d1 : w2.cell? ⟨r, 0, none⟩ = some v := cell_of (i := 0) ht2 rfl
    have y1 : w2.frozen? ⟨r, 0, none⟩ = false := frozen_of ht2
    have hr' : r ∉ rowsOf v' := fun hm => by
      have hm' := rows_own.2 hm
      rcases hat with e | e
      · exact hra (by rw [← e]; exact hm'.symm)
      · rw [e] at hm'; have := Option.some.inj hm'; omega
    have fr2 : Fr (r :: rowsOf v) w1 w2 := ((Fr.refl _ w1).alloc _).grown hgrow2 (fun b hb => .inl (List.mem_cons_of_mem _ (rows_own.1 hb)))
    obtain ⟨g, cap, hv'⟩ : ∃ g cap, v' = .slice (some ⟨g, 0, none⟩) (n + 1) cap := by
      rcases hown2.2 with ⟨_, h0⟩ | ⟨g, cap, cur, e, _⟩
      · omega
      · exact ⟨g, cap, e⟩
    subst hv'
    have hown3 : (w2.setCell ⟨r, 0, none⟩ (.slice (some ⟨g, 0, none⟩) (n + 1) cap)).ownsRow B 25 2 (.slice (some ⟨g, 0, none⟩) (n + 1) cap) (R ++ [(k, x)]).length (flat (R ++ [(k, x)])) := by
      refine owns_same (W := w2) ?_ (fun b hb => Below.heap_setCell _ _ _ _ (fun e => hr' (by have e' : b = r := e; subst e'; exact rows_own.1 hb)))
      rw [flat_append, List.length_append, HN.out]; exact hown2
    have ht3 : (w2.setCell ⟨r, 0, none⟩ (.slice (some ⟨g, 0, none⟩) (n + 1) cap)).heap[r]? = some (.cells #[.slice (some ⟨g, 0, none⟩) (n + 1) cap] 55 (0, 0)) := by
      have := heap_setCell_same (i := 0) ht2 (.slice (some ⟨g, 0, none⟩) (n + 1) cap)
      simpa using this
    have FIN := Lib.hid (show RefAt B (w2.setCell ⟨r, 0, none⟩ (.slice (some ⟨g, 0, none⟩) (n + 1) cap)) r (.slice (some ⟨g, 0, none⟩) (n + 1) cap) (R ++ [(k, x)]) ∧ Turned w1 (w2.setCell ⟨r, 0, none⟩ (.slice (some ⟨g, 0, none⟩) (n + 1) cap)) r v (.slice (some ⟨g, 0, none⟩) (n + 1) cap) from
      ⟨⟨ht3, hown3, H.out.low, hr'⟩, fr2.setCell (.inl (by simp)) _, fun b hb => by
        have hb' := rows_own.2 hb
        rcases hat with e | e
        · exact .inl (rows_own.1 (by rw [← e]; exact hb'))
        · right; rw [e] at hb'; have := Option.some.inj hb'; omega⟩)
    clear hown2 hgrow2 hat ht2 hown3 ht3 hr' fr2
    go_wp2
    go_ret
    exact ⟨_, _, _, rfl, .inl ⟨rfl, HNO.out, rfl⟩, FIN.out.1, FIN.out.2⟩
  · rcases HO.out with ⟨rfl, rfl⟩ | ⟨q, c, rfl, hc, hbq, hq, hcell⟩
    · simp at hj
    · obtain ⟨d0, d1⟩ := hcell j _ hj
      dsimp only at d1
      have hjl := (List.getElem?_eq_some_iff.1 hj).1
      have hqr : r ≠ q := fun e => H.out.apart (by rw [e]; simp [rowsOf])
      have yq : w1.frozen? ⟨q, j * 2 + 1, none⟩ = false := by
        rcases H.out.own.2 with ⟨h0, _⟩ | ⟨g, cap, cur, h0, _, hg, _⟩
        · cases h0
        · cases h0; exact frozen_of hg
      have FIN := Lib.hid (show RefAt B (w1.setCell ⟨q, j * 2 + 1, none⟩ (.int .i64 x)) r (.slice (some ⟨q, 0, none⟩) R.length c) (R.set j (k, x)) ∧ Turned w1 (w1.setCell ⟨q, j * 2 + 1, none⟩ (.int .i64 x)) r (.slice (some ⟨q, 0, none⟩) R.length c) (.slice (some ⟨q, 0, none⟩) R.length c) from
        ⟨⟨heap_setCell_ne H.out.tab hqr _, by rw [List.length_set]; exact own_set H.out.own hj x, H.out.low, H.out.apart⟩, (Fr.refl _ w1).setCell (.inl (by simp [rowsOf])) _, fun b hb => .inl hb⟩)
      have HJ := Lib.hid hj
      have hj0 : ¬ ((j : Int) < 0) := by omega
      have hj1 : (0 : Int) ≤ (j : Int) := by omega
      obtain ⟨n, hnn⟩ : ∃ n, R.length = n := ⟨_, rfl⟩
      rw [hnn] at hc c1 hjl FIN
      clear hcell hj HO HAT hnn H hbq hq
      go_wp2
      go_ret
      exact ⟨_, _, _, rfl, .inr ⟨rfl, j, u, HJ.out, rfl⟩, FIN.out.1, FIN.out.2⟩

theorem not_own_of_some {w : World} {B r : Nat} {v' : Value} {m : Nat} {xs : List Value} (h : w.ownsRow B 25 2 v' m xs) (hr : r < B) : v'.ownBlock ≠ some r := fun e => by have := (h.lt r e).1; omega

set_option maxHeartbeats 2000000 in
set_option maxRecDepth 100000 in
theorem rdrop_any (B : Nat) (w : World) (r : Nat) (v : Value) (R : List (Int × Int)) (k : Int) (hn : R.length ≤ 1000) (hB : B ≤ w.heap.size) (h : RefAt B w r v R) :
    Calls Try.prog 26 #[.pointer (some ⟨r, 0, none⟩), .int .i64 k] w fun e w' => ∃ b v' R', e = .returned (.bool b) ∧ DropIs R k R' b ∧ RefAt B w' r v' R' ∧ Turned w w' r v v' := by
  have HAT := Lib.hid (at_any B w r v R k hn h)
  have c1 : w.cell? ⟨r, 0, none⟩ = some v := cell_of (i := 0) h.tab rfl
  have HO := Lib.hid (own_some h.own)
  have H := Lib.hid h
  obtain ⟨i0, hi0, hz0, hz1, hz2⟩ := info_parts pair_info
  clear h
  go_enter Try.func26, Try.ntmps26
  go_wp2_with fail
  refine HAT.out.mono ?_
  rintro e w1 ⟨i, rfl, hi, rfl⟩
  rcases hi with ⟨rfl, hno⟩ | ⟨j, u, rfl, hj⟩
  · have FIN := Lib.hid (show RefAt B w1 r v R ∧ Turned w1 w1 r v v from ⟨H.out, Fr.refl _ _, fun b hb => .inl hb⟩)
    have HNO := Lib.hid hno
    clear hno HAT HO H
    go_wp2
    go_ret
    exact ⟨_, _, _, rfl, .inl ⟨rfl, HNO.out, rfl⟩, FIN.out.1, FIN.out.2⟩
  · rcases HO.out with ⟨rfl, rfl⟩ | ⟨q, c, rfl, hc, hbq, hq, hcell⟩
    · simp at hj
    · have hjl := (List.getElem?_eq_some_iff.1 hj).1
      have HJ := Lib.hid hj
      have HC := Lib.hid hcell
      have hj0 : ¬ ((j : Int) < 0) := by omega
      have hrl := heap_lt H.out.tab
      obtain ⟨n, hnn⟩ : ∃ n, R.length = n := ⟨_, rfl⟩
      have HN := Lib.hid hnn
      have HT := Lib.hid H.out.tab
      have HAP := Lib.hid H.out.apart
      rw [hnn] at hc c1 hjl hn HT HAP
      clear hcell hj HO HAT hnn hbq
      go_wp2
      go_loopw [6, 7] (fun s6 s7 wr => ∃ m : Nat, m ≤ n ∧ s7 = .int .i64 m ∧ wr.ownsRow w1.heap.size 25 2 s6 ((R.take m).eraseIdx j).length (flat ((R.take m).eraseIdx j)) ∧ Fr [] w1 wr) (fun _ s7 _ => n - (intOf s7).toNat)
      case atStart => exact ⟨0, Nat.zero_le _, rfl, World.ownsRow_nil _ _ _ _, Fr.refl _ _⟩
      case round =>
        obtain ⟨m, hm, rfl, hown, fr⟩ := hrel
        have e1 := fr.cell c1 (by simp)
        by_cases hlt : m < n
        · obtain ⟨⟨a, y⟩, hx⟩ : ∃ x, R[m]? = some x := ⟨_, List.getElem?_eq_getElem (by rw [HN.out]; exact hlt)⟩
          have hcc := HC.out m _ hx
          have d0 := fr.cell hcc.1 (by simp)
          have d1 := fr.cell hcc.2 (by simp)
          dsimp only at d0 d1
          have hlt' : (m : Int) < (n : Int) := by omega
          have hm0 : (0 : Int) ≤ (m : Int) := by omega
          have hte := take_erase (i := j) hx
          have hlen : ((R.take m).eraseIdx j).length ≤ 1000 := Nat.le_trans (List.length_eraseIdx_le _ _) (by rw [List.length_take]; omega)
          obtain ⟨T, hT⟩ : ∃ T, (R.take m).eraseIdx j = T := ⟨_, rfl⟩
          rw [hT] at hown hte hlen
          have HTE := Lib.hid hte
          have HOW := Lib.hid hown
          have FR := Lib.hid fr
          have hsz := fr.size
          clear hx hcc hte hT hown fr
          obtain ⟨w3, rfl⟩ : ∃ x, x = wr := ⟨_, rfl⟩
          by_cases he : m = j
          · subst he
            rw [if_pos rfl, List.append_nil] at HTE
            have hnx : ¬ ((m : Int) ≠ (m : Int)) := fun h => h rfl
            go_wp2
            go_roundw
            case rel => exact ⟨m + 1, by omega, by go_num, by rw [HTE.out]; exact HOW.out, FR.out⟩
            case measure => simp [intOf]; omega
          · rw [if_neg he] at HTE
            have hnx : ¬ ((m : Int) = (j : Int)) := by omega
            obtain ⟨tl, htl⟩ : ∃ tl, T.length = tl := ⟨_, rfl⟩
            rw [htl] at HOW hlen
            have HTL := Lib.hid htl
            clear htl
            go_wp2_with (first
              | (at_builtin; refine wpList_append_own _ rfl _ _ 22 rfl w1.heap.size 25 i0 (.agg #[.int .i64 0, .int .i64 0]) 2 16 Try.underlying22 hi0 hz0 hz1 hz2 rfl (by decide) _ tl _ rfl (HOW.out.alloc _) ⟨w3.heap.size, 0, none⟩ 1 1 [.int .i64 a, .int .i64 y] rfl rfl (World.news_of_block (heap_alloc_new w3 _)) (by intro u hu; simp at hu; rcases hu with rfl | rfl <;> rfl) (by unfold maxLen; omega) (by omega) (by rw [World.size_alloc]; omega) ?_)
              | fail)
            intro v7 w4 hown4 hgrow4 _
            have F4 := Lib.hid (show Fr [] w1 w4 from (FR.out.alloc _).grown hgrow4 (fun b hb => .inr ((HOW.out.lt b hb).1)))
            have HO4 := Lib.hid (show w4.ownsRow w1.heap.size 25 2 v7 (T ++ [(a, y)]).length (flat (T ++ [(a, y)])) from by rw [flat_append, List.length_append, HTL.out]; exact hown4)
            clear hown4 hgrow4
            go_wp2
            go_roundw
            case rel => exact ⟨m + 1, by omega, by go_num, by rw [HTE.out]; exact HO4.out, F4.out⟩
            case measure => simp [intOf]; omega
        · obtain rfl : m = n := by omega
          have hT : R.take m = R := List.take_of_length_le (by rw [HN.out]; exact Nat.le_refl _)
          rw [hT] at hown
          obtain ⟨w3, rfl⟩ : ∃ x, x = wr := ⟨_, rfl⟩
          have ht3 := fr.at HT.out (by simp)
          have y1 : w3.frozen? ⟨r, 0, none⟩ = false := frozen_of ht3
          have hnr := not_own_of_some hown hrl
          have o1 : u6.oneCell' = true := by
            rcases hown.2 with ⟨rfl, _⟩ | ⟨g, cap, cur, rfl, _⟩ <;> rfl
          have ht4 : (w3.setCell ⟨r, 0, none⟩ u6).heap[r]? = some (.cells #[u6] 55 (0, 0)) := by
            have := heap_setCell_same (i := 0) ht3 u6
            simpa using this
          have hr' : r ∉ rowsOf u6 := fun hm => hnr (rows_own.2 hm)
          have hown4 := owns_same (W' := w3.setCell ⟨r, 0, none⟩ u6) hown (fun b hb => Below.heap_setCell _ _ _ _ (fun e => hr' (by have e' : b = r := e; subst e'; exact rows_own.1 hb)))
          have hlow : ∀ b, u6.ownBlock = some b → w1.heap.size ≤ b := fun b hb => (hown.lt b hb).1
          have FIN := Lib.hid (show RefAt B (w3.setCell ⟨r, 0, none⟩ u6) r u6 (R.eraseIdx j) ∧ Turned w1 (w3.setCell ⟨r, 0, none⟩ u6) r (.slice (some ⟨q, 0, none⟩) R.length c) u6 from
            ⟨⟨ht4, ⟨hown4.1, by
              rcases hown4.2 with h | ⟨g, cap, cur, h3, h4, rest⟩
              · exact .inl h
              · exact .inr ⟨g, cap, cur, h3, by omega, rest⟩⟩, H.out.low, hr'⟩, (fr.mono (by simp)).setCell (.inl (by simp)) _, fun b hb => .inr (hlow b (rows_own.2 hb))⟩)
          have hsh : u6 = .slice none 0 0 ∨ ∃ g n cap, u6 = .slice (some ⟨g, 0, none⟩) n cap := by
            rcases hown.2 with ⟨e, _⟩ | ⟨g, cap, cur, e, _⟩
            · exact .inl e
            · exact .inr ⟨_, _, _, e⟩
          clear hown hT ht3 hnr ht4 hr' hown4 hlow fr o1
          rcases hsh with rfl | ⟨g, n', cap, rfl⟩
          · go_wp2
            go_ret
            exact ⟨_, _, _, rfl, .inr ⟨rfl, j, u, HJ.out, rfl⟩, FIN.out.1, FIN.out.2⟩
          · go_wp2
            go_ret
            exact ⟨_, _, _, rfl, .inr ⟨rfl, j, u, HJ.out, rfl⟩, FIN.out.1, FIN.out.2⟩

end Go.Proofs.Ytamnmpcnhaeigaa.TabI
