/- The walk of 'CellsAlone'. -/
import Derived.Test.YtiemmoklhohdnaaWalkLast
namespace Go.Proofs.Ytiemmoklhohdnaa
open Go.RowKit

theorem get_set_other {L : List Int} {j : Int} {k : Nat} (hj : 0 ≤ j) (h : (k : Int) ≠ j) (x : Int) : (L.set j.toNat x)[k]? = L[k]? := by
  have : j.toNat ≠ k := by omega
  simp [this]
theorem get_next {L : List Int} (o : OpV) {k : Nat} (h : (k : Int) ≠ o.i) : (opNext o L)[k]? = L[k]? := by
  unfold opNext
  split
  · unfold storeL
    split
    · exact get_set_other (isIn_nonneg ‹_›) h _
    · rfl
  · split
    · unfold casL
      split
      · rename_i hc
        have : isIn L o.i = true := by unfold casB at hc; simp at hc; exact hc.1
        exact get_set_other (isIn_nonneg this) h _
      · rfl
    · split
      · unfold addL
        split
        · exact get_set_other (isIn_nonneg ‹_›) h _
        · rfl
      · rfl
theorem next_load {L : List Int} (o : OpV) (h : o.k = 0) : opNext o L = L := by
  unfold opNext; simp [h]
theorem owns_cell {w : World} {base e n c g : Nat} {L : List Int} (h : w.ownsRow base e 1 (.slice (some ⟨g, 0, none⟩) n c) n (L.map (Value.int .i64))) {k : Nat} {x : Int} (hx : L[k]? = some x) : w.cell? ⟨g, k, none⟩ = some (.int .i64 x) := by
  obtain ⟨b, o, hg, hc⟩ := (IntsAt.of_owns h).2 k x hx
  simp only [Option.some.injEq, Addr.mk.injEq, and_true] at hg
  obtain ⟨rfl, rfl⟩ := hg
  simpa using hc

set_option maxHeartbeats 2000000 in
theorem alone_walk (w : World) (many : Int) (g : Option Addr) (c : Nat) (l : List OpV) (o : OpV) (h0 : 0 ≤ many) (h1 : many ≤ 255) (hA : OpsAt w.heap.size w g l) (hl : l.length ≤ 9223372036854775807) (ho : 0 ≤ o.k) :
    Calls Try.prog 6 #[.int .u8 many, .slice g l.length c, o.val] w fun e w' => e = .returned (.bool true) ∧ Fr [] w w' := by
  have A := Lib.hid hA; clear hA
  obtain ⟨ok, oi, ov, ou⟩ := o
  unfold OpV.val
  simp only at ho ⊢
  have cb := fun (j : Nat) => World.cell?_alloc_at (w := w) #[.int .u8 ok, .int .i64 oi, .int .i64 ov, .int .i64 ou] 37 w.heap.size j rfl
  have b0 := cb 0; have b1 := cb 1; have b2 := cb 2; have b3 := cb 3
  simp only [List.getElem?_toArray, List.getElem?_cons_zero, List.getElem?_cons_succ] at b0 b1 b2 b3
  clear cb
  have f0 := (Fr.refl [] w).alloc (.cells #[.int .u8 ok, .int .i64 oi, .int .i64 ov, .int .i64 ou] 37)
  go_enter Try.func6, Try.ntmps6
  go_wp2_with fail
  refine (awake_any _).mono ?_
  rintro e w1 ⟨rfl, f1'⟩
  have c0 := f1'.cell b0 (by simp); have c1 := f1'.cell b1 (by simp); have c2 := f1'.cell b2 (by simp); have c3 := f1'.cell b3 (by simp)
  have f1 := f0.trans f1'
  have hb1 : w.heap.size < w1.heap.size := by have := f1'.size; simp at this; omega
  clear b0 b1 b2 b3 f0 f1'
  by_cases hl60 : l.length ≤ 60
  · have hg : decide ((60 : Int) < (l.length : Int)) = false := by simp; omega
    go_wp2_with fail
    refine (some_any w1 many g c l h0 h1 hl60 (fun j o hj => ?_)).mono ?_
    · obtain ⟨x0, x1, b', f', hgg, hb', hc⟩ := (A.out.fr f1 (Nat.le_refl _) (by simp)) j o hj
      exact ⟨x0, x1, b', f', hgg, Nat.lt_of_lt_of_le hb' f1.size, hc⟩
    rintro e w2 ⟨p, q, rfl, hp, hq, hm, f2⟩
    have hL := length_runs l (List.replicate (1 + many % 100).toNat 0, 0)
    have ht := touched_runs l (List.replicate (1 + many % 100).toNat 0, 0)
    generalize runs l (List.replicate (1 + many % 100).toNat 0, 0) = s at hm hL ht
    obtain ⟨L, t⟩ := s
    simp only [List.length_replicate] at hL hm ht
    have hL100 : L.length ≤ 100 := by omega
    have ht0 : 0 ≤ t := ht.1
    have ht1 : t ≤ 60 := by omega
    have HLn := Lib.hid hL; clear hL ht
    have F2 := f1.trans f2
    have hp0 : w.heap.size ≤ p := Nat.le_trans f1.size hp
    have hq0 : w.heap.size ≤ q := Nat.le_trans f1.size hq
    replace c0 := f2.cell c0 (by simp); replace c1 := f2.cell c1 (by simp); replace c2 := f2.cell c2 (by simp); replace c3 := f2.cell c3 (by simp)
    go_wp2_with fail
    refine (words_any w2 p q L t hm (by omega)).mono ?_
    rintro e w3 ⟨g1, k1, rfl, own1, f3⟩
    have hm3 := hm.fr f3 (by simp) (by simp)
    have F3 := F2.trans f3
    have hg1 := own1.lt g1 rfl
    have hpq := hm.plt; have hqq := hm.qlt
    replace c0 := f3.cell c0 (by simp); replace c1 := f3.cell c1 (by simp); replace c2 := f3.cell c2 (by simp); replace c3 := f3.cell c3 (by simp)
    go_wp2_with fail
    refine (touched_any w3 p q L t hm3).mono ?_
    rintro e w' ⟨rfl, rfl⟩
    go_wp2_with fail
    refine (do_any w3 p q L t ⟨ok, oi, ov, ou⟩ hm3 ht0 (by omega) ho).mono ?_
    rintro e w4 ⟨rfl, hm4, f4⟩
    have F4 := F3.then2 f4 hp0 hq0
    have hbne : w.heap.size ∉ [p, q] := by simp; omega
    have hg1ne : g1 ∉ [p, q] := by simp; omega
    replace c0 := f4.cell c0 hbne; replace c1 := f4.cell c1 hbne
    clear c2 c3
    have hln := length_opNext ⟨ok, oi, ov, ou⟩ L
    have hu := opTch_0 ⟨ok, oi, ov, ou⟩ L
    have hsame : ∀ k : Nat, (k : Int) ≠ oi → (opNext ⟨ok, oi, ov, ou⟩ L)[k]? = L[k]? := fun k hk => get_next ⟨ok, oi, ov, ou⟩ hk
    have hload : ok = 0 → opNext ⟨ok, oi, ov, ou⟩ L = L := fun h => next_load ⟨ok, oi, ov, ou⟩ h
    generalize opTch ⟨ok, oi, ov, ou⟩ L = u at hm4 hu
    generalize opNext ⟨ok, oi, ov, ou⟩ L = L4 at hm4 hln hsame hload
    obtain ⟨n, hn⟩ : ∃ n, n = L.length := ⟨_, rfl⟩
    rw [← hn] at hln hL100
    have HLN := Lib.hid hln; have HN := Lib.hid hn; have HS := Lib.hid hsame; have HLD := Lib.hid hload
    clear hln hsame hload
    go_wp2_with fail
    refine (words_any w4 p q L4 (t + u) hm4 (by rw [HLN.out]; omega)).mono ?_
    rintro e w5 ⟨g2, k2, rfl, own2, f5⟩
    have hm5 := hm4.fr f5 (by simp) (by simp)
    have F5 := F4.trans f5
    replace c0 := f5.cell c0 (by simp); replace c1 := f5.cell c1 (by simp)
    have hx1 : ∀ (k : Nat) x, L[k]? = some x → w5.cell? ⟨g1, k, none⟩ = some (.int .i64 x) := fun k x hx => f5.cell (f4.cell (owns_cell own1 hx) hg1ne) (by simp)
    have hx2 : ∀ (k : Nat) x, L4[k]? = some x → w5.cell? ⟨g2, k, none⟩ = some (.int .i64 x) := fun k x hx => owns_cell own2 hx
    have X1 := Lib.hid hx1; have X2 := Lib.hid hx2; clear hx1 hx2
    rw [HLN.out]
    rw [← hn]
    clear hn own1 own2
    go_wp2_with fail
    refine (touched_any w5 p q L4 _ hm5).mono ?_
    rintro e w' ⟨rfl, rfl⟩
    go_wp2_with fail
    refine (touched_any w5 p q L4 _ hm5).mono ?_
    rintro e w' ⟨rfl, rfl⟩
    go_wp2_with fail
    go_loopw [12] (fun j wr => ∃ (k d : Nat), k ≤ n ∧ j = .int .i64 k ∧ wr = w5.drewN d) (fun j _ => n - (intOf j).toNat)
    case atStart => exact ⟨0, 0, Nat.zero_le _, rfl, rfl⟩
    case round =>
      obtain ⟨k, d, hk, rfl, rfl⟩ := hrel
      have FD := F5.drewN d
      by_cases hlt : k < n
      · obtain ⟨x, hx⟩ : ∃ x, L[k]? = some x := ⟨_, List.getElem?_eq_getElem (by have := HN.out; omega)⟩
        obtain ⟨y, hy⟩ : ∃ y, L4[k]? = some y := ⟨_, List.getElem?_eq_getElem (by have := HLN.out; omega)⟩
        have d1 := X1.out k x hx
        have d2 := X2.out k y hy
        have hxy1 : (k : Int) ≠ oi → x = y := fun h => by have := HS.out k h; rw [hx, hy] at this; simpa using this.symm
        have hxy2 : ok = 0 → x = y := fun h => by have := HLD.out h; rw [this, hx] at hy; simpa using hy
        have hlt' : (k : Int) < (n : Int) := by omega
        have hk0 : (0 : Int) ≤ (k : Int) := by omega
        clear hx hy
        by_cases ho : (k : Int) = oi
        · have t1 : ((k : Int) != oi) = false := by simpa using ho
          have HO := Lib.hid ho; clear ho hxy1
          by_cases hz : ok = 0
          · have t2 : (ok == 0) = true := by simpa using hz
            have hxy := hxy2 hz
            clear hxy2
            subst hxy
            have HZ := Lib.hid hz; clear hz
            go_wp2
            go_quiet (fail)
            go_wp2
            go_roundw
            case rel => exact ⟨k + 1, _, by omega, by go_num, rfl⟩
            case measure => simp [intOf]; omega
          · have t2 : (ok == 0) = false := by simpa using hz
            clear hz hxy2
            go_wp2
            go_quiet (fail)
            go_wp2
            go_roundw
            case rel => exact ⟨k + 1, _, by omega, by go_num, rfl⟩
            case measure => simp [intOf]; omega
        · have t1 : ((k : Int) != oi) = true := by simpa using ho
          have hxy := hxy1 ho
          clear hxy1 hxy2 ho
          subst hxy
          by_cases hz : ok = 0
          · have t2 : (ok == 0) = true := by simpa using hz
            have HZ := Lib.hid hz; clear hz
            go_wp2
            go_quiet (fail)
            go_wp2
            go_roundw
            case rel => exact ⟨k + 1, _, by omega, by go_num, rfl⟩
            case measure => simp [intOf]; omega
          · have t2 : (ok == 0) = false := by simpa using hz
            clear hz
            go_wp2
            go_quiet (fail)
            go_wp2
            go_roundw
            case rel => exact ⟨k + 1, _, by omega, by go_num, rfl⟩
            case measure => simp [intOf]; omega
      · have hge : ¬ (k : Int) < (n : Int) := by omega
        go_wp2
        go_ret
        exact ⟨rfl, FD⟩
  · have hg : decide ((60 : Int) < (l.length : Int)) = true := by simp; omega
    go_wp2
    go_ret
    exact ⟨rfl, f1⟩

end Go.Proofs.Ytiemmoklhohdnaa
