/- The walk of 'CellsTouch'. -/
import Derived.Test.YtiemmoklhohdnaaWalkOne
namespace Go.Proofs.Ytiemmoklhohdnaa
open Go.RowKit

theorem opTch_yes {o : OpV} {L : List Int} (h0 : 0 ≤ o.i) (h1 : o.i < L.length) (hk : o.k < 4) : opTch o L = 1 := by
  unfold opTch tch; rw [if_pos hk, isIn_yes h0 h1, if_pos rfl]
theorem opTch_low {o : OpV} {L : List Int} (h : o.i < 0) : opTch o L = 0 := by
  unfold opTch tch; rw [isIn_low h]; simp
theorem opTch_high {o : OpV} {L : List Int} (h : (L.length : Int) ≤ o.i) : opTch o L = 0 := by
  unfold opTch tch; rw [isIn_high h]; simp
theorem opTch_kind {o : OpV} {L : List Int} (h : ¬ o.k < 4) : opTch o L = 0 := by
  unfold opTch; rw [if_neg h]

/-- Between two rounds: the number counted is how often a cell was touched. -/
def TouchInv (w : World) (p q : Nat) (n : Nat) (s : Value) (k : Nat) (wr : World) : Prop :=
  ∃ (L : List Int) (T : Int), s = .int .i64 T ∧ 0 ≤ T ∧ T ≤ k ∧ L.length = n ∧ MemAt 53 wr p q L T ∧ Fr [] w wr

set_option maxHeartbeats 2000000 in
theorem touch_walk (w : World) (many : Int) (g : Option Addr) (c : Nat) (l : List OpV) (h0 : 0 ≤ many) (h1 : many ≤ 255) (hA : OpsAt w.heap.size w g l) (hl : l.length ≤ 9223372036854775807) :
    Calls Try.prog 7 #[.int .u8 many, .slice g l.length c] w fun e w' => e = .returned (.bool true) ∧ Fr [] w w' := by
  have A := Lib.hid hA; clear hA
  obtain ⟨len, hlen⟩ : ∃ n, n = l.length := ⟨_, rfl⟩
  rw [← hlen] at hl ⊢
  have HL := Lib.hid hlen; clear hlen
  go_enter Try.func7, Try.ntmps7
  go_wp2_with fail
  refine (awake_any w).mono ?_
  rintro e w1 ⟨rfl, f1⟩
  go_wp2_with fail
  refine (some_any w1 many none 0 [] h0 h1 (by simp) (fun j o hj => by simp at hj)).mono ?_
  rintro e w2 ⟨p, q, rfl, hp, hq, hm, f2⟩
  have F2 := f1.trans f2
  have hp0 : w.heap.size ≤ p := Nat.le_trans f1.size hp
  have hq0 : w.heap.size ≤ q := Nat.le_trans f1.size hq
  obtain ⟨n, hn⟩ : ∃ n, n = (1 + many % 100).toNat := ⟨_, rfl⟩
  have hn1 : n ≤ 100 := by omega
  have hI : TouchInv w p q n (.int .i64 0) 0 w2 := ⟨_, 0, rfl, by omega, by omega, by simp [runs, hn], hm, F2⟩
  clear hm hn
  by_cases h60 : len ≤ 60
  · have hg : ¬ (60 : Int) < (len : Int) := by omega
    go_wp2
    go_loopw [7, 8] (fun s i wr => ∃ (k : Nat), k ≤ len ∧ i = .int .i64 k ∧ TouchInv w p q n s k wr) (fun _ i _ => len - (intOf i).toNat)
    case atStart => exact ⟨0, Nat.zero_le _, rfl, hI⟩
    case round =>
      obtain ⟨k, hk, rfl, L, T, rfl, hT0, hT1, hLn, hmr, fr⟩ := hrel
      have HN := Lib.hid hLn; clear hLn
      by_cases hlt : k < len
      · obtain ⟨o, hget⟩ : ∃ o, l[k]? = some o := ⟨_, List.getElem?_eq_getElem (by have := HL.out; omega)⟩
        obtain ⟨o0, o1, b, f, rfl, hb, c0, c1, c2, c3⟩ := (A.out.fr fr (Nat.le_refl _) (by simp)) k o hget
        have HG := Lib.hid hget; clear hget
        have hlt' : (k : Int) < (len : Int) := by omega
        have hk0 : (0 : Int) ≤ (k : Int) := by omega
        have hbp : b ∉ [p, q] := by simp; omega
        go_wp2_with fail
        refine (do_any wr p q L T o hmr hT0 (by omega) o0).mono ?_
        rintro e w3 ⟨rfl, hm3, f3⟩
        have d0 := f3.cell c0 hbp
        have d1 := f3.cell c1 hbp
        have F3 := fr.then2 f3 hp0 hq0
        have hL3 : (opNext o L).length = n := (length_opNext o L).trans HN.out
        clear c0 c1 c2 c3
        generalize hLn : opNext o L = L3 at hm3 hL3
        have hLL : L.length = L3.length := by rw [hL3]; exact HN.out
        have hcase : (o.i < 0 ∧ opTch o L = 0) ∨ (0 ≤ o.i ∧ (L3.length : Int) ≤ o.i ∧ opTch o L = 0) ∨ (0 ≤ o.i ∧ o.i < L3.length ∧ ¬ o.k < 4 ∧ opTch o L = 0) ∨ (0 ≤ o.i ∧ o.i < L3.length ∧ o.k < 4 ∧ opTch o L = 1) := by
          rw [← hLL]
          rcases where_is L o.i with h | ⟨h, h'⟩ | ⟨h, h'⟩
          · exact .inl ⟨h, opTch_low h⟩
          · exact .inr (.inl ⟨h, h', opTch_high h'⟩)
          · by_cases hk4 : o.k < 4
            · exact .inr (.inr (.inr ⟨h, h', hk4, opTch_yes h h' hk4⟩))
            · exact .inr (.inr (.inl ⟨h, h', hk4, opTch_kind hk4⟩))
        generalize opTch o L = u at hm3 hcase
        have H3 := Lib.hid hL3; clear hL3 hLn hLL
        have hlen3 : L3.length ≤ 100 := by have := H3.out; omega
        have X : ∀ nq, Calls Try.prog 19 #[.pointer (some ⟨p, 0, none⟩)] (w3.drewN nq) fun e w'' => e = .returned (.int .i64 L3.length) ∧ ∃ m, w'' = w3.drewN m :=
          fun nq => (many_any _ p q L3 (T + u) (hm3.drewN nq)).mono fun e w' h => ⟨h.1, _, h.2.symm⟩
        have HX := Lib.hid X; clear X
        have fin : ∀ nq, Calls Try.prog 18 #[.pointer (some ⟨p, 0, none⟩)] (w3.drewN nq) fun e w' => ∃ g c, e = .returned (.slice (some ⟨g, 0, none⟩) L3.length c) ∧ TouchInv w p q n (.int .i64 (T + u)) (k + 1) w' := fun nq => by
          refine (words_any _ p q L3 (T + u) (hm3.drewN nq) (by omega)).mono ?_
          rintro e w4 ⟨g, c, rfl, _, f4⟩
          have F4 := (F3.drewN nq).trans f4
          refine ⟨g, c, rfl, L3, T + u, rfl, ?_, ?_, H3.out, (hm3.drewN nq).fr f4 (by simp) (by simp), F4⟩
          · rcases hcase with h | h | h | h <;> omega
          · rcases hcase with h | h | h | h <;> omega
        have HF := Lib.hid fin; clear fin
        rcases hcase with ⟨hi, hu⟩ | ⟨hi, hj, hu⟩ | ⟨hi, hj, hk4, hu⟩ | ⟨hi, hj, hk4, hu⟩
        · subst hu
          rw [Int.add_zero] at HF
          clear hm3
          have e1 : decide (0 ≤ o.i) = false := by simp; omega
          go_wp2_with fail
          go_quiet (fail)
          go_wp2_with fail
          refine (HF.out _).mono ?_
          rintro e w4 ⟨g4, c4, rfl, hI4⟩
          go_wp2
          go_roundw
          case rel => exact ⟨k + 1, by omega, by go_num, hI4⟩
          case measure => simp [intOf]; omega
        · subst hu
          rw [Int.add_zero] at HF
          clear hm3
          have e1 : decide (0 ≤ o.i) = true := by simpa using hi
          have e2 : decide (o.i < (L3.length : Int)) = false := by simp; omega
          go_wp2_with fail
          go_quiet ((go_at_call 19; exact HX.out _))
          go_wp2_with fail
          refine (HF.out _).mono ?_
          rintro e w4 ⟨g4, c4, rfl, hI4⟩
          go_wp2
          go_roundw
          case rel => exact ⟨k + 1, by omega, by go_num, hI4⟩
          case measure => simp [intOf]; omega
        · subst hu
          rw [Int.add_zero] at HF
          clear hm3
          have e1 : decide (0 ≤ o.i) = true := by simpa using hi
          have e2 : decide (o.i < (L3.length : Int)) = true := by simpa using hj
          have e3 : decide (o.k < 4) = false := by simp; omega
          go_wp2_with fail
          go_quiet ((go_at_call 19; exact HX.out _))
          go_wp2_with fail
          refine (HF.out _).mono ?_
          rintro e w4 ⟨g4, c4, rfl, hI4⟩
          go_wp2
          go_roundw
          case rel => exact ⟨k + 1, by omega, by go_num, hI4⟩
          case measure => simp [intOf]; omega
        · subst hu
          clear hm3
          have e1 : decide (0 ≤ o.i) = true := by simpa using hi
          have e2 : decide (o.i < (L3.length : Int)) = true := by simpa using hj
          have e3 : decide (o.k < 4) = true := by simpa using hk4
          go_wp2_with fail
          go_quiet ((go_at_call 19; exact HX.out _))
          go_wp2_with fail
          refine (HF.out _).mono ?_
          rintro e w4 ⟨g4, c4, rfl, hI4⟩
          go_wp2
          go_roundw
          case rel => exact ⟨k + 1, by omega, by go_num, hI4⟩
          case measure => simp [intOf]; omega
      · have hge : ¬ (k : Int) < (len : Int) := by omega
        go_wp2_with fail
        refine (touched_any wr p q L T hmr).mono ?_
        rintro e w3 ⟨rfl, rfl⟩
        go_wp2
        go_ret
        exact ⟨rfl, fr⟩
  · have hg : (60 : Int) < (len : Int) := by omega
    go_wp2
    go_ret
    exact ⟨rfl, F2⟩

end Go.Proofs.Ytiemmoklhohdnaa
