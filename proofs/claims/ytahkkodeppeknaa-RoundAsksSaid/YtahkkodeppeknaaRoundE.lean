/- The layer 'round': lists; the document's answers (coachhouseref04); the chapter's examples. -/
import Derived.Test.YtahkkodeppeknaaRoundD
namespace Go.Proofs.Ytahkkodeppeknaa
open Go.RowKit Go.Shelf

/-- A call that tells a list of numbers, and turns nothing that was there. -/
def IntsPost (w : World) (L : List Int) (e : Ending) (w' : World) : Prop := ∃ (g : Option Addr) (c : Nat), e = .returned (.slice g L.length c) ∧ IntsAt w' g L ∧ Fr [] w w'
theorem ints_post {w w' : World} {B : Nat} {v : Value} {L : List Int} (h : w'.ownsRow B 3 1 v L.length (L.map (Value.int .i64))) (f : Fr [] w w') : IntsPost w L (.returned v) w' := by
  rcases h.2 with ⟨rfl, hn⟩ | ⟨g, cap, cur, rfl, rest⟩
  · have : L = [] := List.eq_nil_of_length_eq_zero hn
    subst this
    exact ⟨none, 0, rfl, IntsAt.empty _ _, f⟩
  · exact ⟨_, cap, rfl, IntsAt.of_owns h, f⟩
/-- .. and how much room the list has. -/
def IntsPostC (w : World) (L : List Int) (e : Ending) (w' : World) : Prop := ∃ (g : Option Addr) (c : Nat), e = .returned (.slice g L.length c) ∧ IntsAt w' g L ∧ Fr [] w w' ∧ L.length ≤ c
theorem ints_post_c {w w' : World} {B : Nat} {v : Value} {L : List Int} (h : w'.ownsRow B 3 1 v L.length (L.map (Value.int .i64))) (f : Fr [] w w') : IntsPostC w L (.returned v) w' := by
  rcases h.2 with ⟨rfl, hn⟩ | ⟨g, cap, cur, rfl, rest⟩
  · have : L = [] := List.eq_nil_of_length_eq_zero hn
    subst this
    exact ⟨none, 0, rfl, IntsAt.empty _ _, f, Nat.le_refl _⟩
  · exact ⟨_, cap, rfl, IntsAt.of_owns h, f, rest.2.2.1⟩
theorem list_seq (w : World) (v : Value) (xs : List Int) (hxs : xs.length ≤ 100000) (hs : SeqV w v xs) : Calls Try.prog 14 #[v] w (IntsPost w xs) := by
  obtain ⟨g, lb, C, rfl, hg, hs⟩ := hs
  refine (list_any w g lb C xs hxs hg hs).mono ?_
  rintro e w' ⟨v, rfl, h, f⟩
  exact ints_post h f
theorem grown_step {w wr w1 : World} {B n : Nat} {e : TypeId} {v : Value} {xs : List Value} {o : Obj} (f : Fr [] w wr) (hown : wr.ownsRow B e 1 v n xs) (hB : w.heap.size ≤ B) (hg : (wr.alloc o).grownBy w1 v.ownBlock) : Fr [] w w1 :=
  (f.alloc o).grown hg (fun k hk => .inr (Nat.le_trans hB (hown.lt k hk).1))

theorem get_of_low {N F k : Nat} (h : F + k < N) : (ofList N F)[k]? = some ((F : Int) + k) := by
  rw [get_ofList (by omega)]
  have : ((F : Int) + k) % N = F + k := Int.emod_eq_of_lt (by omega) (by omega)
  rw [this]
theorem get_of_high {N F j : Nat} (h : F ≤ N) (hj : j < F) : (ofList N F)[N - F + j]? = some (j : Int) := by
  rw [get_ofList (by omega)]
  have h1 : ((F : Int) + ((N - F + j : Nat) : Int)) = j + N := by omega
  rw [h1, Int.add_emod_right]
  have : ((j : Int)) % N = j := Int.emod_eq_of_lt (by omega) (by omega)
  rw [this]
theorem take_snoc {L : List Int} {k : Nat} {x : Int} (h : L[k]? = some x) : (L.map (Value.int .i64)).take k ++ [.int .i64 x] = (L.map (Value.int .i64)).take (k + 1) := by
  rw [List.take_add_one]; simp [h]

set_option maxHeartbeats 1600000 in
theorem ref_of_any (w : World) (many from' : Int) (h1 : -9223372036854775808 ≤ many) (h2 : many ≤ 9223372036854775807) (h3 : -9223372036854775808 ≤ from') (h4 : from' ≤ 9223372036854775807) :
    Calls Try.prog 10 #[.int .i64 many, .int .i64 from'] w (IntsPostC w (ofSeq many from')) := by
  obtain ⟨i0, hi, hz0, hz1, hz2⟩ := info_parts round_info_int
  obtain ⟨m, hm⟩ : ∃ m, m = min many 100000 := ⟨_, rfl⟩
  obtain ⟨N, hN⟩ : ∃ N, N = m.toNat := ⟨_, rfl⟩
  obtain ⟨F, hF⟩ : ∃ F, F = ofFrom m from' := ⟨_, rfl⟩
  obtain ⟨L, hL⟩ : ∃ L, L = ofList N F := ⟨_, rfl⟩
  have hLL : L.length = N := by rw [hL, length_ofList]
  have hLs : ofSeq many from' = L := by unfold ofSeq; rw [hL, hN, hF, hm]
  rw [hLs]
  have hF0 : (from' < 0 ∨ m ≤ from') → F = 0 := fun h => by rw [hF]; unfold ofFrom; rw [if_pos h]
  have hF1 : ¬ (from' < 0 ∨ m ≤ from') → (F : Int) = from' := fun h => by rw [hF]; unfold ofFrom; rw [if_neg h]; omega
  clear hF
  have HF := Lib.hid (show (F = 0 ∨ (F : Int) = from') ∧ F ≤ N ∧ ((from' < 0 ∨ m ≤ from') → F = 0) ∧ (¬ (from' < 0 ∨ m ≤ from') → (F : Int) = from') ∧ (N : Int) ≤ 100000 ∧ (N = 0 ∨ (N : Int) = m) ∧ ((N : Int) = m ∨ m ≤ 0) from by omega)
  have HM := Lib.hid hm
  have HL := Lib.hid hL; have HLL := Lib.hid hLL; clear hL hLL hLs hF0 hF1 hN hm
  go_enter Try.func10, Try.ntmps10
  have hsp : (from' < 0) ∨ (0 ≤ from' ∧ min many 100000 ≤ from') ∨ (0 ≤ from' ∧ from' < min many 100000) := by omega
  have hsq : many ≤ 100000 ∨ 100000 < many := by omega
  rcases hsq with hq | hq
  · obtain rfl : m = many := by have := HM.out; omega
    have hsr : (from' < 0) ∨ (0 ≤ from' ∧ m ≤ from') ∨ (0 ≤ from' ∧ from' < m) := by omega
    clear hsp
    rcases hsr with ha | ⟨ha, hb⟩ | ⟨ha, hb⟩
    · go_wp2
      go_loopw [6, 7] (fun s i wr => ∃ k : Nat, k ≤ N - F ∧ i = .int .i64 ((F : Int) + k) ∧ wr.ownsRow w.heap.size 3 1 s k ((L.map (Value.int .i64)).take k) ∧ Fr [] w wr) (fun _ i _ => N - (intOf i).toNat)
      case atStart => exact ⟨0, Nat.zero_le _, congrArg (Value.int .i64) (by have := HF.out; omega), World.ownsRow_nil _ _ _ _, Fr.refl _ _⟩
      case round =>
        obtain ⟨k, hk, rfl, hown, f⟩ := hrel
        have fs := f.size
        have hk100 : k ≤ 100000 := by have := HF.out; omega
        by_cases hlt : (F : Int) + k < m
        · have HX := Lib.hid (show L[k]? = some ((F : Int) + k) by rw [HL.out]; exact get_of_low (by have := HF.out; omega))
          go_wp2_with (first
            | (at_builtin; refine wpList_append_own _ rfl _ _ 23 rfl w.heap.size 3 i0 (.int .i64 0) 1 8 Try.underlying23 hi hz0 hz1 hz2 rfl (by decide) _ _ _ rfl (hown.alloc _) ⟨wr.heap.size, 0, none⟩ 1 1 [.int .i64 ((F : Int) + k)] rfl rfl (cell_one_new _ _ _) (by simp [Value.oneCell']) (by unfold maxLen; omega) (by omega) (by simp; omega) ?_)
            | go_in)
          intro v' w1 hown' hgrow _
          rw [take_snoc HX.out] at hown'
          have f1 := grown_step f hown (Nat.le_refl _) hgrow
          have HW := Lib.hid hown'; clear hown'
          go_wp2
          go_roundw
          case rel => exact ⟨k + 1, by have := HF.out; omega, by go_num, HW.out, f1⟩
          case measure => simp [intOf]; have := HF.out; omega
        · have hkN : k = N - F := by have := HF.out; omega
          go_wp2
          go_loopw [6, 8] (fun s i wr => ∃ j : Nat, j ≤ F ∧ i = .int .i64 (j : Int) ∧ wr.ownsRow w.heap.size 3 1 s (N - F + j) ((L.map (Value.int .i64)).take (N - F + j)) ∧ Fr [] w wr) (fun _ i _ => F - (intOf i).toNat)
          case atStart => exact ⟨0, Nat.zero_le _, rfl, by rw [← hkN]; exact hown, f⟩
          case round =>
            clear hown f fs
            obtain ⟨j, hj, rfl, hown, f⟩ := hrel
            have fs := f.size
            have hj100 : N - F + j ≤ 100000 := by have := HF.out; omega
            by_cases hlj : (j : Int) < 0
            · exfalso; omega
            · have hjN : N - F + j = L.length := by rw [HLL.out]; have := HF.out; omega
              have HW := Lib.hid hown; have HJ := Lib.hid hjN; clear hown hjN
              go_wp2
              go_ret
              have hw := HW.out
              rw [HJ.out, List.take_of_length_le (by simp)] at hw
              exact ints_post_c hw f
    · go_wp2
      go_loopw [6, 7] (fun s i wr => ∃ k : Nat, k ≤ N - F ∧ i = .int .i64 ((F : Int) + k) ∧ wr.ownsRow w.heap.size 3 1 s k ((L.map (Value.int .i64)).take k) ∧ Fr [] w wr) (fun _ i _ => N - (intOf i).toNat)
      case atStart => exact ⟨0, Nat.zero_le _, congrArg (Value.int .i64) (by have := HF.out; omega), World.ownsRow_nil _ _ _ _, Fr.refl _ _⟩
      case round =>
        obtain ⟨k, hk, rfl, hown, f⟩ := hrel
        have fs := f.size
        have hk100 : k ≤ 100000 := by have := HF.out; omega
        by_cases hlt : (F : Int) + k < m
        · have HX := Lib.hid (show L[k]? = some ((F : Int) + k) by rw [HL.out]; exact get_of_low (by have := HF.out; omega))
          go_wp2_with (first
            | (at_builtin; refine wpList_append_own _ rfl _ _ 23 rfl w.heap.size 3 i0 (.int .i64 0) 1 8 Try.underlying23 hi hz0 hz1 hz2 rfl (by decide) _ _ _ rfl (hown.alloc _) ⟨wr.heap.size, 0, none⟩ 1 1 [.int .i64 ((F : Int) + k)] rfl rfl (cell_one_new _ _ _) (by simp [Value.oneCell']) (by unfold maxLen; omega) (by omega) (by simp; omega) ?_)
            | go_in)
          intro v' w1 hown' hgrow _
          rw [take_snoc HX.out] at hown'
          have f1 := grown_step f hown (Nat.le_refl _) hgrow
          have HW := Lib.hid hown'; clear hown'
          go_wp2
          go_roundw
          case rel => exact ⟨k + 1, by have := HF.out; omega, by go_num, HW.out, f1⟩
          case measure => simp [intOf]; have := HF.out; omega
        · have hkN : k = N - F := by have := HF.out; omega
          go_wp2
          go_loopw [6, 8] (fun s i wr => ∃ j : Nat, j ≤ F ∧ i = .int .i64 (j : Int) ∧ wr.ownsRow w.heap.size 3 1 s (N - F + j) ((L.map (Value.int .i64)).take (N - F + j)) ∧ Fr [] w wr) (fun _ i _ => F - (intOf i).toNat)
          case atStart => exact ⟨0, Nat.zero_le _, rfl, by rw [← hkN]; exact hown, f⟩
          case round =>
            clear hown f fs
            obtain ⟨j, hj, rfl, hown, f⟩ := hrel
            have fs := f.size
            have hj100 : N - F + j ≤ 100000 := by have := HF.out; omega
            by_cases hlj : (j : Int) < 0
            · exfalso; omega
            · have hjN : N - F + j = L.length := by rw [HLL.out]; have := HF.out; omega
              have HW := Lib.hid hown; have HJ := Lib.hid hjN; clear hown hjN
              go_wp2
              go_ret
              have hw := HW.out
              rw [HJ.out, List.take_of_length_le (by simp)] at hw
              exact ints_post_c hw f
    · go_wp2
      go_loopw [6, 7] (fun s i wr => ∃ k : Nat, k ≤ N - F ∧ i = .int .i64 ((F : Int) + k) ∧ wr.ownsRow w.heap.size 3 1 s k ((L.map (Value.int .i64)).take k) ∧ Fr [] w wr) (fun _ i _ => N - (intOf i).toNat)
      case atStart => exact ⟨0, Nat.zero_le _, congrArg (Value.int .i64) (by have := HF.out; omega), World.ownsRow_nil _ _ _ _, Fr.refl _ _⟩
      case round =>
        obtain ⟨k, hk, rfl, hown, f⟩ := hrel
        have fs := f.size
        have hk100 : k ≤ 100000 := by have := HF.out; omega
        by_cases hlt : (F : Int) + k < m
        · have HX := Lib.hid (show L[k]? = some ((F : Int) + k) by rw [HL.out]; exact get_of_low (by have := HF.out; omega))
          go_wp2_with (first
            | (at_builtin; refine wpList_append_own _ rfl _ _ 23 rfl w.heap.size 3 i0 (.int .i64 0) 1 8 Try.underlying23 hi hz0 hz1 hz2 rfl (by decide) _ _ _ rfl (hown.alloc _) ⟨wr.heap.size, 0, none⟩ 1 1 [.int .i64 ((F : Int) + k)] rfl rfl (cell_one_new _ _ _) (by simp [Value.oneCell']) (by unfold maxLen; omega) (by omega) (by simp; omega) ?_)
            | go_in)
          intro v' w1 hown' hgrow _
          rw [take_snoc HX.out] at hown'
          have f1 := grown_step f hown (Nat.le_refl _) hgrow
          have HW := Lib.hid hown'; clear hown'
          go_wp2
          go_roundw
          case rel => exact ⟨k + 1, by have := HF.out; omega, by go_num, HW.out, f1⟩
          case measure => simp [intOf]; have := HF.out; omega
        · have hkN : k = N - F := by have := HF.out; omega
          go_wp2
          go_loopw [6, 8] (fun s i wr => ∃ j : Nat, j ≤ F ∧ i = .int .i64 (j : Int) ∧ wr.ownsRow w.heap.size 3 1 s (N - F + j) ((L.map (Value.int .i64)).take (N - F + j)) ∧ Fr [] w wr) (fun _ i _ => F - (intOf i).toNat)
          case atStart => exact ⟨0, Nat.zero_le _, rfl, by rw [← hkN]; exact hown, f⟩
          case round =>
            clear hown f fs
            obtain ⟨j, hj, rfl, hown, f⟩ := hrel
            have fs := f.size
            have hj100 : N - F + j ≤ 100000 := by have := HF.out; omega
            by_cases hlj : (j : Int) < from'
            · have HX := Lib.hid (show L[N - F + j]? = some (j : Int) by rw [HL.out]; exact get_of_high (by have := HF.out; omega) (by have := HF.out; omega))
              go_wp2_with (first
                | (at_builtin; refine wpList_append_own _ rfl _ _ 23 rfl w.heap.size 3 i0 (.int .i64 0) 1 8 Try.underlying23 hi hz0 hz1 hz2 rfl (by decide) _ _ _ rfl (hown.alloc _) ⟨wr.heap.size, 0, none⟩ 1 1 [.int .i64 (j : Int)] rfl rfl (cell_one_new _ _ _) (by simp [Value.oneCell']) (by unfold maxLen; omega) (by omega) (by simp; omega) ?_)
                | go_in)
              intro v' w1 hown' hgrow _
              rw [take_snoc HX.out] at hown'
              have f1 := grown_step f hown (Nat.le_refl _) hgrow
              have HW := Lib.hid hown'; clear hown'
              go_wp2
              go_roundw
              case rel => exact ⟨j + 1, by have := HF.out; omega, by go_num, HW.out, f1⟩
              case measure => simp [intOf]; have := HF.out; omega
            · have hjN : N - F + j = L.length := by rw [HLL.out]; have := HF.out; omega
              have HW := Lib.hid hown; have HJ := Lib.hid hjN; clear hown hjN
              go_wp2
              go_ret
              have hw := HW.out
              rw [HJ.out, List.take_of_length_le (by simp)] at hw
              exact ints_post_c hw f
  · have hmv := Lib.hid (show (100000 : Int) = m by have := HM.out; omega)
    have hmu : m ≤ 100000 := by have := hmv.out; omega
    have hsr : (from' < 0) ∨ (0 ≤ from' ∧ 100000 ≤ from') ∨ (0 ≤ from' ∧ from' < 100000) := by omega
    clear hsp
    rcases hsr with ha | ⟨ha, hb⟩ | ⟨ha, hb⟩
    · go_wp2
      rw [hmv.out]
      go_loopw [6, 7] (fun s i wr => ∃ k : Nat, k ≤ N - F ∧ i = .int .i64 ((F : Int) + k) ∧ wr.ownsRow w.heap.size 3 1 s k ((L.map (Value.int .i64)).take k) ∧ Fr [] w wr) (fun _ i _ => N - (intOf i).toNat)
      case atStart => exact ⟨0, Nat.zero_le _, congrArg (Value.int .i64) (by have := HF.out; have := hmv.out; omega), World.ownsRow_nil _ _ _ _, Fr.refl _ _⟩
      case round =>
        obtain ⟨k, hk, rfl, hown, f⟩ := hrel
        have fs := f.size
        have hk100 : k ≤ 100000 := by have := HF.out; have := hmv.out; omega
        by_cases hlt : (F : Int) + k < m
        · have HX := Lib.hid (show L[k]? = some ((F : Int) + k) by rw [HL.out]; exact get_of_low (by have := HF.out; have := hmv.out; omega))
          go_wp2_with (first
            | (at_builtin; refine wpList_append_own _ rfl _ _ 23 rfl w.heap.size 3 i0 (.int .i64 0) 1 8 Try.underlying23 hi hz0 hz1 hz2 rfl (by decide) _ _ _ rfl (hown.alloc _) ⟨wr.heap.size, 0, none⟩ 1 1 [.int .i64 ((F : Int) + k)] rfl rfl (cell_one_new _ _ _) (by simp [Value.oneCell']) (by unfold maxLen; omega) (by omega) (by simp; omega) ?_)
            | go_in)
          intro v' w1 hown' hgrow _
          rw [take_snoc HX.out] at hown'
          have f1 := grown_step f hown (Nat.le_refl _) hgrow
          have HW := Lib.hid hown'; clear hown'
          go_wp2
          go_roundw
          case rel => exact ⟨k + 1, by have := HF.out; have := hmv.out; omega, by go_num, HW.out, f1⟩
          case measure => simp [intOf]; have := HF.out; have := hmv.out; omega
        · have hkN : k = N - F := by have := HF.out; have := hmv.out; omega
          go_wp2
          go_loopw [6, 8] (fun s i wr => ∃ j : Nat, j ≤ F ∧ i = .int .i64 (j : Int) ∧ wr.ownsRow w.heap.size 3 1 s (N - F + j) ((L.map (Value.int .i64)).take (N - F + j)) ∧ Fr [] w wr) (fun _ i _ => F - (intOf i).toNat)
          case atStart => exact ⟨0, Nat.zero_le _, rfl, by rw [← hkN]; exact hown, f⟩
          case round =>
            clear hown f fs
            obtain ⟨j, hj, rfl, hown, f⟩ := hrel
            have fs := f.size
            have hj100 : N - F + j ≤ 100000 := by have := HF.out; have := hmv.out; omega
            by_cases hlj : (j : Int) < 0
            · exfalso; omega
            · have hjN : N - F + j = L.length := by rw [HLL.out]; have := HF.out; have := hmv.out; omega
              have HW := Lib.hid hown; have HJ := Lib.hid hjN; clear hown hjN
              go_wp2
              go_ret
              have hw := HW.out
              rw [HJ.out, List.take_of_length_le (by simp)] at hw
              exact ints_post_c hw f
    · go_wp2
      rw [hmv.out]
      go_loopw [6, 7] (fun s i wr => ∃ k : Nat, k ≤ N - F ∧ i = .int .i64 ((F : Int) + k) ∧ wr.ownsRow w.heap.size 3 1 s k ((L.map (Value.int .i64)).take k) ∧ Fr [] w wr) (fun _ i _ => N - (intOf i).toNat)
      case atStart => exact ⟨0, Nat.zero_le _, congrArg (Value.int .i64) (by have := HF.out; have := hmv.out; omega), World.ownsRow_nil _ _ _ _, Fr.refl _ _⟩
      case round =>
        obtain ⟨k, hk, rfl, hown, f⟩ := hrel
        have fs := f.size
        have hk100 : k ≤ 100000 := by have := HF.out; have := hmv.out; omega
        by_cases hlt : (F : Int) + k < m
        · have HX := Lib.hid (show L[k]? = some ((F : Int) + k) by rw [HL.out]; exact get_of_low (by have := HF.out; have := hmv.out; omega))
          go_wp2_with (first
            | (at_builtin; refine wpList_append_own _ rfl _ _ 23 rfl w.heap.size 3 i0 (.int .i64 0) 1 8 Try.underlying23 hi hz0 hz1 hz2 rfl (by decide) _ _ _ rfl (hown.alloc _) ⟨wr.heap.size, 0, none⟩ 1 1 [.int .i64 ((F : Int) + k)] rfl rfl (cell_one_new _ _ _) (by simp [Value.oneCell']) (by unfold maxLen; omega) (by omega) (by simp; omega) ?_)
            | go_in)
          intro v' w1 hown' hgrow _
          rw [take_snoc HX.out] at hown'
          have f1 := grown_step f hown (Nat.le_refl _) hgrow
          have HW := Lib.hid hown'; clear hown'
          go_wp2
          go_roundw
          case rel => exact ⟨k + 1, by have := HF.out; have := hmv.out; omega, by go_num, HW.out, f1⟩
          case measure => simp [intOf]; have := HF.out; have := hmv.out; omega
        · have hkN : k = N - F := by have := HF.out; have := hmv.out; omega
          go_wp2
          go_loopw [6, 8] (fun s i wr => ∃ j : Nat, j ≤ F ∧ i = .int .i64 (j : Int) ∧ wr.ownsRow w.heap.size 3 1 s (N - F + j) ((L.map (Value.int .i64)).take (N - F + j)) ∧ Fr [] w wr) (fun _ i _ => F - (intOf i).toNat)
          case atStart => exact ⟨0, Nat.zero_le _, rfl, by rw [← hkN]; exact hown, f⟩
          case round =>
            clear hown f fs
            obtain ⟨j, hj, rfl, hown, f⟩ := hrel
            have fs := f.size
            have hj100 : N - F + j ≤ 100000 := by have := HF.out; have := hmv.out; omega
            by_cases hlj : (j : Int) < 0
            · exfalso; omega
            · have hjN : N - F + j = L.length := by rw [HLL.out]; have := HF.out; have := hmv.out; omega
              have HW := Lib.hid hown; have HJ := Lib.hid hjN; clear hown hjN
              go_wp2
              go_ret
              have hw := HW.out
              rw [HJ.out, List.take_of_length_le (by simp)] at hw
              exact ints_post_c hw f
    · go_wp2
      rw [hmv.out]
      go_loopw [6, 7] (fun s i wr => ∃ k : Nat, k ≤ N - F ∧ i = .int .i64 ((F : Int) + k) ∧ wr.ownsRow w.heap.size 3 1 s k ((L.map (Value.int .i64)).take k) ∧ Fr [] w wr) (fun _ i _ => N - (intOf i).toNat)
      case atStart => exact ⟨0, Nat.zero_le _, congrArg (Value.int .i64) (by have := HF.out; have := hmv.out; omega), World.ownsRow_nil _ _ _ _, Fr.refl _ _⟩
      case round =>
        obtain ⟨k, hk, rfl, hown, f⟩ := hrel
        have fs := f.size
        have hk100 : k ≤ 100000 := by have := HF.out; have := hmv.out; omega
        by_cases hlt : (F : Int) + k < m
        · have HX := Lib.hid (show L[k]? = some ((F : Int) + k) by rw [HL.out]; exact get_of_low (by have := HF.out; have := hmv.out; omega))
          go_wp2_with (first
            | (at_builtin; refine wpList_append_own _ rfl _ _ 23 rfl w.heap.size 3 i0 (.int .i64 0) 1 8 Try.underlying23 hi hz0 hz1 hz2 rfl (by decide) _ _ _ rfl (hown.alloc _) ⟨wr.heap.size, 0, none⟩ 1 1 [.int .i64 ((F : Int) + k)] rfl rfl (cell_one_new _ _ _) (by simp [Value.oneCell']) (by unfold maxLen; omega) (by omega) (by simp; omega) ?_)
            | go_in)
          intro v' w1 hown' hgrow _
          rw [take_snoc HX.out] at hown'
          have f1 := grown_step f hown (Nat.le_refl _) hgrow
          have HW := Lib.hid hown'; clear hown'
          go_wp2
          go_roundw
          case rel => exact ⟨k + 1, by have := HF.out; have := hmv.out; omega, by go_num, HW.out, f1⟩
          case measure => simp [intOf]; have := HF.out; have := hmv.out; omega
        · have hkN : k = N - F := by have := HF.out; have := hmv.out; omega
          go_wp2
          go_loopw [6, 8] (fun s i wr => ∃ j : Nat, j ≤ F ∧ i = .int .i64 (j : Int) ∧ wr.ownsRow w.heap.size 3 1 s (N - F + j) ((L.map (Value.int .i64)).take (N - F + j)) ∧ Fr [] w wr) (fun _ i _ => F - (intOf i).toNat)
          case atStart => exact ⟨0, Nat.zero_le _, rfl, by rw [← hkN]; exact hown, f⟩
          case round =>
            clear hown f fs
            obtain ⟨j, hj, rfl, hown, f⟩ := hrel
            have fs := f.size
            have hj100 : N - F + j ≤ 100000 := by have := HF.out; have := hmv.out; omega
            by_cases hlj : (j : Int) < from'
            · have HX := Lib.hid (show L[N - F + j]? = some (j : Int) by rw [HL.out]; exact get_of_high (by have := HF.out; have := hmv.out; omega) (by have := HF.out; have := hmv.out; omega))
              go_wp2_with (first
                | (at_builtin; refine wpList_append_own _ rfl _ _ 23 rfl w.heap.size 3 i0 (.int .i64 0) 1 8 Try.underlying23 hi hz0 hz1 hz2 rfl (by decide) _ _ _ rfl (hown.alloc _) ⟨wr.heap.size, 0, none⟩ 1 1 [.int .i64 (j : Int)] rfl rfl (cell_one_new _ _ _) (by simp [Value.oneCell']) (by unfold maxLen; omega) (by omega) (by simp; omega) ?_)
                | go_in)
              intro v' w1 hown' hgrow _
              rw [take_snoc HX.out] at hown'
              have f1 := grown_step f hown (Nat.le_refl _) hgrow
              have HW := Lib.hid hown'; clear hown'
              go_wp2
              go_roundw
              case rel => exact ⟨j + 1, by have := HF.out; have := hmv.out; omega, by go_num, HW.out, f1⟩
              case measure => simp [intOf]; have := HF.out; have := hmv.out; omega
            · have hjN : N - F + j = L.length := by rw [HLL.out]; have := HF.out; have := hmv.out; omega
              have HW := Lib.hid hown; have HJ := Lib.hid hjN; clear hown hjN
              go_wp2
              go_ret
              have hw := HW.out
              rw [HJ.out, List.take_of_length_le (by simp)] at hw
              exact ints_post_c hw f

end Go.Proofs.Ytahkkodeppeknaa
