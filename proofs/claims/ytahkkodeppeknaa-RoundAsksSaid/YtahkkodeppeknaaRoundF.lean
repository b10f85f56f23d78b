/- The layer 'round': the document's second ones, and even ones. -/
import Derived.Test.YtahkkodeppeknaaRoundE
namespace Go.Proofs.Ytahkkodeppeknaa
open Go.RowKit Go.Shelf

set_option maxHeartbeats 800000 in
theorem ref_second_any (w : World) (g : Option Addr) (c : Nat) (L : List Int) (hl : L.length ≤ 100000) (ha : IntsAt w g L) :
    Calls Try.prog 16 #[.slice g L.length c] w (IntsPost w (secondL L)) := by
  obtain ⟨i0, hi, hz0, hz1, hz2⟩ := info_parts round_info_int
  by_cases hn : L = []
  · subst hn
    go_enter Try.func16, Try.ntmps16
    go_wp2
    go_loopw [3, 4] (fun s i wr => s = .slice none 0 0 ∧ i = .int .i64 0 ∧ wr = w) (fun _ _ _ => 0)
    case atStart => exact ⟨rfl, rfl, rfl⟩
    case round =>
      obtain ⟨rfl, rfl, rfl⟩ := hrel
      go_wp2
      go_ret
      exact ⟨none, 0, rfl, IntsAt.empty _ _, Fr.refl _ _⟩
  · obtain ⟨ba, oa, rfl, hca⟩ := ha.base hn
    have Ha := Lib.hid hca; clear hca hn
    have hba : ∀ x, L[0]? = some x → ba < w.heap.size := fun x hx => World.block_lt_of_cell? w _ (Ha.out 0 x hx)
    obtain ⟨len, hlen⟩ : ∃ n, n = L.length := ⟨_, rfl⟩
    obtain ⟨S, hS⟩ : ∃ S, S = secondL L := ⟨_, rfl⟩
    have hsl : S.length = (len + 1) / 2 := by rw [hS, length_secondL, hlen]
    have hget : ∀ j : Nat, S[j]? = L[2 * j]? := fun j => by rw [hS, get_secondL]
    rw [← hS]
    rw [← hlen] at hl ⊢
    have HL := Lib.hid hlen; have HS := Lib.hid hsl; have HG := Lib.hid hget; clear hlen hsl hget hS ha hba
    go_enter Try.func16, Try.ntmps16
    go_wp2
    go_loopw [3, 4] (fun s i wr => ∃ k : Nat, k ≤ (len + 1) / 2 ∧ i = .int .i64 ((2 * k : Nat) : Int) ∧ wr.ownsRow w.heap.size 3 1 s k ((S.map (Value.int .i64)).take k) ∧ Fr [] w wr) (fun _ i _ => len + 1 - (intOf i).toNat)
    case atStart => exact ⟨0, Nat.zero_le _, rfl, World.ownsRow_nil _ _ _ _, Fr.refl _ _⟩
    case round =>
      obtain ⟨k, hk, rfl, hown, f⟩ := hrel
      have fs := f.size
      by_cases hlt : 2 * k < len
      · have hx := getElem?_nat (L := L) (k := 2 * k) (by rw [← HL.out]; exact hlt)
        have ga := f.cell (Ha.out (2 * k) _ hx) (by simp)
        generalize L.getD (2 * k) 0 = x at ga hx
        have HX := Lib.hid (show S[k]? = some x by rw [HG.out]; exact hx)
        clear hx
        generalize hi2 : 2 * k = i2 at ga ⊢
        have hlt' : (i2 : Int) < (len : Int) := by omega
        have hk0 : (0 : Int) ≤ (i2 : Int) := by omega
        have HI := Lib.hid hi2; clear hi2
        go_wp2_with (first
          | (at_builtin; refine wpList_append_own _ rfl _ _ 23 rfl w.heap.size 3 i0 (.int .i64 0) 1 8 Try.underlying23 hi hz0 hz1 hz2 rfl (by decide) _ _ _ rfl (hown.alloc _) ⟨wr.heap.size, 0, none⟩ 1 1 [.int .i64 x] rfl rfl (cell_one_new _ _ _) (by simp [Value.oneCell']) (by unfold maxLen; omega) (by omega) (by simp; omega) ?_)
          | go_in)
        intro v' w1 hown' hgrow _
        rw [take_snoc HX.out] at hown'
        have f1 := grown_step f hown (Nat.le_refl _) hgrow
        have HW := Lib.hid hown'; clear hown'
        go_wp2
        go_roundw
        case rel => exact ⟨k + 1, by have := HI.out; omega, congrArg (Value.int .i64) (by have := HI.out; omega), HW.out, f1⟩
        case measure => simp [intOf]; omega
      · have hkN : k = S.length := by rw [HS.out]; omega
        have HW := Lib.hid hown; have HJ := Lib.hid hkN; clear hown hkN
        generalize hi2 : 2 * k = i2 at hlt ⊢
        have hge : ¬ (i2 : Int) < (len : Int) := by omega
        clear hi2
        go_wp2
        go_ret
        have hw := HW.out
        rw [HJ.out, List.take_of_length_le (by simp)] at hw
        exact ints_post hw f

set_option maxHeartbeats 800000 in
theorem ref_even_any (w : World) (g : Option Addr) (c : Nat) (L : List Int) (hl : L.length ≤ 100000) (ha : IntsAt w g L) :
    Calls Try.prog 17 #[.slice g L.length c] w (IntsPost w (L.filter fun x => x.tmod 2 == 0)) := by
  obtain ⟨i0, hi, hz0, hz1, hz2⟩ := info_parts round_info_int
  by_cases hn : L = []
  · subst hn
    go_enter Try.func17, Try.ntmps17
    go_wp2
    go_loopw [3, 4] (fun s i wr => s = .slice none 0 0 ∧ i = .int .i64 0 ∧ wr = w) (fun _ _ _ => 0)
    case atStart => exact ⟨rfl, rfl, rfl⟩
    case round =>
      obtain ⟨rfl, rfl, rfl⟩ := hrel
      go_wp2
      go_ret
      exact ⟨none, 0, rfl, IntsAt.empty _ _, Fr.refl _ _⟩
  · obtain ⟨ba, oa, rfl, hca⟩ := ha.base hn
    have Ha := Lib.hid hca; clear hca hn
    obtain ⟨len, hlen⟩ : ∃ n, n = L.length := ⟨_, rfl⟩
    rw [← hlen] at hl ⊢
    have HL := Lib.hid hlen; clear hlen ha
    go_enter Try.func17, Try.ntmps17
    go_wp2
    go_loopw [3, 4] (fun s i wr => ∃ (k : Nat) (T : List Int), k ≤ len ∧ i = .int .i64 (k : Int) ∧ T = (L.take k).filter (fun x => x.tmod 2 == 0) ∧ T.length ≤ k ∧ wr.ownsRow w.heap.size 3 1 s T.length (T.map (Value.int .i64)) ∧ Fr [] w wr) (fun _ i _ => len - (intOf i).toNat)
    case atStart => exact ⟨0, [], Nat.zero_le _, rfl, rfl, Nat.le_refl _, World.ownsRow_nil _ _ _ _, Fr.refl _ _⟩
    case round =>
      obtain ⟨k, T, hk, rfl, hT, hTk, hown, f⟩ := hrel
      have fs := f.size
      have HT := Lib.hid hT; clear hT
      by_cases hlt : k < len
      · have hx := getElem?_nat (L := L) (k := k) (by rw [← HL.out]; exact hlt)
        have ga := f.cell (Ha.out k _ hx) (by simp)
        generalize L.getD k 0 = x at ga hx
        have HX := Lib.hid hx
        clear hx
        have hlt' : (k : Int) < (len : Int) := by omega
        have hk0 : (0 : Int) ≤ (k : Int) := by omega
        by_cases he : x.tmod 2 = 0
        · go_wp2_with (first
            | (at_builtin; refine wpList_append_own _ rfl _ _ 23 rfl w.heap.size 3 i0 (.int .i64 0) 1 8 Try.underlying23 hi hz0 hz1 hz2 rfl (by decide) _ _ _ rfl (hown.alloc _) ⟨wr.heap.size, 0, none⟩ 1 1 [.int .i64 x] rfl rfl (cell_one_new _ _ _) (by simp [Value.oneCell']) (by unfold maxLen; omega) (by omega) (by simp; omega) ?_)
            | go_in)
          intro v' w1 hown' hgrow _
          have f1 := grown_step f hown (Nat.le_refl _) hgrow
          have HW := Lib.hid hown'; clear hown'
          have HE := Lib.hid he; clear he
          go_wp2
          go_roundw
          case rel => exact ⟨k + 1, T ++ [x], by omega, by go_num, by rw [List.take_add_one, HX.out, List.filter_append, HT.out]; simp [HE.out], by simp; omega, by simpa using HW.out, f1⟩
          case measure => simp [intOf]; omega
        · go_wp2
          go_roundw
          case rel => exact ⟨k + 1, T, by omega, by go_num, by rw [List.take_add_one, HX.out, List.filter_append, HT.out]; simp [he], by omega, hown, f⟩
          case measure => simp [intOf]; omega
      · have hkN : k = L.length := by rw [← HL.out]; omega
        have HW := Lib.hid hown; have HJ := Lib.hid hkN; clear hown hkN
        go_wp2
        go_ret
        have hw := HW.out
        have ht := HT.out
        rw [HJ.out, List.take_length] at ht
        rw [← ht]
        exact ints_post hw f

end Go.Proofs.Ytahkkodeppeknaa
