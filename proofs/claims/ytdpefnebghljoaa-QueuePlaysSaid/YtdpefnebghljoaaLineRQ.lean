/- The document's answers for lines (coachhouseref06), and two lists that are one, or not. -/
import Derived.Test.YtdpefnebghljoaaLineHQ
namespace Go.Proofs.Ytdpefnebghljoaa
open Go.RowKit Go.Shelf

theorem grown_step {w wr w1 : World} {B n : Nat} {e : TypeId} {v : Value} {xs : List Value} {o : Obj} (f : Fr [] w wr) (hown : wr.ownsRow B e 1 v n xs) (hB : w.heap.size ≤ B) (hg : (wr.alloc o).grownBy w1 v.ownBlock) : Fr [] w w1 :=
  (f.alloc o).grown hg (fun k hk => .inr (Nat.le_trans hB (hown.lt k hk).1))
theorem take_snocV {L : List Int} {k : Nat} {x : Int} (h : L[k]? = some x) : (L.map (Value.int .i64)).take k ++ [.int .i64 x] = (L.map (Value.int .i64)).take (k + 1) := by
  rw [List.take_add_one]; simp [h]
theorem take_snocI {L : List Int} {k : Nat} {x : Int} (h : L[k]? = some x) : L.take (k + 1) = L.take k ++ [x] := by
  rw [List.take_add_one, h]; rfl

/-- The digits up to the first 0. -/
def refF : Nat → Nat → List Int
  | 0, _ => []
  | f + 1, n => if n % 16 = 0 then [] else ((n : Int) % 16 - 1) :: refF f (n / 16)
theorem refF_enough : ∀ (f n : Nat), n < 16 ^ f → refF (f + 1) n = refF f n
  | 0, n, h => by simp at h; simp [refF, h]
  | f + 1, n, h => by
    rw [refF, show refF (f + 1) n = if n % 16 = 0 then [] else ((n : Int) % 16 - 1) :: refF f (n / 16) from rfl]
    split
    · rfl
    · rw [refF_enough f (n / 16) (by rw [Nat.div_lt_iff_lt_mul (by decide)]; rw [Nat.pow_succ] at h; omega)]
def refL (n : Nat) : List Int := refF 16 n
theorem refL_0 {n : Nat} (h : n % 16 = 0) : refL n = [] := by simp [refL, refF, h]
theorem refL_step {n : Nat} (h0 : n % 16 ≠ 0) (h : n < 16 ^ 16) : refL n = ((n : Int) % 16 - 1) :: refL (n / 16) := by
  unfold refL
  rw [refF, if_neg h0, refF_enough 15 (n / 16) (by omega)]
theorem length_refF : ∀ (f n : Nat), (refF f n).length ≤ f
  | 0, _ => by simp [refF]
  | f + 1, n => by
    rw [refF]; split
    · simp
    · have := length_refF f (n / 16); simp; omega
theorem length_refL (n : Nat) : (refL n).length ≤ 16 := length_refF 16 n
theorem refF_wd : ∀ (f : Nat) (L : List Int), L.length ≤ f → (∀ x ∈ L, 0 ≤ x ∧ x ≤ 14) → refF f (wd L) = L
  | 0, [], _, _ => rfl
  | f + 1, [], _, _ => by simp [refF, wd]
  | f + 1, x :: t, h, hx => by
    have h1 := hx x (List.mem_cons_self ..)
    rw [refF, wd, if_neg (by omega)]
    rw [show ((x + 1).toNat + 16 * wd t) / 16 = wd t by omega, refF_wd f t (by simpa using h) (fun y hy => hx y (List.mem_cons_of_mem _ hy))]
    congr 1
    omega
theorem refL_wd {L : List Int} (h : Ln L) : refL (wd L) = L := refF_wd 16 L (by have := h.length; omega) h.1
def refLi (q : Int) : List Int := if q < 0 then [] else refL q.toNat
theorem refLi_wd {L : List Int} (h : Ln L) : refLi (wd L : Int) = L := by unfold refLi; rw [if_neg (by omega), Int.toNat_natCast, refL_wd h]

set_option maxHeartbeats 800000 in
set_option maxRecDepth 100000 in
theorem ref_list_any (w : World) (q : Int) (h2 : q ≤ 9223372036854775807) : Calls Try.prog 14 #[.int .i64 q] w (IntsPost w (refLi q)) := by
  obtain ⟨i0, hi, hz0, hz1, hz2⟩ := info_parts round_info_int
  by_cases hq : q < 0
  · rw [show refLi q = [] from if_pos hq]
    go_enter Try.func14, Try.ntmps14
    go_wp2
    go_loopw [3, 0] (fun s i wr => s = .slice none 0 0 ∧ i = .int .i64 q ∧ wr = w) (fun _ _ _ => 0)
    case atStart => exact ⟨rfl, rfl, rfl⟩
    case round =>
      obtain ⟨rfl, rfl, rfl⟩ := hrel
      have hq1 : ¬ 0 < q := by omega
      go_wp2
      go_ret
      exact ⟨none, 0, rfl, IntsAt.empty _ _, Fr.refl _ _, Nat.le_refl _⟩
  · obtain ⟨n, rfl⟩ : ∃ n : Nat, q = (n : Int) := ⟨q.toNat, by omega⟩
    rw [show refLi (n : Int) = refL n by unfold refLi; rw [if_neg hq, Int.toNat_natCast]]
    obtain ⟨S, hS⟩ : ∃ S, S = refL n := ⟨_, rfl⟩
    have h16 := length_refL n
    rw [← hS] at h16 ⊢
    have HS := Lib.hid hS; clear hS hq
    have hn : n < 9223372036854775808 := by omega
    clear h2
    go_enter Try.func14, Try.ntmps14
    go_wp2
    go_loopw [3, 0] (fun s i wr => ∃ k m : Nat, k ≤ 16 ∧ m ≤ n ∧ i = .int .i64 (m : Int) ∧ S.drop k = refL m ∧ wr.ownsRow w.heap.size 3 1 s k ((S.map (Value.int .i64)).take k) ∧ Fr [] w wr) (fun _ i _ => (intOf i).toNat)
    case atStart => exact ⟨0, n, Nat.zero_le _, Nat.le_refl _, rfl, HS.out, World.ownsRow_nil _ _ _ _, Fr.refl _ _⟩
    case round =>
      obtain ⟨k, m, hk, hm, rfl, hd, hown, f⟩ := hrel
      have fs := f.size
      have HD := Lib.hid hd; clear hd
      by_cases h0 : m % 16 = 0
      · have hkS : S.take k = S := by
          have := HD.out
          rw [refL_0 h0] at this
          exact List.take_of_length_le (by have h2 := congrArg List.length this; simp at h2; omega)
        have hlk : S.length = k := by
          have h1 := hown.1
          simp only [List.length_take, List.length_map] at h1
          have h2 := congrArg List.length hkS
          rw [List.length_take] at h2
          omega
        have fin : IntsPost w S (.returned u3) wr := by
          refine ints_post (B := w.heap.size) ?_ f
          rw [hlk]
          have := hown
          rwa [← List.map_take, hkS] at this
        have FIN := Lib.hid fin; clear fin hown hkS hlk
        by_cases hm0 : m = 0
        · subst hm0
          go_wp2
          go_ret
          exact FIN.out
        · have h1 : (0 : Int) < (m : Int) := by omega
          have h3 : (m : Int) % 16 = 0 := by omega
          go_wp2
          go_ret
          exact FIN.out
      · have h1 : (0 : Int) < (m : Int) := by omega
        have h3 : (0 : Int) < (m : Int) % 16 := by omega
        have hst := refL_step h0 (show m < 16 ^ 16 by omega)
        have hx : S[k]? = some ((m : Int) % 16 - 1) := by
          have h2 : (S.drop k)[0]? = some ((m : Int) % 16 - 1) := by rw [HD.out, hst]; rfl
          simpa using h2
        have hkl := (List.getElem?_eq_some_iff.1 hx).1
        have HX := Lib.hid hx
        have HD2 := Lib.hid (show S.drop (k + 1) = refL (m / 16) by rw [← List.drop_drop, HD.out, hst]; rfl)
        clear hst hx h0
        go_wp2_with (first
          | (at_builtin; refine wpList_append_own _ rfl _ _ 26 rfl w.heap.size 3 i0 (.int .i64 0) 1 8 Try.underlying26 hi hz0 hz1 hz2 rfl (by decide) _ _ _ rfl (hown.alloc _) ⟨wr.heap.size, 0, none⟩ 1 1 [.int .i64 ((m : Int) % 16 - 1)] rfl rfl (cell_one_new _ _ _) (by simp [Value.oneCell']) (by unfold maxLen; omega) (by omega) (by simp; omega) ?_)
          | go_in)
        intro v' w1 hown' hgrow _
        rw [take_snocV HX.out] at hown'
        have f1 := grown_step f hown (Nat.le_refl _) hgrow
        have HW := Lib.hid hown'; clear hown'
        go_wp2
        go_roundw
        case rel => exact ⟨k + 1, m / 16, by omega, by omega, by go_num, HD2.out, HW.out, f1⟩
        case measure => simp [intOf]; omega

set_option maxHeartbeats 800000 in
set_option maxRecDepth 100000 in
theorem ref_has_any (w : World) (g : Option Addr) (c : Nat) (L : List Int) (who : Int) (ha : IntsAt w g L) :
    Calls Try.prog 11 #[.slice g L.length c, .int .i64 who] w fun e w' => e = .returned (.bool (decide (who ∈ L))) ∧ Fr [] w w' := by
  have hl := ha.1
  by_cases hn : L = []
  · subst hn
    go_enter Try.func11, Try.ntmps11
    go_wp2
    go_loopw [5] (fun i wr => i = .int .i64 0 ∧ wr = w) (fun _ _ => 0)
    case atStart => exact ⟨rfl, rfl⟩
    case round =>
      obtain ⟨rfl, rfl⟩ := hrel
      go_wp2
      go_ret
      exact ⟨rfl, Fr.refl _ _⟩
  · obtain ⟨ba, oa, rfl, hca⟩ := ha.base hn
    have Ha := Lib.hid hca; clear hca hn
    obtain ⟨len, hlen⟩ : ∃ n, n = L.length := ⟨_, rfl⟩
    rw [← hlen] at hl ⊢
    have HL := Lib.hid hlen; clear hlen ha
    go_enter Try.func11, Try.ntmps11
    go_wp2
    go_loopw [5] (fun i wr => ∃ k : Nat, k ≤ len ∧ i = .int .i64 (k : Int) ∧ (∀ (j : Nat) (y : Int), j < k → L[j]? = some y → y ≠ who) ∧ Fr [] w wr) (fun i _ => len - (intOf i).toNat)
    case atStart => exact ⟨0, Nat.zero_le _, rfl, fun j y h => by omega, Fr.refl _ _⟩
    case round =>
      obtain ⟨k, hk, rfl, hno, f⟩ := hrel
      have HNO := Lib.hid hno; clear hno
      by_cases hlt : k < len
      · have hx := getElem?_nat (L := L) (k := k) (by rw [← HL.out]; exact hlt)
        have ga := f.cell (Ha.out k _ hx) (by simp)
        generalize L.getD k 0 = x at ga hx
        have HX := Lib.hid hx
        clear hx
        have hlt' : (k : Int) < (len : Int) := by omega
        have hk0 : (0 : Int) ≤ (k : Int) := by omega
        by_cases he : x = who
        · subst he
          have hm := Lib.hid (List.mem_of_getElem? HX.out)
          go_wp2
          go_ret
          exact ⟨by rw [decide_eq_true hm.out]; rfl, f⟩
        · have HE := Lib.hid he
          go_wp2
          go_roundw
          case rel => exact ⟨k + 1, by omega, by go_num, fun j y hj hy => by
            rcases Nat.lt_or_ge j k with h | h
            · exact HNO.out j y h hy
            · obtain rfl : j = k := by omega
              rw [HX.out] at hy
              simp only [Option.some.injEq] at hy
              exact hy ▸ HE.out, f⟩
          case measure => simp [intOf]; omega
      · have hm := Lib.hid (not_mem_of_all (L := L) (k := k) (by rw [← HL.out]; omega) HNO.out)
        go_wp2
        go_ret
        exact ⟨by rw [decide_eq_false hm.out]; rfl, f⟩

/-- A list of the call's own. -/
def OwnPost (w : World) (L : List Int) (e : Ending) (w' : World) : Prop := ∃ v, e = .returned v ∧ w'.ownsRow w.heap.size 3 1 v L.length (L.map (Value.int .i64)) ∧ Fr [] w w'

set_option maxHeartbeats 800000 in
set_option maxRecDepth 100000 in
theorem ref_drop_own (w : World) (g : Option Addr) (c : Nat) (L : List Int) (who : Int) (hl : L.length ≤ 100000) (ha : IntsAt w g L) :
    Calls Try.prog 21 #[.slice g L.length c, .int .i64 who] w (OwnPost w (rm L who)) := by
  obtain ⟨i0, hi, hz0, hz1, hz2⟩ := info_parts round_info_int
  by_cases hn : L = []
  · subst hn
    go_enter Try.func21, Try.ntmps21
    go_wp2
    go_loopw [5, 6] (fun s i wr => s = .slice none 0 0 ∧ i = .int .i64 0 ∧ wr = w) (fun _ _ _ => 0)
    case atStart => exact ⟨rfl, rfl, rfl⟩
    case round =>
      obtain ⟨rfl, rfl, rfl⟩ := hrel
      go_wp2
      go_ret
      exact ⟨_, rfl, World.ownsRow_nil _ _ _ _, Fr.refl _ _⟩
  · obtain ⟨ba, oa, rfl, hca⟩ := ha.base hn
    have Ha := Lib.hid hca; clear hca hn
    obtain ⟨len, hlen⟩ : ∃ n, n = L.length := ⟨_, rfl⟩
    rw [← hlen] at hl ⊢
    have HL := Lib.hid hlen; clear hlen ha
    go_enter Try.func21, Try.ntmps21
    go_wp2
    go_loopw [5, 6] (fun s i wr => ∃ (k : Nat) (T : List Int), k ≤ len ∧ i = .int .i64 (k : Int) ∧ T = rm (L.take k) who ∧ T.length ≤ k ∧ wr.ownsRow w.heap.size 3 1 s T.length (T.map (Value.int .i64)) ∧ Fr [] w wr) (fun _ i _ => len - (intOf i).toNat)
    case atStart => exact ⟨0, [], Nat.zero_le _, rfl, rfl, Nat.le_refl _, World.ownsRow_nil _ _ _ _, Fr.refl _ _⟩
    case round =>
      obtain ⟨k, T, hk, rfl, hT, hTk, hown, f⟩ := hrel
      have fs := f.size
      have HT := Lib.hid hT; clear hT
      by_cases hlt : k < len
      · have hx := getElem?_nat (L := L) (k := k) (by rw [← HL.out]; exact hlt)
        have ga := f.cell (Ha.out k _ hx) (by simp)
        generalize L.getD k 0 = x at ga hx
        have HX := Lib.hid hx
        clear hx
        have hlt' : (k : Int) < (len : Int) := by omega
        have hk0 : (0 : Int) ≤ (k : Int) := by omega
        by_cases he : x = who
        · subst he
          go_wp2
          go_roundw
          case rel => exact ⟨k + 1, T, by omega, by go_num, by rw [List.take_add_one, HX.out, rm, List.filter_append, HT.out]; simp [rm], by omega, hown, f⟩
          case measure => simp [intOf]; omega
        · go_wp2_with (first
            | (at_builtin; refine wpList_append_own _ rfl _ _ 26 rfl w.heap.size 3 i0 (.int .i64 0) 1 8 Try.underlying26 hi hz0 hz1 hz2 rfl (by decide) _ _ _ rfl (hown.alloc _) ⟨wr.heap.size, 0, none⟩ 1 1 [.int .i64 x] rfl rfl (cell_one_new _ _ _) (by simp [Value.oneCell']) (by unfold maxLen; omega) (by omega) (by simp; omega) ?_)
            | go_in)
          intro v' w1 hown' hgrow _
          have f1 := grown_step f hown (Nat.le_refl _) hgrow
          have HW := Lib.hid hown'; clear hown'
          have HE := Lib.hid he; clear he
          go_wp2
          go_roundw
          case rel => exact ⟨k + 1, T ++ [x], by omega, by go_num, by rw [List.take_add_one, HX.out, rm, List.filter_append, HT.out]; simp [rm, HE.out], by simp; omega, by simpa using HW.out, f1⟩
          case measure => simp [intOf]; omega
      · have hkN : k = L.length := by rw [← HL.out]; omega
        have HW := Lib.hid hown; have HJ := Lib.hid hkN; clear hown hkN
        go_wp2
        go_ret
        have hw := HW.out
        have ht := HT.out
        rw [HJ.out, List.take_length] at ht
        rw [← ht]
        exact ⟨_, rfl, hw, f⟩
theorem ref_drop_any (w : World) (g : Option Addr) (c : Nat) (L : List Int) (who : Int) (hl : L.length ≤ 100000) (ha : IntsAt w g L) :
    Calls Try.prog 21 #[.slice g L.length c, .int .i64 who] w (IntsPost w (rm L who)) :=
  (ref_drop_own w g c L who hl ha).mono fun e w' ⟨v, he, hw, f⟩ => by subst he; exact ints_post hw f

set_option maxHeartbeats 800000 in
set_option maxRecDepth 100000 in
theorem ref_word_any (w : World) (g : Option Addr) (c : Nat) (L : List Int) (h : Ln L) (ha : IntsAt w g L) :
    Calls Try.prog 23 #[.slice g L.length c] w fun e w' => e = .returned (.int .i64 (wd L : Int)) ∧ Fr [] w w' := by
  have hl := h.length
  by_cases hn : L = []
  · subst hn
    go_enter Try.func23, Try.ntmps23
    go_wp2
    go_loopw [5, 3, 4] (fun i s p wr => i = .int .i64 0 ∧ s = .int .i64 0 ∧ p = .int .i64 1 ∧ wr = w) (fun _ _ _ _ => 0)
    case atStart => exact ⟨rfl, rfl, rfl, rfl⟩
    case round =>
      obtain ⟨rfl, rfl, rfl, rfl⟩ := hrel
      go_wp2
      go_ret
      exact ⟨rfl, Fr.refl _ _⟩
  · obtain ⟨ba, oa, rfl, hca⟩ := ha.base hn
    have Ha := Lib.hid hca; clear hca hn
    obtain ⟨len, hlen⟩ : ∃ n, n = L.length := ⟨_, rfl⟩
    obtain ⟨Z, hZ⟩ : ∃ Z, Z = wd L := ⟨_, rfl⟩
    rw [← hZ]
    rw [← hlen] at hl ⊢
    have HL := Lib.hid hlen; have HH := Lib.hid h; have HZ := Lib.hid hZ; clear hlen ha h hZ
    go_enter Try.func23, Try.ntmps23
    go_wp2
    go_loopw [5, 3, 4] (fun i s p wr => ∃ (k n P : Nat), k ≤ len ∧ i = .int .i64 (k : Int) ∧ s = .int .i64 (n : Int) ∧ p = .int .i64 (P : Int) ∧ n = wd (L.take k) ∧ P = 16 ^ k ∧ Fr [] w wr) (fun i _ _ _ => len - (intOf i).toNat)
    case atStart => exact ⟨0, 0, 1, Nat.zero_le _, rfl, rfl, rfl, rfl, rfl, Fr.refl _ _⟩
    case round =>
      obtain ⟨k, n, P, hk, rfl, rfl, rfl, hn, hP, f⟩ := hrel
      have hn1 := wd_lt (HH.out.take k)
      rw [← hn] at hn1
      have HN := Lib.hid hn; have HP := Lib.hid hP; clear hn hP
      by_cases hlt : k < len
      · have hx := getElem?_nat (L := L) (k := k) (by rw [← HL.out]; exact hlt)
        have ga := f.cell (Ha.out k _ hx) (by simp)
        generalize L.getD k 0 = x at ga hx
        have hx1 := HH.out.1 x (List.mem_of_getElem? hx)
        have hT := take_snocI hx
        have hwk : wd (L.take (k + 1)) = n + (x + 1).toNat * P := by
          rw [hT, wd_snoc, HN.out, HP.out, List.length_take]
          congr 3; have := HL.out; omega
        have hn2 := wd_lt (HH.out.take (k + 1))
        rw [hwk] at hn2
        have hP2 : P * 16 ≤ 1152921504606846976 := by
          have := HP.out
          have h2 := Nat.pow_le_pow_right (n := 16) (by decide) (show k + 1 ≤ 15 by omega)
          rw [Nat.pow_succ, ← this] at h2
          exact Nat.le_trans h2 (by decide)
        obtain ⟨d, hd⟩ : ∃ d : Nat, x + 1 = (d : Int) := ⟨(x + 1).toNat, by omega⟩
        rw [show (x + 1).toNat = d by omega] at hwk hn2
        obtain ⟨m, hm⟩ : ∃ m : Nat, m = d * P := ⟨_, rfl⟩
        rw [← hm] at hwk hn2
        have hdP : (d : Int) * (P : Int) = (m : Int) := by rw [hm]; exact (Int.natCast_mul ..).symm
        have HWK := Lib.hid hwk; clear hwk hT hx hm
        have hlt' : (k : Int) < (len : Int) := by omega
        have hk0 : (0 : Int) ≤ (k : Int) := by omega
        have hwx : IntKind.i64.wrap (x + 1) = (d : Int) := by rw [IntKind.wrap_i64]; omega
        go_wp2
        go_roundw
        case rel =>
          refine ⟨k + 1, n + m, P * 16, by omega, by go_num, ?_, ?_, HWK.out.symm, by rw [HP.out, Nat.pow_succ], f⟩
          · rw [Int.natCast_add]
          · rw [Int.natCast_mul]; rfl
        case measure => simp [intOf]; omega
      · have hkN : L.take k = L := List.take_of_length_le (by rw [← HL.out]; omega)
        have hfin : n = Z := by rw [HN.out, hkN, HZ.out]
        clear hkN
        subst hfin
        go_wp2
        go_ret
        exact ⟨rfl, f⟩

end Go.Proofs.Ytdpefnebghljoaa
