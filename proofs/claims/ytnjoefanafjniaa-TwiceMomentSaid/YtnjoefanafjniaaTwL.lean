/- Memory with words (laid). -/
import Derived.Test.YtnjoefanafjniaaTwM
namespace Go.Proofs.Ytnjoefanafjniaa
open Go.RowKit

/-- The first k words, and zeros behind them. -/
def laidK (L : List Int) (n k : Nat) : List Int := L.take k ++ List.replicate (n - k) 0
theorem length_laidK {L : List Int} {n k : Nat} (hk : k ≤ L.length) (hn : L.length ≤ n) : (laidK L n k).length = n := by simp [laidK]; omega
theorem laidK_zero (L : List Int) (n : Nat) : laidK L n 0 = List.replicate n 0 := by simp [laidK]
theorem laidK_all {L : List Int} {n : Nat} (hn : L.length = n) : laidK L n L.length = L := by unfold laidK; rw [hn, Nat.sub_self, List.replicate_zero, List.append_nil, List.take_of_length_le (by omega)]
theorem laidK_set {L : List Int} {n k : Nat} {x : Int} (hx : L[k]? = some x) (hn : L.length ≤ n) : (laidK L n k).set k x = laidK L n (k + 1) := by
  have hk : k < L.length := (List.getElem?_eq_some_iff.1 hx).1
  have hlt : (L.take k).length = k := by rw [List.length_take]; omega
  unfold laidK
  rw [List.take_add_one, hx, show n - k = (n - (k + 1)) + 1 by omega, List.replicate_succ, List.set_append_right _ _ (by omega), hlt, Nat.sub_self, List.set_cons_zero]
  simp

/-- What laid leaves. -/
def LaidPost (w : World) (n : Nat) (L : List Int) (e : Ending) (w' : World) : Prop := ∃ p q, e = .returned (.pointer (some ⟨p, 0, none⟩)) ∧ w.heap.size ≤ p ∧ w.heap.size ≤ q ∧ MemAt 78 w' p q (laidK L n L.length) L.length ∧ Fr [] w w'

set_option maxHeartbeats 2000000 in
theorem laid_any (w : World) (c : ConfV) (n : Nat) (g : Option Addr) (cap : Nat) (L : List Int) (hc : c.small) (hn : c.cells = (n : Int)) (hL : L.length ≤ n) (hI : IntsAt w g L) :
    Calls Try.prog 10 #[c.val, .slice g L.length cap] w (LaidPost w n L) := by
  have hn2 : n ≤ 100 := by have := hc.1; have := hc.2.1; unfold ConfV.cells at hn; omega
  have hM := Lib.hid (fun W : World => cmem_any W c hc)
  rw [hn, Int.toNat_natCast] at hM
  have HI := Lib.hid hI
  obtain ⟨len, hlen⟩ : ∃ len, len = L.length := ⟨_, rfl⟩
  rw [← hlen] at hL ⊢
  have HLEN := Lib.hid hlen
  clear hI hlen hn hc
  obtain ⟨wo, sl, st, wa, us⟩ := c
  unfold ConfV.val at hM ⊢
  simp only at hM
  have HF := Lib.hid ((Fr.refl [] w).alloc (.cells #[.int .i64 wo, .int .i64 sl, .int .i64 st, .int .i64 wa, .int .i64 us] 31))
  go_enter Try.func10, Try.ntmps10
  go_wp2_with fail
  refine (hM.out _).mono ?_
  rintro e w1 ⟨p, q, rfl, hp, hq, hm, f1⟩
  rw [World.size_alloc] at hp hq
  have F1 := HF.out.trans f1
  rw [← laidK_zero L n] at hm
  have HM1 := Lib.hid hm; have HF1 := Lib.hid F1
  clear hm f1 F1
  go_wp2_with fail
  go_loopw [7] (fun i wr => ∃ k : Nat, k ≤ len ∧ i = .int .i64 (k : Int) ∧ MemAt 78 wr p q (laidK L n k) k ∧ Fr [] w wr) (fun i _ => len - (intOf i).toNat)
  case atStart => exact ⟨0, Nat.zero_le _, rfl, HM1.out, HF1.out⟩
  case round =>
    obtain ⟨k, hk, rfl, hm, f⟩ := hrel
    have HM := Lib.hid hm; have HFR := Lib.hid f; clear hm f
    by_cases hlt : k < len
    · have hx := getElem?_nat (L := L) (k := k) (by rw [← HLEN.out]; exact hlt)
      generalize L.getD k 0 = x at hx
      obtain ⟨b, o, rfl, hcell⟩ := HI.out.base (by intro e; rw [e] at hx; simp at hx)
      have ga := HFR.out.cell (hcell k x hx) (by simp)
      have hlk := length_laidK (L := L) (n := n) (k := k) (by have := HLEN.out; omega) (by have := HLEN.out; omega)
      have hin : isIn (laidK L n k) (k : Int) = true := isIn_yes (by omega) (by rw [hlk]; omega)
      have hst : storeL (laidK L n k) (k : Int) x = laidK L n (k + 1) := by unfold storeL; rw [if_pos hin, Int.toNat_natCast, laidK_set hx (by have := HLEN.out; omega)]
      have htc : tch (laidK L n k) (k : Int) = 1 := by unfold tch; rw [if_pos hin]
      have hS := store_any wr p q (laidK L n k) k k x HM.out (by omega) (by omega)
      rw [hst, htc] at hS
      have HS := Lib.hid hS
      have hlt' : (k : Int) < (len : Int) := by omega
      have hk0 : (0 : Int) ≤ (k : Int) := by omega
      clear hx hcell hlk hin hst htc hS
      go_wp2_with fail
      refine HS.out.mono ?_
      rintro e w2 ⟨rfl, hm2, f2⟩
      have F2 := Lib.hid (HFR.out.then2 f2 (by omega) (by omega))
      have HM2 := Lib.hid hm2
      clear hm2 f2
      go_wp2
      go_roundw
      case rel => exact ⟨k + 1, by omega, by go_num, by have := HM2.out; exact this, F2.out⟩
      case measure => simp [intOf]; omega
    · have hkl : k = L.length := by have := HLEN.out; omega
      have HP := Lib.hid (show LaidPost w n L (.returned (.pointer (some ⟨p, 0, none⟩))) wr from ⟨p, q, rfl, by omega, by omega, by have := HM.out; rw [hkl] at this; exact this, HFR.out⟩)
      clear hkl
      go_wp2
      go_ret
      exact HP.out

end Go.Proofs.Ytnjoefanafjniaa
