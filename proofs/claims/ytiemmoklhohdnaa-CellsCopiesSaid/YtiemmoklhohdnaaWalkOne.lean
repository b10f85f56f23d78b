/- The walk of 'CellsOne': it answers true, and turns nothing that was there. -/
import Derived.Test.YtiemmoklhohdnaaSome02
namespace Go.Proofs.Ytiemmoklhohdnaa
open Go.RowKit

theorem casB_own {L : List Int} {i : Int} (h : isIn L i = true) : casB L i (loadV L i) = true := by
  unfold casB loadV; rw [h]; simp
theorem casL_own {L : List Int} {i : Int} (h : isIn L i = true) (a : Int) : casL L i (loadV L i) a = L.set i.toNat a := by
  unfold casL; rw [casB_own h]; simp
theorem isIn_set {L : List Int} {i j a : Int} : isIn (L.set j.toNat a) i = isIn L i := by unfold isIn; simp
theorem isIn_nat {L : List Int} {i : Int} (h : isIn L i = true) : 0 ≤ i ∧ i.toNat < L.length := by
  unfold isIn at h; simp at h; omega
theorem loadV_set {L : List Int} {i : Int} (h : isIn L i = true) (a : Int) : loadV (L.set i.toNat a) i = a := by
  unfold loadV; rw [isIn_set, h, if_pos rfl]
  have := isIn_nat h
  simp [List.getD, this.2]
theorem casB_set {L : List Int} {i : Int} (h : isIn L i = true) (a o : Int) : casB (L.set i.toNat a) i o = decide (a = o) := by
  have := loadV_set h a
  unfold loadV at this
  rw [isIn_set, h, if_pos rfl] at this
  unfold casB; rw [isIn_set, h, this]; simp
theorem casL_no {L : List Int} {i o n : Int} (h : casB L i o = false) : casL L i o n = L := by unfold casL; rw [h]; simp

theorem isIn_mod (L : List Int) (at_ : Int) (hL : 0 < L.length) : isIn L (at_ % L.length) = true := by
  unfold isIn
  have h1 := Int.emod_nonneg at_ (show (L.length : Int) ≠ 0 by omega)
  have h2 := Int.emod_lt_of_pos at_ (show (0 : Int) < L.length by omega)
  simp; omega

set_option maxHeartbeats 1000000 in
theorem one_walk (w : World) (many : Int) (g : Option Addr) (c : Nat) (l : List OpV) (at_ a b : Int) (h0 : 0 ≤ many) (h1 : many ≤ 255) (ha0 : 0 ≤ at_) (ha1 : at_ ≤ 255) (hA : OpsAt w.heap.size w g l) (hl : l.length ≤ 9223372036854775807) :
    Calls Try.prog 5 #[.int .u8 many, .slice g l.length c, .int .u8 at_, .int .i64 a, .int .i64 b] w fun e w' => e = .returned (.bool true) ∧ Fr [] w w' := by
  have A := Lib.hid hA; clear hA
  go_enter Try.func5, Try.ntmps5
  go_wp2_with fail
  refine (awake_any w).mono ?_
  rintro e w1 ⟨rfl, f1⟩
  by_cases hlen : l.length ≤ 60
  · have hg : ¬ (60 : Int) < (l.length : Int) := by omega
    go_wp2_with fail
    refine (some_any w1 many g c l h0 h1 hlen (fun j o hj => ?_)).mono ?_
    · obtain ⟨x0, x1, b', f', hgg, hb', hc⟩ := (A.out.fr f1 (Nat.le_refl _) (by simp)) j o hj
      exact ⟨x0, x1, b', f', hgg, Nat.lt_of_lt_of_le hb' f1.size, hc⟩
    rintro e w2 ⟨p, q, rfl, hp, hq, hm, f2⟩
    have hL := length_runs l (List.replicate (1 + many % 100).toNat 0, 0)
    have ht := touched_runs l (List.replicate (1 + many % 100).toNat 0, 0)
    generalize runs l (List.replicate (1 + many % 100).toNat 0, 0) = s at hm hL ht
    obtain ⟨L, t⟩ := s
    simp only [List.length_replicate] at hL hm ht
    have hLp : 0 < L.length := by omega
    have ht0 : 0 ≤ t := ht.1
    have ht1 : t ≤ 60 := by omega
    have hin := isIn_mod L at_ hLp
    have HL := Lib.hid hL; clear hL ht
    have F2 := f1.trans f2
    go_wp2_with fail
    refine (many_any w2 p q L t hm).mono ?_
    rintro e w' ⟨rfl, rfl⟩
    go_wp2_with fail
    generalize at_ % (L.length : Int) = i at hin ⊢
    refine (load_any w2 p q L t i hm ht0 (by omega)).mono ?_
    rintro e w3 ⟨rfl, hm3, f3⟩
    have F3 := F2.then2 f3 (Nat.le_trans f1.size hp) (Nat.le_trans f1.size hq)
    have hT := tch_0 L i
    have c1 := casB_own hin
    have c2 := casL_own hin a
    have c3 := casB_set hin a (loadV L i)
    have c4 := loadV_set hin a
    generalize loadV L i = v at c1 c2 c3 ⊢
    by_cases hav : a = v
    · subst hav
      clear c1 c2 c3 c4
      go_wp2
      go_ret
      exact ⟨rfl, F3⟩
    · have hne : (a == v) = false := by simpa using hav
      rw [decide_eq_false hav] at c3
      have C1 := Lib.hid c1; have C2 := Lib.hid c2; have C3 := Lib.hid c3; have C4 := Lib.hid c4; clear c1 c2 c3 c4
      go_wp2_with fail
      refine (cas_any w3 p q L _ i v a hm3 (by omega) (by omega)).mono ?_
      rintro e w4 ⟨he, hm4, f4⟩
      rw [C1.out] at he; subst he
      rw [C2.out] at hm4
      have F4 := F3.then2 f4 (Nat.le_trans f1.size hp) (Nat.le_trans f1.size hq)
      go_wp2_with fail
      refine (cas_any w4 p q _ _ i v b hm4 (by omega) (by omega)).mono ?_
      rintro e w5 ⟨he, hm5, f5⟩
      rw [C3.out] at he; subst he
      rw [casL_no C3.out] at hm5
      have F5 := F4.then2 f5 (Nat.le_trans f1.size hp) (Nat.le_trans f1.size hq)
      have hT' := tch_0 (L.set i.toNat a) i
      go_wp2_with fail
      refine (load_any w5 p q _ _ i hm5 (by omega) (by omega)).mono ?_
      rintro e w6 ⟨he, hm6, f6⟩
      rw [C4.out] at he; subst he
      have F6 := F5.then2 f6 (Nat.le_trans f1.size hp) (Nat.le_trans f1.size hq)
      go_wp2
      go_ret
      exact ⟨rfl, F6⟩
  · have hg : (60 : Int) < (l.length : Int) := by omega
    go_wp2
    go_ret
    exact ⟨rfl, f1⟩

end Go.Proofs.Ytiemmoklhohdnaa
