/- The walk of 'CellsLast'. -/
import Derived.Test.YtiemmoklhohdnaaWalkOne
namespace Go.Proofs.Ytiemmoklhohdnaa
open Go.RowKit

theorem getD_set_other {L : List Int} {i j : Int} (hi : 0 ≤ i) (hj : 0 ≤ j) (h : j ≠ i) (x : Int) : (L.set j.toNat x).getD i.toNat 0 = L.getD i.toNat 0 := by
  have : j.toNat ≠ i.toNat := by omega
  simp [List.getD, this]
theorem loadV_set_other {L : List Int} {i j : Int} (hi : 0 ≤ i) (hj : 0 ≤ j) (h : j ≠ i) (x : Int) : loadV (L.set j.toNat x) i = loadV L i := by
  unfold loadV; rw [isIn_set, getD_set_other hi hj h]
theorem isIn_nonneg {L : List Int} {i : Int} (h : isIn L i = true) : 0 ≤ i := (isIn_nat h).1
theorem loadV_next {L : List Int} {i : Int} (hi : 0 ≤ i) (o : OpV) (h : o.i ≠ i) : loadV (opNext o L) i = loadV L i := by
  unfold opNext
  split
  · unfold storeL
    split
    · exact loadV_set_other hi (isIn_nonneg ‹_›) h _
    · rfl
  · split
    · unfold casL
      split
      · rename_i hc
        have : isIn L o.i = true := by unfold casB at hc; simp at hc; exact hc.1
        exact loadV_set_other hi (isIn_nonneg this) h _
      · rfl
    · split
      · unfold addL
        split
        · exact loadV_set_other hi (isIn_nonneg ‹_›) h _
        · rfl
      · rfl
theorem isIn_len {L M : List Int} (h : L.length = M.length) (i : Int) : isIn L i = isIn M i := by unfold isIn; rw [h]
theorem casB_of_load {L : List Int} {i v : Int} (h : isIn L i = true) (hv : loadV L i = v) : casB L i v = true := by rw [← hv]; exact casB_own h

def LastInv (w : World) (p q : Nat) (i v : Int) (k : Nat) (wr : World) : Prop :=
  ∃ (L : List Int) (T : Int), 0 ≤ T ∧ T ≤ 61 + k ∧ isIn L i = true ∧ loadV L i = v ∧ MemAt 53 wr p q L T ∧ Fr [] w wr

set_option maxHeartbeats 2000000 in
theorem last_walk (w : World) (many : Int) (g gk : Option Addr) (c ck : Nat) (l m : List OpV) (at_ v : Int) (h0 : 0 ≤ many) (h1 : many ≤ 255) (ha0 : 0 ≤ at_) (ha1 : at_ ≤ 255) (hA : OpsAt w.heap.size w g l) (hl : l.length ≤ 9223372036854775807)
    (hK : OpsAt w.heap.size w gk m) (hlm : m.length ≤ 9223372036854775807) :
    Calls Try.prog 8 #[.int .u8 many, .slice g l.length c, .slice gk m.length ck, .int .u8 at_, .int .i64 v] w fun e w' => e = .returned (.bool true) ∧ Fr [] w w' := by
  have A := Lib.hid hA; clear hA
  have AK := Lib.hid hK; clear hK
  obtain ⟨len, hlen⟩ : ∃ n, n = m.length := ⟨_, rfl⟩
  rw [← hlen] at hlm ⊢
  have HL := Lib.hid hlen; clear hlen
  go_enter Try.func8, Try.ntmps8
  go_wp2_with fail
  refine (awake_any w).mono ?_
  rintro e w1 ⟨rfl, f1⟩
  by_cases hl60 : l.length ≤ 60
  · have hg : decide ((60 : Int) < (l.length : Int)) = false := by simp; omega
    by_cases hm60 : len ≤ 60
    · have hg2 : decide ((60 : Int) < (len : Int)) = false := by simp; omega
      go_wp2_with fail
      refine (some_any w1 many g c l h0 h1 hl60 (fun j o hj => ?_)).mono ?_
      · obtain ⟨x0, x1, b', f', hgg, hb', hc⟩ := (A.out.fr f1 (Nat.le_refl _) (by simp)) j o hj
        exact ⟨x0, x1, b', f', hgg, Nat.lt_of_lt_of_le hb' f1.size, hc⟩
      rintro e w2 ⟨p, q, rfl, hp, hq, hm, f2⟩
      have hL := length_runs l (List.replicate (1 + many % 100).toNat 0, 0)
      have ht := touched_runs l (List.replicate (1 + many % 100).toNat 0, 0)
      generalize runs l (List.replicate (1 + many % 100).toNat 0, 0) = s at hm hL ht
      obtain ⟨L, t⟩ := s
      simp only [List.length_replicate] at hL hm ht
      have hLp : 0 < L.length := by omega
      have ht0 : 0 ≤ t := ht.1
      have ht1 : t ≤ 60 := by omega
      have hin := isIn_mod L at_ hLp
      have HLn := Lib.hid hL; clear hL ht
      have F2 := f1.trans f2
      have hp0 : w.heap.size ≤ p := Nat.le_trans f1.size hp
      have hq0 : w.heap.size ≤ q := Nat.le_trans f1.size hq
      go_wp2_with fail
      refine (many_any w2 p q L t hm).mono ?_
      rintro e w' ⟨rfl, rfl⟩
      go_wp2_with fail
      generalize at_ % (L.length : Int) = i at hin ⊢
      have hi0 := isIn_nonneg hin
      refine (store_any w2 p q L t i v hm ht0 (by omega)).mono ?_
      rintro e w3 ⟨he, hm3, f3⟩
      rw [hin] at he; subst he
      have F3 := F2.then2 f3 hp0 hq0
      have hI : LastInv w p q i v 0 w3 := by
        have e1 : storeL L i v = L.set i.toNat v := by unfold storeL; rw [hin, if_pos rfl]
        rw [e1] at hm3
        have := tch_0 L i
        exact ⟨_, _, by omega, by omega, by rw [isIn_set]; exact hin, loadV_set hin v, hm3, F3⟩
      clear hm3 hm hin
      go_wp2_with fail
      go_loopw [15] (fun j wr => ∃ (k : Nat), k ≤ len ∧ j = .int .i64 k ∧ LastInv w p q i v k wr) (fun j _ => len - (intOf j).toNat)
      case atStart => exact ⟨0, Nat.zero_le _, rfl, hI⟩
      case round =>
        obtain ⟨k, hk, rfl, L', T, hT0, hT1, hin', hv', hmr, fr⟩ := hrel
        by_cases hlt : k < len
        · obtain ⟨o, hget⟩ : ∃ o, m[k]? = some o := ⟨_, List.getElem?_eq_getElem (by have := HL.out; omega)⟩
          obtain ⟨o0, o1, b, f, rfl, hb, c0, c1, c2, c3⟩ := (AK.out.fr fr (Nat.le_refl _) (by simp)) k o hget
          have HV := Lib.hid hv'; clear hv'
          have HIN := Lib.hid hin'; clear hin'
          have HG := Lib.hid hget; clear hget
          have hlt' : (k : Int) < (len : Int) := by omega
          have hk0 : (0 : Int) ≤ (k : Int) := by omega
          by_cases hoi : o.i = i
          · have hne : (o.i != i) = false := by simpa using hoi
            have HO := Lib.hid hoi; clear hoi
            have hI' : LastInv w p q i v (k + 1) wr := ⟨L', T, hT0, by omega, HIN.out, HV.out, hmr, fr⟩
            go_wp2_with fail
            go_roundw
            case rel => exact ⟨k + 1, by omega, by go_num, hI'⟩
            case measure => simp [intOf]; omega
          · have hne : (o.i != i) = true := by simpa using hoi
            have HO := Lib.hid hoi; clear hoi
            go_wp2_with fail
            refine (do_any wr p q L' T o hmr hT0 (by omega) o0).mono ?_
            rintro e w4 ⟨rfl, hm4, f4⟩
            have hI' : LastInv w p q i v (k + 1) w4 := by
              have := opTch_0 o L'
              refine ⟨_, _, by omega, by omega, ?_, ?_, hm4, fr.then2 f4 hp0 hq0⟩
              · rw [isIn_len (length_opNext o L')]; exact HIN.out
              · rw [loadV_next hi0 o HO.out]; exact HV.out
            go_wp2_with fail
            go_roundw
            case rel => exact ⟨k + 1, by omega, by go_num, hI'⟩
            case measure => simp [intOf]; omega
        · have hge : ¬ (k : Int) < (len : Int) := by omega
          have hcas := casB_of_load hin' hv'
          have HV := Lib.hid hv'; clear hv'
          have HC := Lib.hid hcas; clear hcas
          clear hin'
          go_wp2_with fail
          refine (load_any wr p q L' T i hmr hT0 (by omega)).mono ?_
          rintro e w4 ⟨he, hm4, f4⟩
          rw [HV.out] at he; subst he
          have F4 := fr.then2 f4 hp0 hq0
          have ht := tch_0 L' i
          go_wp2_with fail
          refine (cas_any w4 p q L' _ i v v hm4 (by omega) (by omega)).mono ?_
          rintro e w5 ⟨he, hm5, f5⟩
          rw [HC.out] at he; subst he
          have F5 := F4.then2 f5 hp0 hq0
          go_wp2
          go_ret
          exact ⟨rfl, F5⟩
    · have hg2 : decide ((60 : Int) < (len : Int)) = true := by simp; omega
      go_wp2
      go_ret
      exact ⟨rfl, f1⟩
  · have hg : decide ((60 : Int) < (l.length : Int)) = true := by simp; omega
    go_wp2
    go_ret
    exact ⟨rfl, f1⟩

end Go.Proofs.Ytiemmoklhohdnaa
