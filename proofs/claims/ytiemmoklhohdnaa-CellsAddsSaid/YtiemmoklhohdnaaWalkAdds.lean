/- The walk of 'CellsAdds'. -/
import Derived.Test.YtiemmoklhohdnaaAwake02
namespace Go.Proofs.Ytiemmoklhohdnaa
open Go.RowKit

theorem adds_load (S : Int) : loadV [S] 0 = S := by simp [loadV, isIn]
theorem adds_add (S x : Int) : addL [S] 0 x = [wrap64 (S + x)] := by simp [addL, isIn]

set_option maxHeartbeats 1000000 in
theorem adds_walk (w : World) (g : Option Addr) (c : Nat) (l : List Int) (hA : IntsAt w g l) :
    Calls Try.prog 3 #[.slice g l.length c] w fun e w' => e = .returned (.bool true) ∧ Fr [] w w' := by
  have hl := hA.1
  have A := Lib.hid hA; clear hA
  obtain ⟨len, hlen⟩ : ∃ n, n = l.length := ⟨_, rfl⟩
  rw [← hlen] at hl ⊢
  have HL := Lib.hid hlen; clear hlen
  go_enter Try.func3, Try.ntmps3
  go_wp2_with fail
  refine (awake_any w).mono ?_
  rintro e w1 ⟨rfl, f1⟩
  go_wp2_with fail
  refine (new_any 1 w1 (by omega) (by omega)).mono ?_
  rintro e w2 ⟨p, q, rfl, hp, hq, hm, f2⟩
  have F2 := f1.trans f2
  have hp0 : w.heap.size ≤ p := Nat.le_trans f1.size hp
  have hq0 : w.heap.size ≤ q := Nat.le_trans f1.size hq
  rw [show List.replicate (Int.toNat 1) (0 : Int) = [0] from rfl] at hm
  by_cases h60 : len ≤ 60
  · have hg : ¬ (60 : Int) < (len : Int) := by omega
    go_wp2
    go_loopw [6, 7] (fun s i wr => ∃ (k : Nat) (S T : Int), k ≤ len ∧ i = .int .i64 k ∧ s = .int .i64 S ∧ 0 ≤ T ∧ T ≤ k ∧ MemAt 53 wr p q [S] T ∧ Fr [] w wr) (fun _ i _ => len - (intOf i).toNat)
    case atStart => exact ⟨0, 0, 0, Nat.zero_le _, rfl, rfl, by omega, by omega, hm, F2⟩
    case round =>
      obtain ⟨k, S, T, hk, rfl, rfl, hT0, hT1, hmr, fr⟩ := hrel
      by_cases hlt : k < len
      · obtain ⟨x, hx⟩ : ∃ x, l[k]? = some x := ⟨_, List.getElem?_eq_getElem (by have := HL.out; omega)⟩
        obtain ⟨b, o, rfl, hc⟩ := (A.out.fr fr (by simp)).2 k x hx
        have HX := Lib.hid hx; clear hx
        have hlt' : (k : Int) < (len : Int) := by omega
        go_wp2_with fail
        refine (add_any wr p q [S] T 0 x hmr hT0 (by omega)).mono ?_
        rintro e w3 ⟨he, hm3, f3⟩
        rw [adds_load] at he; subst he
        rw [adds_add] at hm3
        have ht := tch_0 [S] 0
        have F3 := fr.then2 f3 hp0 hq0
        have hc3 : w3.cell? ⟨b, o + k, none⟩ = some (.int .i64 x) := by
          obtain ⟨b', o', hg', hc'⟩ := (A.out.fr F3 (by simp)).2 k x HX.out
          simp only [Option.some.injEq, Addr.mk.injEq, and_true] at hg'
          obtain ⟨rfl, rfl⟩ := hg'
          exact hc'
        go_wp2
        go_roundw
        case rel => exact ⟨k + 1, _, _, by omega, by go_num, rfl, by omega, by omega, hm3, F3⟩
        case measure => simp [intOf]; omega
      · have hge : ¬ (k : Int) < (len : Int) := by omega
        go_wp2_with fail
        refine (load_any wr p q [S] T 0 hmr hT0 (by omega)).mono ?_
        rintro e w3 ⟨he, hm3, f3⟩
        rw [adds_load] at he; subst he
        have F3 := fr.then2 f3 hp0 hq0
        go_wp2
        go_ret
        exact ⟨rfl, F3⟩
  · have hg : (60 : Int) < (len : Int) := by omega
    go_wp2
    go_ret
    exact ⟨rfl, F2⟩

end Go.Proofs.Ytiemmoklhohdnaa
