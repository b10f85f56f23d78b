/- coachhouseref13.Same: two scripts: whether they are one. -/
import Derived.Test.YtphnjgkaapfocaaEntH
import Derived.Laws.StructEq
import Derived.Deep.RegionHeld3
namespace Go.Proofs.Ytphnjgkaapfocaa
open Go.RowKit

theorem getE {L : List EntV} {k : Nat} (h : k < L.length) : ∃ x, L[k]? = some x := ⟨_, List.getElem?_eq_getElem h⟩

set_option maxHeartbeats 4000000 in
theorem same_any (w : World) (g h : Option Addr) (c d : Nat) (L M : List EntV) (ha : EntsAt w g L) (hb : EntsAt w h M) :
    Calls Try.prog 16 #[.slice g L.length c, .slice h M.length d] w fun e w' => e = .returned (.bool (decide (L = M))) ∧ Fr [] w w' := by
  have hl := ha.1
  have hm := hb.1
  by_cases hlen : L.length = M.length
  · rw [← hlen]
    have HA := Lib.hid ha; have HB := Lib.hid hb
    clear hm ha hb
    obtain ⟨len, hl2⟩ : ∃ n, n = L.length := ⟨_, rfl⟩
    rw [← hl2] at hl hlen ⊢
    have HL := Lib.hid hl2; have HL2 := Lib.hid hlen; clear hl2 hlen
    obtain ⟨r, hr⟩ : ∃ r, decide (L = M) = r := ⟨_, rfl⟩
    have HR := Lib.hid hr
    rw [hr]
    clear hr
    go_enter Try.func16, Try.ntmps16
    go_wp2
    go_loopw [5] (fun i wr => ∃ k n : Nat, k ≤ len ∧ i = .int .i64 k ∧ wr = w.drewN n ∧ L.take k = M.take k) (fun i _ => len - (intOf i).toNat)
    case atStart => exact ⟨0, 0, Nat.zero_le _, rfl, rfl, rfl⟩
    case round =>
      obtain ⟨k, n, hk, rfl, rfl, hT⟩ := hrel
      have HT := Lib.hid hT; clear hT
      by_cases hlt : k < len
      · obtain ⟨x, hx⟩ := getE (L := L) (k := k) (by rw [← HL.out]; exact hlt)
        obtain ⟨y, hy⟩ := getE (L := M) (k := k) (by rw [← HL2.out]; exact hlt)
        obtain ⟨ba, oa, rfl, hca⟩ := HA.out.base (by intro e; rw [e] at hx; simp at hx)
        obtain ⟨bb, ob, rfl, hcb⟩ := HB.out.base (by intro e; rw [e] at hy; simp at hy)
        obtain ⟨x0, x1, x2, x3, x4, x5, x6, x7, x8, x9, x10⟩ := (EntCells.of (hca k x hx))
        obtain ⟨y0, y1, y2, y3, y4, y5, y6, y7, y8, y9, y10⟩ := (EntCells.of (hcb k y hy))
        have HX := Lib.hid hx; have HY := Lib.hid hy; clear hx hy hca hcb
        have hlt' : (k : Int) < (len : Int) := by omega
        have hk0 : (0 : Int) ≤ (k : Int) := by omega
        go_wp2_with fail
        refine wp_region_held_drew (S := fun w' => w'.cell? ⟨ba, oa + k * 11, none⟩ = some (.int .i64 x.kind) ∧ w'.cell? ⟨ba, oa + k * 11 + 1, none⟩ = some (.int .i64 x.who) ∧ w'.cell? ⟨ba, oa + k * 11 + 2, none⟩ = some (.int .i64 x.op) ∧ w'.cell? ⟨ba, oa + k * 11 + 3, none⟩ = some (.int .i64 x.dl) ∧ w'.cell? ⟨ba, oa + k * 11 + 4, none⟩ = some (.bool x.wait) ∧ w'.cell? ⟨ba, oa + k * 11 + 5, none⟩ = some (.bool x.force) ∧ w'.cell? ⟨ba, oa + k * 11 + 6, none⟩ = some (.int .i64 x.slot) ∧ w'.cell? ⟨ba, oa + k * 11 + 7, none⟩ = some (.int .i64 x.gen) ∧ w'.cell? ⟨ba, oa + k * 11 + 8, none⟩ = some (.int .i64 x.stream) ∧ w'.cell? ⟨ba, oa + k * 11 + 9, none⟩ = some (.int .i64 x.n) ∧ w'.cell? ⟨ba, oa + k * 11 + 10, none⟩ = some (.bool x.good) ∧ w'.cell? ⟨bb, ob + k * 11, none⟩ = some (.int .i64 y.kind) ∧ w'.cell? ⟨bb, ob + k * 11 + 1, none⟩ = some (.int .i64 y.who) ∧ w'.cell? ⟨bb, ob + k * 11 + 2, none⟩ = some (.int .i64 y.op) ∧ w'.cell? ⟨bb, ob + k * 11 + 3, none⟩ = some (.int .i64 y.dl) ∧ w'.cell? ⟨bb, ob + k * 11 + 4, none⟩ = some (.bool y.wait) ∧ w'.cell? ⟨bb, ob + k * 11 + 5, none⟩ = some (.bool y.force) ∧ w'.cell? ⟨bb, ob + k * 11 + 6, none⟩ = some (.int .i64 y.slot) ∧ w'.cell? ⟨bb, ob + k * 11 + 7, none⟩ = some (.int .i64 y.gen) ∧ w'.cell? ⟨bb, ob + k * 11 + 8, none⟩ = some (.int .i64 y.stream) ∧ w'.cell? ⟨bb, ob + k * 11 + 9, none⟩ = some (.int .i64 y.n) ∧ w'.cell? ⟨bb, ob + k * 11 + 10, none⟩ = some (.bool y.good)) (by kernel_rfl) ⟨x0, x1, x2, x3, x4, x5, x6, x7, x8, x9, x10, y0, y1, y2, y3, y4, y5, y6, y7, y8, y9, y10⟩ (fun hHeld => ?_)
        refine wpAnyH_take (i := 0) (oi := _) (v := ?_) rfl (by kernel_rfl) (by kernel_rfl) (by kernel_rfl) (fun _ _ _ h => h) (Or.inl ⟨by rfl, ?_⟩) (by assumption) ?_
        rotate_left
        · intro w hSw
          try dsimp only at hSw
          try simp only [List.getElem_toArray, List.getElem_cons_zero]
          go_split_ands
          go_simp
          try with_reducible rfl
        try simp only [Act.put, List.getElem_toArray, List.getElem_cons_zero, List.setIfInBounds_toArray, List.set_cons_zero, List.set_cons_succ]
        refine wpAnyH_take (i := 1) (oi := _) (v := ?_) rfl (by kernel_rfl) (by kernel_rfl) (by kernel_rfl) (fun _ _ _ h => h) (Or.inl ⟨by rfl, ?_⟩) (by assumption) ?_
        rotate_left
        · intro w hSw
          try dsimp only at hSw
          try simp only [List.getElem_toArray, List.getElem_cons_succ, List.getElem_cons_zero]
          go_split_ands
          go_simp
          try with_reducible rfl
        try simp only [Act.put, List.getElem_toArray, List.getElem_cons_succ, List.getElem_cons_zero, List.setIfInBounds_toArray, List.set_cons_zero, List.set_cons_succ]
        refine wpAnyH_take (i := 2) (oi := _) (v := ?_) rfl (by kernel_rfl) (by kernel_rfl) (by kernel_rfl) (fun _ _ _ h => h) (Or.inl ⟨by rfl, ?_⟩) (by assumption) ?_
        rotate_left
        · intro w hSw
          try dsimp only at hSw
          try simp only [List.getElem_toArray, List.getElem_cons_succ, List.getElem_cons_zero]
          go_split_ands
          go_simp
          try with_reducible rfl
        try simp only [Act.put, List.getElem_toArray, List.getElem_cons_succ, List.getElem_cons_zero, List.setIfInBounds_toArray, List.set_cons_zero, List.set_cons_succ]
        refine wpAnyH_take (i := 3) (oi := _) (v := ?_) rfl (by kernel_rfl) (by kernel_rfl) (by kernel_rfl) (fun _ _ _ h => h) (Or.inl ⟨by rfl, ?_⟩) (by assumption) ?_
        rotate_left
        · intro w hSw
          try dsimp only at hSw
          try simp only [List.getElem_toArray, List.getElem_cons_succ, List.getElem_cons_zero]
          go_split_ands
          go_simp
          try with_reducible rfl
        try simp only [Act.put, List.getElem_toArray, List.getElem_cons_succ, List.getElem_cons_zero, List.setIfInBounds_toArray, List.set_cons_zero, List.set_cons_succ]
        refine wpAnyH_take (i := 4) (oi := _) (v := ?_) rfl (by kernel_rfl) (by kernel_rfl) (by kernel_rfl) (fun _ _ _ h => h) (Or.inl ⟨by rfl, ?_⟩) (by assumption) ?_
        rotate_left
        · intro w hSw
          try dsimp only at hSw
          try simp only [List.getElem_toArray, List.getElem_cons_succ, List.getElem_cons_zero]
          go_split_ands
          go_simp
          try with_reducible rfl
        try simp only [Act.put, List.getElem_toArray, List.getElem_cons_succ, List.getElem_cons_zero, List.setIfInBounds_toArray, List.set_cons_zero, List.set_cons_succ]
        refine wpAnyH_take (i := 5) (oi := _) (v := ?_) rfl (by kernel_rfl) (by kernel_rfl) (by kernel_rfl) (fun _ _ _ h => h) (Or.inl ⟨by rfl, ?_⟩) (by assumption) ?_
        rotate_left
        · intro w hSw
          try dsimp only at hSw
          try simp only [List.getElem_toArray, List.getElem_cons_succ, List.getElem_cons_zero]
          go_split_ands
          go_simp
          try with_reducible rfl
        try simp only [Act.put, List.getElem_toArray, List.getElem_cons_succ, List.getElem_cons_zero, List.setIfInBounds_toArray, List.set_cons_zero, List.set_cons_succ]
        refine wpAnyH_take (i := 6) (oi := _) (v := ?_) rfl (by kernel_rfl) (by kernel_rfl) (by kernel_rfl) (fun _ _ _ h => h) (Or.inl ⟨by rfl, ?_⟩) (by assumption) ?_
        rotate_left
        · intro w hSw
          try dsimp only at hSw
          try simp only [List.getElem_toArray, List.getElem_cons_succ, List.getElem_cons_zero]
          go_split_ands
          go_simp
          try with_reducible rfl
        try simp only [Act.put, List.getElem_toArray, List.getElem_cons_succ, List.getElem_cons_zero, List.setIfInBounds_toArray, List.set_cons_zero, List.set_cons_succ]
        refine wpAnyH_take (i := 7) (oi := _) (v := ?_) rfl (by kernel_rfl) (by kernel_rfl) (by kernel_rfl) (fun _ _ _ h => h) (Or.inl ⟨by rfl, ?_⟩) (by assumption) ?_
        rotate_left
        · intro w hSw
          try dsimp only at hSw
          try simp only [List.getElem_toArray, List.getElem_cons_succ, List.getElem_cons_zero]
          go_split_ands
          go_simp
          try with_reducible rfl
        try simp only [Act.put, List.getElem_toArray, List.getElem_cons_succ, List.getElem_cons_zero, List.setIfInBounds_toArray, List.set_cons_zero, List.set_cons_succ]
        refine wpAnyH_take (i := 8) (oi := _) (v := .bool (!decide (x = y))) rfl (by kernel_rfl) (by kernel_rfl) (by kernel_rfl) (fun _ _ _ h => h) (Or.inl ⟨by rfl, ?_⟩) (by assumption) ?_
        · intro w hSw
          clear hSw hHeld
          simp only [List.getElem_toArray, List.getElem_cons_succ, List.getElem_cons_zero]
          clear HX HY
          obtain ⟨a0, a1, a2, a3, a4, a5, a6, a7, a8, a9, a10⟩ := x
          obtain ⟨b0, b1, b2, b3, b4, b5, b6, b7, b8, b9, b10⟩ := y
          go_simp
          repeat' split
          all_goals simp_all
        try simp only [Act.put, List.getElem_toArray, List.getElem_cons_succ, List.getElem_cons_zero, List.setIfInBounds_toArray, List.set_cons_zero, List.set_cons_succ]
        refine wpAnyH_done (by kernel_rfl) ?_ _
        by_cases he : x = y
        · rw [decide_eq_true he]
          have HE := Lib.hid he; clear he
          go_wp2
          go_roundw
          case rel => exact ⟨k + 1, n + 1, by omega, by go_num, rfl, by rw [take_snocE HX.out, take_snocE HY.out, HT.out, HE.out]⟩
          case measure => simp [intOf]; omega
        · rw [decide_eq_false he]
          obtain rfl : r = false := by rw [← HR.out]; exact decide_eq_false (fun e => he (by have := HX.out; rw [e, HY.out] at this; exact (Option.some.inj this).symm))
          clear he
          go_wp2
          go_ret
          exact ⟨rfl, ((Fr.refl _ _).drewN n).drew⟩
      · have heq : L = M := by
          have := HT.out
          rw [List.take_of_length_le (by have := HL.out; omega), List.take_of_length_le (by have := HL2.out; omega)] at this
          exact this
        obtain rfl : r = true := by rw [← HR.out]; exact decide_eq_true heq
        clear heq
        go_wp2
        go_ret
        exact ⟨rfl, (Fr.refl _ _).drewN n⟩
  · have hne : L ≠ M := fun e => hlen (by rw [e])
    rw [decide_eq_false hne]
    have hc : ¬ (L.length : Int) = (M.length : Int) := by omega
    clear hlen ha hb hne
    generalize L.length = a at hl hc ⊢
    generalize M.length = b at hm hc ⊢
    go_enter Try.func16, Try.ntmps16
    go_wp2
    go_ret
    exact ⟨rfl, Fr.refl _ _⟩

end Go.Proofs.Ytphnjgkaapfocaa
