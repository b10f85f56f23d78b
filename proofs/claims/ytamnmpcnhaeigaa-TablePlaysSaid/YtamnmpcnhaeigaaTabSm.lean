/- coachhouseref05.Same: two lists of pairs that are one. -/
import Derived.Test.YtamnmpcnhaeigaaTabY
namespace Go.Proofs.Ytamnmpcnhaeigaa.TabI
open Go.RowKit
set_option linter.unusedVariables false

theorem PairsAt.base {B : Nat} {w : World} {g : Option Addr} {L : List (Int × Int)} (h : PairsAt B w g L) (hn : L ≠ []) :
    ∃ b o, g = some ⟨b, o, none⟩ ∧ ∀ (j : Nat) (x : Int × Int), L[j]? = some x → w.cell? ⟨b, o + j * 2, none⟩ = some (.int .i64 x.1) ∧ w.cell? ⟨b, o + j * 2 + 1, none⟩ = some (.int .i64 x.2) := by
  cases L with
  | nil => exact absurd rfl hn
  | cons a l =>
    obtain ⟨b, o, hg, _⟩ := h 0 a rfl
    refine ⟨b, o, hg, fun j x hx => ?_⟩
    obtain ⟨b', o', hg', _, c0, c1⟩ := h j x hx
    rw [hg] at hg'
    simp only [Option.some.injEq, Addr.mk.injEq, and_true] at hg'
    obtain ⟨rfl, rfl⟩ := hg'
    exact ⟨c0, c1⟩

set_option maxHeartbeats 1000000 in
theorem same_any (w : World) (g h : Option Addr) (c d : Nat) (L : List (Int × Int)) (hl : L.length ≤ 1000) {B B' : Nat} (ha : PairsAt B w g L) (hb : PairsAt B' w h L) :
    Calls Try.prog 13 #[.slice g L.length c, .slice h L.length d] w fun e w' => e = .returned (.bool true) ∧ Fr [] w w' := by
  by_cases hn : L = []
  · subst hn
    go_enter Try.func13, Try.ntmps13
    go_wp2
    go_loop [5] (fun i => i = .int .i64 0) (fun _ => 0)
    case atStart => rfl
    case round =>
      subst hrel
      go_wp2
      go_ret
      exact ⟨rfl, Fr.refl _ _⟩
  · obtain ⟨ba, oa, rfl, hca⟩ := ha.base hn
    obtain ⟨bb, ob, rfl, hcb⟩ := hb.base hn
    have Ha := Lib.hid hca; clear hca
    have Hb := Lib.hid hcb; clear hcb
    clear hn ha hb
    obtain ⟨len, hlen⟩ : ∃ n, n = L.length := ⟨_, rfl⟩
    rw [← hlen] at hl ⊢
    have HL := Lib.hid hlen; clear hlen
    go_enter Try.func13, Try.ntmps13
    go_wp2
    go_loopw [5] (fun i wr => ∃ k n : Nat, k ≤ len ∧ i = .int .i64 k ∧ wr = w.drewN n) (fun i _ => len - (intOf i).toNat)
    case atStart => exact ⟨0, 0, Nat.zero_le _, rfl, rfl⟩
    case round =>
      obtain ⟨k, n, hk, rfl, rfl⟩ := hrel
      by_cases hlt : k < len
      · obtain ⟨⟨x, y⟩, hx⟩ : ∃ o, L[k]? = some o := ⟨_, List.getElem?_eq_getElem (by rw [← HL.out]; exact hlt)⟩
        obtain ⟨a0, a1⟩ := Ha.out k _ hx
        obtain ⟨b0, b1⟩ := Hb.out k _ hx
        dsimp only at a0 a1 b0 b1
        have hlt' : (k : Int) < (len : Int) := by omega
        have hk0 : (0 : Int) ≤ (k : Int) := by omega
        clear hx
        go_wp2
        go_quiet (fail)
        go_wp2
        go_roundw
        case rel => exact ⟨k + 1, _, by omega, by go_num, rfl⟩
        case measure => simp [intOf]; omega
      · go_wp2
        go_ret
        exact ⟨rfl, (Fr.refl _ _).drewN n⟩

end Go.Proofs.Ytamnmpcnhaeigaa.TabI
