/- coachhouseref01.Ints: two lists of numbers that are one. -/
import Derived.Test.YtahkkodeppeknaaBase
import Derived.Test.YtahkkodeppeknaaRows
import Derived.WalkSpells
import Derived.WalkLawsBesides
import Derived.Deep.QuietTactic
import Derived.BigQuiet
import Derived.Lib.Hide
import Derived.Outline
namespace Go.Proofs.Ytahkkodeppeknaa
open Go.RowKit

/-- A slice of numbers reads as L. -/
def IntsAt (w : World) (g : Option Addr) (L : List Int) : Prop :=
  L.length ≤ 9223372036854775807 ∧ ∀ (j : Nat) (x : Int), L[j]? = some x → ∃ b o, g = some ⟨b, o, none⟩ ∧ w.cell? ⟨b, o + j, none⟩ = some (.int .i64 x)

theorem IntsAt.empty (w : World) (g : Option Addr) : IntsAt w g [] := ⟨by simp, fun j x h => by simp at h⟩
theorem IntsAt.base {w : World} {g : Option Addr} {L : List Int} (h : IntsAt w g L) (hn : L ≠ []) :
    ∃ b o, g = some ⟨b, o, none⟩ ∧ ∀ (j : Nat) (x : Int), L[j]? = some x → w.cell? ⟨b, o + j, none⟩ = some (.int .i64 x) := by
  cases L with
  | nil => exact absurd rfl hn
  | cons a l =>
    obtain ⟨b, o, hg, _⟩ := h.2 0 a rfl
    refine ⟨b, o, hg, fun j x hx => ?_⟩
    obtain ⟨b', o', hg', hc⟩ := h.2 j x hx
    rw [hg] at hg'
    simp only [Option.some.injEq, Addr.mk.injEq, and_true] at hg'
    obtain ⟨rfl, rfl⟩ := hg'
    exact hc
theorem IntsAt.fr {S : List Nat} {w w' : World} {g : Option Addr} {L : List Int} (h : IntsAt w g L) (f : Fr S w w') (hs : ∀ a, g = some a → a.block ∉ S) : IntsAt w' g L :=
  ⟨h.1, fun j x hx => let ⟨b, o, hg, hc⟩ := h.2 j x hx; ⟨b, o, hg, f.cell hc (hs ⟨b, o, none⟩ hg)⟩⟩
theorem IntsAt.drewN {w : World} {g : Option Addr} {L : List Int} (h : IntsAt w g L) (n : Nat) : IntsAt (w.drewN n) g L := h
theorem IntsAt.of_owns {w : World} {base e n c : Nat} {g : Nat} {L : List Int} (h : w.ownsRow base e 1 (.slice (some ⟨g, 0, none⟩) n c) n (L.map (Value.int .i64))) : IntsAt w (some ⟨g, 0, none⟩) L := by
  have hl : L.length = n := by have := h.1; simpa using this
  refine ⟨?_, fun j x hx => ⟨g, 0, rfl, ?_⟩⟩
  · rcases h.2 with ⟨h', _⟩ | ⟨g', cap', cur, h', _, hg, hl', hm, _⟩
    · simp at h'
    · simp only [Value.slice.injEq, Option.some.injEq, Addr.mk.injEq, and_true, true_and] at h'
      obtain ⟨rfl, rfl⟩ := h'
      unfold maxLen at hm
      omega
  · have hj : j < L.length := (List.getElem?_eq_some_iff.1 hx).1
    have := h.cellAt j (by omega)
    rw [Nat.zero_add, this, List.getElem?_map, hx]
    rfl

theorem IntsAt.lit (w : World) (t : TypeId) (L : List Int) (h : L.length ≤ 9223372036854775807) : IntsAt (w.alloc (.cells (L.map (Value.int .i64)).toArray t)) (some ⟨w.heap.size, 0, none⟩) L := by
  refine ⟨h, fun j x hx => ⟨w.heap.size, 0, rfl, ?_⟩⟩
  refine cell_of (heap_alloc_new w _) ?_
  simp [hx]
theorem IntsAt.owned_block {w : World} {base e n c : Nat} {g : Nat} {xs : List Value} (h : w.ownsRow base e 1 (.slice (some ⟨g, 0, none⟩) n c) n xs) : base ≤ g ∧ g < w.heap.size := h.lt g rfl
theorem getElem?_nat {L : List Int} {k : Nat} (h : k < L.length) : L[k]? = some (L.getD k 0) := by
  simp [h]

set_option maxHeartbeats 400000 in
theorem ints_same (w : World) (g h : Option Addr) (c d : Nat) (L : List Int) (ha : IntsAt w g L) (hb : IntsAt w h L) :
    Calls Try.prog 13 #[.slice g L.length c, .slice h L.length d] w fun e w' => e = .returned (.bool true) ∧ ∃ n, w' = w.drewN n := by
  have hl := ha.1
  by_cases hn : L = []
  · subst hn
    go_enter Try.func13, Try.ntmps13
    go_wp2
    go_loop [5] (fun i => i = .int .i64 0) (fun _ => 0)
    case atStart => rfl
    case round =>
      subst hrel
      go_wp2
      go_ret
      exact ⟨rfl, 0, rfl⟩
  · obtain ⟨ba, oa, rfl, hca⟩ := ha.base hn
    obtain ⟨bb, ob, rfl, hcb⟩ := hb.base hn
    have Ha := Lib.hid hca; clear hca
    have Hb := Lib.hid hcb; clear hcb
    clear hn ha hb
    obtain ⟨len, hlen⟩ : ∃ n, n = L.length := ⟨_, rfl⟩
    rw [← hlen] at hl ⊢
    have HL := Lib.hid hlen; clear hlen
    go_enter Try.func13, Try.ntmps13
    go_wp2
    go_loopw [5] (fun i wr => ∃ k n : Nat, k ≤ len ∧ i = .int .i64 k ∧ wr = w.drewN n) (fun i _ => len - (intOf i).toNat)
    case atStart => exact ⟨0, 0, Nat.zero_le _, rfl, rfl⟩
    case round =>
      obtain ⟨k, n, hk, rfl, rfl⟩ := hrel
      by_cases hlt : k < len
      · have ga := Ha.out k _ (getElem?_nat (by rw [← HL.out]; exact hlt))
        have gb := Hb.out k _ (getElem?_nat (by rw [← HL.out]; exact hlt))
        generalize L.getD k 0 = x at ga gb
        have hlt' : (k : Int) < (len : Int) := by omega
        have hk0 : (0 : Int) ≤ (k : Int) := by omega
        go_wp2
        go_quiet (fail)
        go_wp2
        go_roundw
        case rel => exact ⟨k + 1, _, by omega, by go_num, rfl⟩
        case measure => simp [intOf]; omega
      · go_wp2
        go_ret
        exact ⟨rfl, n, rfl⟩

end Go.Proofs.Ytahkkodeppeknaa
