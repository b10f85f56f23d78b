/- The layer 'cells': what each of its calls does to memory that is a Mem, for whatever words lie there. -/
import Derived.Test.YtdpefnebghljoaaBase
import Derived.Test.YtdpefnebghljoaaRows
import Derived.WalkSpells
import Derived.WalkLawsBesides
import Derived.RegionTactic
import Derived.Deep.QuietTactic
import Derived.BigQuiet
import Derived.Lib.Hide
import Derived.Outline
namespace Go.Proofs.Ytdpefnebghljoaa
open Go.RowKit

/-- Block p is a struct of type T with a list of words (in block q) and a number. -/
structure IsMem (T : Nat) (w : World) (p q cap : Nat) (cur : Array Value) (L : List Int) (t : Int) : Prop where
  hp : w.heap[p]? = some (.cells #[.slice (some ⟨q, 0, none⟩) L.length cap, .int .i64 t] T (0, 0))
  hq : w.heap[q]? = some (.cells cur 3 (0, 0))
  hl : L.length ≤ cap
  hm : cap ≤ maxLen
  hs : cur.size = cap
  ht : ∀ (j : Nat) (v : Int), L[j]? = some v → cur[j]? = some (.int .i64 v)
  hne : p ≠ q

section
variable {T : Nat} {w : World} {p q cap : Nat} {cur : Array Value} {L : List Int} {t : Int}
theorem IsMem.c0 (h : IsMem T w p q cap cur L t) : w.cell? ⟨p, 0, none⟩ = some (.slice (some ⟨q, 0, none⟩) L.length cap) := cell_of h.hp rfl
theorem IsMem.c1 (h : IsMem T w p q cap cur L t) : w.cell? ⟨p, 1, none⟩ = some (.int .i64 t) := cell_of h.hp rfl
theorem IsMem.f1 (h : IsMem T w p q cap cur L t) (i : Nat) : w.frozen? ⟨p, i, none⟩ = false := frozen_of h.hp
theorem IsMem.cq (h : IsMem T w p q cap cur L t) {i : Nat} {v : Int} (hi : L[i]? = some v) : w.cell? ⟨q, i, none⟩ = some (.int .i64 v) := cell_of h.hq (h.ht i v hi)
theorem IsMem.fq (h : IsMem T w p q cap cur L t) (i : Nat) : w.frozen? ⟨q, i, none⟩ = false := frozen_of h.hq
theorem IsMem.touch (h : IsMem T w p q cap cur L t) (u : Int) : IsMem T (w.setCell ⟨p, 1, none⟩ (.int .i64 u)) p q cap cur L u :=
  ⟨heap_setCell_same h.hp _, heap_setCell_ne h.hq (fun e => h.hne e.symm) _, h.hl, h.hm, h.hs, h.ht, h.hne⟩
theorem IsMem.put (h : IsMem T w p q cap cur L t) (i : Nat) (u : Int) : IsMem T (w.setCell ⟨q, i, none⟩ (.int .i64 u)) p q cap (cur.setIfInBounds i (.int .i64 u)) (L.set i u) t := by
  refine ⟨by rw [List.length_set]; exact heap_setCell_ne h.hp h.hne _, heap_setCell_same h.hq _, by simpa using h.hl, h.hm, by simpa using h.hs, fun j v hv => ?_, h.hne⟩
  rw [List.getElem?_set] at hv
  rw [Array.getElem?_setIfInBounds]
  split at hv
  · rename_i e; subst e
    split at hv
    · rename_i hlt
      have : i < cur.size := by have := h.hl; have := h.hs; omega
      simp_all
    · cases hv
  · rename_i e
    rw [if_neg e]; exact h.ht j v hv
theorem IsMem.alloc (h : IsMem T w p q cap cur L t) (o : Obj) : IsMem T (w.alloc o) p q cap cur L t :=
  ⟨heap_alloc_keep h.hp _, heap_alloc_keep h.hq _, h.hl, h.hm, h.hs, h.ht, h.hne⟩
theorem IsMem.drew (h : IsMem T w p q cap cur L t) : IsMem T w.drew p q cap cur L t := ⟨h.hp, h.hq, h.hl, h.hm, h.hs, h.ht, h.hne⟩
theorem IsMem.drewN (h : IsMem T w p q cap cur L t) (n : Nat) : IsMem T (w.drewN n) p q cap cur L t := ⟨h.hp, h.hq, h.hl, h.hm, h.hs, h.ht, h.hne⟩
theorem IsMem.fr {S : List Nat} {w' : World} (h : IsMem T w p q cap cur L t) (f : Fr S w w') (hp : p ∉ S) (hq : q ∉ S) : IsMem T w' p q cap cur L t :=
  ⟨f.at h.hp hp, f.at h.hq hq, h.hl, h.hm, h.hs, h.ht, h.hne⟩
theorem IsMem.plt (h : IsMem T w p q cap cur L t) : p < w.heap.size := heap_lt h.hp
theorem IsMem.qlt (h : IsMem T w p q cap cur L t) : q < w.heap.size := heap_lt h.hq
end

/-- A Mem, whatever its spare room. -/
def MemAt (T : Nat) (w : World) (p q : Nat) (L : List Int) (t : Int) : Prop := ∃ cap cur, IsMem T w p q cap cur L t

theorem MemAt.fr {T : Nat} {S : List Nat} {w w' : World} {p q : Nat} {L : List Int} {t : Int} (h : MemAt T w p q L t) (f : Fr S w w') (hp : p ∉ S) (hq : q ∉ S) : MemAt T w' p q L t := by
  obtain ⟨cap, cur, h⟩ := h; exact ⟨cap, cur, h.fr f hp hq⟩
theorem MemAt.drewN {T : Nat} {w : World} {p q : Nat} {L : List Int} {t : Int} (h : MemAt T w p q L t) (n : Nat) : MemAt T (w.drewN n) p q L t := by obtain ⟨cap, cur, h⟩ := h; exact ⟨cap, cur, h.drewN n⟩
theorem MemAt.drew {T : Nat} {w : World} {p q : Nat} {L : List Int} {t : Int} (h : MemAt T w p q L t) : MemAt T w.drew p q L t := by obtain ⟨cap, cur, h⟩ := h; exact ⟨cap, cur, h.drew⟩
theorem MemAt.ne {T : Nat} {w : World} {p q : Nat} {L : List Int} {t : Int} (h : MemAt T w p q L t) : p ≠ q := by obtain ⟨_, _, h⟩ := h; exact h.hne
theorem MemAt.plt {T : Nat} {w : World} {p q : Nat} {L : List Int} {t : Int} (h : MemAt T w p q L t) : p < w.heap.size := by obtain ⟨_, _, h⟩ := h; exact h.plt
theorem MemAt.qlt {T : Nat} {w : World} {p q : Nat} {L : List Int} {t : Int} (h : MemAt T w p q L t) : q < w.heap.size := by obtain ⟨_, _, h⟩ := h; exact h.qlt

/-- What a call left: the Mem as told, and no other block turned. -/
def Left (T p q : Nat) (L : List Int) (t : Int) (w w' : World) : Prop := MemAt T w' p q L t ∧ Fr [p, q] w w'

theorem getElem?_toNat {L : List Int} {i : Int} (h0 : 0 ≤ i) (h1 : i < L.length) : L[i.toNat]? = some (L.getD i.toNat 0) := by
  have : i.toNat < L.length := by omega
  simp [this]

/-! ## Load -/
set_option maxHeartbeats 400000 in
theorem load_in (w : World) (p q : Nat) (L : List Int) (t i : Int) (hM : MemAt 83 w p q L t) (ht0 : 0 ≤ t) (ht1 : t < 4611686018427387904) (hi0 : 0 ≤ i) (hi1 : i < L.length) :
    Calls Try.prog 15 #[.pointer (some ⟨p, 0, none⟩), .int .i64 i] w fun e w' => e = .returned (.int .i64 (L.getD i.toNat 0)) ∧ Left 83 p q L (t + 1) w w' := by
  obtain ⟨cap, cur, h⟩ := hM
  have hL : L.length ≤ 9223372036854775807 := by have := h.hl; have := h.hm; unfold maxLen at this; omega
  have c0 := h.c0; have c1 := h.c1; have f1 := h.f1 1; have hp := h.plt; have hq := h.qlt
  have cq := h.cq (getElem?_toNat hi0 hi1)
  have hne := h.hne
  have H : IsMem 83 (w.setCell ⟨p, 1, none⟩ (.int .i64 (t + 1))) p q cap cur L (t + 1) := h.touch _
  generalize L.getD i.toNat 0 = v at cq ⊢
  go_enter Try.func15, Try.ntmps15
  go_wp2
  go_ret
  exact ⟨rfl, ⟨cap, cur, H⟩, (Fr.refl _ _).setCell (.inl (by simp)) _⟩

set_option maxHeartbeats 400000 in
theorem load_low (w : World) (p q : Nat) (L : List Int) (t i  : Int) (hM : MemAt 83 w p q L t) (hi : i < 0) :
    Calls Try.prog 15 #[.pointer (some ⟨p, 0, none⟩), .int .i64 i] w fun e w' => e = .returned (.int .i64 0) ∧ Left 83 p q L t w w' := by
  obtain ⟨cap, cur, h⟩ := hM
  have hL : L.length ≤ 9223372036854775807 := by have := h.hl; have := h.hm; unfold maxLen at this; omega
  have c0 := h.c0; have c1 := h.c1; have f1 := h.f1 1; have hp := h.plt; have hq := h.qlt
  go_enter Try.func15, Try.ntmps15
  go_wp2
  go_ret
  exact ⟨rfl, ⟨cap, cur, h⟩, Fr.refl _ _⟩

set_option maxHeartbeats 400000 in
theorem load_high (w : World) (p q : Nat) (L : List Int) (t i  : Int) (hM : MemAt 83 w p q L t) (hi0 : 0 ≤ i) (hi : (L.length : Int) ≤ i) :
    Calls Try.prog 15 #[.pointer (some ⟨p, 0, none⟩), .int .i64 i] w fun e w' => e = .returned (.int .i64 0) ∧ Left 83 p q L t w w' := by
  obtain ⟨cap, cur, h⟩ := hM
  have hL : L.length ≤ 9223372036854775807 := by have := h.hl; have := h.hm; unfold maxLen at this; omega
  have c0 := h.c0; have c1 := h.c1; have f1 := h.f1 1; have hp := h.plt; have hq := h.qlt
  go_enter Try.func15, Try.ntmps15
  go_wp2
  go_ret
  exact ⟨rfl, ⟨cap, cur, h⟩, Fr.refl _ _⟩

/-! ## Store -/
set_option maxHeartbeats 400000 in
theorem store_in (w : World) (p q : Nat) (L : List Int) (t i v : Int) (hM : MemAt 83 w p q L t) (ht0 : 0 ≤ t) (ht1 : t < 4611686018427387904) (hi0 : 0 ≤ i) (hi1 : i < L.length) :
    Calls Try.prog 22 #[.pointer (some ⟨p, 0, none⟩), .int .i64 i, .int .i64 v] w fun e w' => e = .returned (.bool true) ∧ Left 83 p q (L.set i.toNat v) (t + 1) w w' := by
  obtain ⟨cap, cur, h⟩ := hM
  have hL : L.length ≤ 9223372036854775807 := by have := h.hl; have := h.hm; unfold maxLen at this; omega
  have c0 := h.c0; have c1 := h.c1; have f1 := h.f1 1; have hp := h.plt; have hq := h.qlt
  have cq := h.cq (getElem?_toNat hi0 hi1)
  have fq := h.fq i.toNat
  have hne := h.hne
  have H := ((h.touch (t + 1)).put i.toNat v).alloc (.cells #[.int .i64 v] 3)
  generalize L.getD i.toNat 0 = u at cq
  go_enter Try.func22, Try.ntmps22
  go_wp2
  go_ret
  exact ⟨rfl, ⟨cap, _, H⟩, (((Fr.refl _ _).setCell (.inl (by simp)) _).setCell (.inl (by simp)) _).alloc _⟩

set_option maxHeartbeats 400000 in
theorem store_low (w : World) (p q : Nat) (L : List Int) (t i v : Int) (hM : MemAt 83 w p q L t) (hi : i < 0) :
    Calls Try.prog 22 #[.pointer (some ⟨p, 0, none⟩), .int .i64 i, .int .i64 v] w fun e w' => e = .returned (.bool false) ∧ Left 83 p q L t w w' := by
  obtain ⟨cap, cur, h⟩ := hM
  have hL : L.length ≤ 9223372036854775807 := by have := h.hl; have := h.hm; unfold maxLen at this; omega
  have c0 := h.c0; have c1 := h.c1; have f1 := h.f1 1; have hp := h.plt; have hq := h.qlt
  go_enter Try.func22, Try.ntmps22
  go_wp2
  go_ret
  exact ⟨rfl, ⟨cap, cur, (h.alloc _)⟩, (Fr.refl _ _).alloc _⟩

set_option maxHeartbeats 400000 in
theorem store_high (w : World) (p q : Nat) (L : List Int) (t i v : Int) (hM : MemAt 83 w p q L t) (hi0 : 0 ≤ i) (hi : (L.length : Int) ≤ i) :
    Calls Try.prog 22 #[.pointer (some ⟨p, 0, none⟩), .int .i64 i, .int .i64 v] w fun e w' => e = .returned (.bool false) ∧ Left 83 p q L t w w' := by
  obtain ⟨cap, cur, h⟩ := hM
  have hL : L.length ≤ 9223372036854775807 := by have := h.hl; have := h.hm; unfold maxLen at this; omega
  have c0 := h.c0; have c1 := h.c1; have f1 := h.f1 1; have hp := h.plt; have hq := h.qlt
  go_enter Try.func22, Try.ntmps22
  go_wp2
  go_ret
  exact ⟨rfl, ⟨cap, cur, (h.alloc _)⟩, (Fr.refl _ _).alloc _⟩

/-! ## Cas -/
set_option maxHeartbeats 400000 in
theorem cas_no (w : World) (p q : Nat) (L : List Int) (t i o n : Int) (hM : MemAt 83 w p q L t) (ht0 : 0 ≤ t) (ht1 : t < 4611686018427387904) (hi0 : 0 ≤ i) (hi1 : i < L.length) (hv : (L.getD i.toNat 0 != o) = true) :
    Calls Try.prog 63 #[.pointer (some ⟨p, 0, none⟩), .int .i64 i, .int .i64 o, .int .i64 n] w fun e w' => e = .returned (.bool false) ∧ Left 83 p q (L) (t + 1) w w' := by
  obtain ⟨cap, cur, h⟩ := hM
  have hL : L.length ≤ 9223372036854775807 := by have := h.hl; have := h.hm; unfold maxLen at this; omega
  have c0 := h.c0; have c1 := h.c1; have f1 := h.f1 1; have hp := h.plt; have hq := h.qlt
  have cq := h.cq (getElem?_toNat hi0 hi1)
  have fq := h.fq i.toNat
  have hne := h.hne
  have H := (((h.touch (t + 1)).alloc (.cells #[.int .i64 o] 3)).alloc (.cells #[.int .i64 n] 3)).drew
  generalize L.getD i.toNat 0 = u at cq hv
  go_enter Try.func63, Try.ntmps63
  go_wp2
  go_region
  all_goals go_wp2
  all_goals (go_ret; exact ⟨rfl, ⟨cap, _, H⟩, ((((Fr.refl _ _).setCell (.inl (by simp)) _).alloc _).alloc _).drew⟩)
set_option maxHeartbeats 400000 in
theorem cas_yes (w : World) (p q : Nat) (L : List Int) (t i o n : Int) (hM : MemAt 83 w p q L t) (ht0 : 0 ≤ t) (ht1 : t < 4611686018427387904) (hi0 : 0 ≤ i) (hi1 : i < L.length) (hv : (L.getD i.toNat 0 != o) = false) :
    Calls Try.prog 63 #[.pointer (some ⟨p, 0, none⟩), .int .i64 i, .int .i64 o, .int .i64 n] w fun e w' => e = .returned (.bool true) ∧ Left 83 p q (L.set i.toNat n) (t + 1) w w' := by
  obtain ⟨cap, cur, h⟩ := hM
  have hL : L.length ≤ 9223372036854775807 := by have := h.hl; have := h.hm; unfold maxLen at this; omega
  have c0 := h.c0; have c1 := h.c1; have f1 := h.f1 1; have hp := h.plt; have hq := h.qlt
  have cq := h.cq (getElem?_toNat hi0 hi1)
  have fq := h.fq i.toNat
  have hne := h.hne
  have H := ((((h.touch (t + 1)).put i.toNat n).alloc (.cells #[.int .i64 o] 3)).alloc (.cells #[.int .i64 n] 3)).drew
  generalize L.getD i.toNat 0 = u at cq hv
  go_enter Try.func63, Try.ntmps63
  go_wp2
  go_region
  all_goals go_wp2
  all_goals (go_ret; exact ⟨rfl, ⟨cap, _, H⟩, (((((Fr.refl _ _).setCell (.inl (by simp)) _).setCell (.inl (by simp)) _).alloc _).alloc _).drew⟩)
set_option maxHeartbeats 400000 in
theorem cas_low (w : World) (p q : Nat) (L : List Int) (t i o n : Int) (hM : MemAt 83 w p q L t) (hi : i < 0) :
    Calls Try.prog 63 #[.pointer (some ⟨p, 0, none⟩), .int .i64 i, .int .i64 o, .int .i64 n] w fun e w' => e = .returned (.bool false) ∧ Left 83 p q (L) (t) w w' := by
  obtain ⟨cap, cur, h⟩ := hM
  have hL : L.length ≤ 9223372036854775807 := by have := h.hl; have := h.hm; unfold maxLen at this; omega
  have c0 := h.c0; have c1 := h.c1; have f1 := h.f1 1; have hp := h.plt; have hq := h.qlt
  go_enter Try.func63, Try.ntmps63
  go_wp2
  go_ret
  exact ⟨rfl, ⟨cap, _, (h.alloc _).alloc _⟩, ((Fr.refl _ _).alloc _).alloc _⟩
set_option maxHeartbeats 400000 in
theorem cas_high (w : World) (p q : Nat) (L : List Int) (t i o n : Int) (hM : MemAt 83 w p q L t) (hi0 : 0 ≤ i) (hi : (L.length : Int) ≤ i) :
    Calls Try.prog 63 #[.pointer (some ⟨p, 0, none⟩), .int .i64 i, .int .i64 o, .int .i64 n] w fun e w' => e = .returned (.bool false) ∧ Left 83 p q (L) (t) w w' := by
  obtain ⟨cap, cur, h⟩ := hM
  have hL : L.length ≤ 9223372036854775807 := by have := h.hl; have := h.hm; unfold maxLen at this; omega
  have c0 := h.c0; have c1 := h.c1; have f1 := h.f1 1; have hp := h.plt; have hq := h.qlt
  go_enter Try.func63, Try.ntmps63
  go_wp2
  go_ret
  exact ⟨rfl, ⟨cap, _, (h.alloc _).alloc _⟩, ((Fr.refl _ _).alloc _).alloc _⟩

set_option maxHeartbeats 400000 in
theorem touched_any (w : World) (p q : Nat) (L : List Int) (t : Int) (hM : MemAt 83 w p q L t) :
    Calls Try.prog 30 #[.pointer (some ⟨p, 0, none⟩)] w fun e w' => e = .returned (.int .i64 t) ∧ w = w' := by
  obtain ⟨cap, cur, h⟩ := hM
  have hL : L.length ≤ 9223372036854775807 := by have := h.hl; have := h.hm; unfold maxLen at this; omega
  have c0 := h.c0; have c1 := h.c1; have f1 := h.f1 1; have hp := h.plt; have hq := h.qlt
  clear hL hp hq f1 c0
  go_enter Try.func30, Try.ntmps30
  go_wp2
  go_ret
  exact ⟨rfl, rfl⟩

end Go.Proofs.Ytdpefnebghljoaa
