/- The layer 'entry': entries and bytes, as data, and where they lie. -/
import Derived.Test.YtphnjgkaapfocaaBase
import Derived.Test.YtphnjgkaapfocaaRows
import Derived.WalkKit
import Derived.WalkSpells
import Derived.WalkLawsBesides
import Derived.Deep.QuietTactic
import Derived.BigQuiet
import Derived.Lib.Hide
import Derived.Outline
import Derived.Laws.AppendOwn
namespace Go.Proofs.Ytphnjgkaapfocaa
open Go.RowKit

/-- An entry, as data. -/
structure EntV where
  kind : Int
  who : Int
  op : Int
  dl : Int
  wait : Bool
  force : Bool
  slot : Int
  gen : Int
  stream : Int
  n : Int
  good : Bool
  deriving DecidableEq
def EntV.val (x : EntV) : Value := .agg #[.int .i64 x.kind, .int .i64 x.who, .int .i64 x.op, .int .i64 x.dl, .bool x.wait, .bool x.force, .int .i64 x.slot, .int .i64 x.gen, .int .i64 x.stream, .int .i64 x.n, .bool x.good]
def EntV.cells (x : EntV) : List Value := [.int .i64 x.kind, .int .i64 x.who, .int .i64 x.op, .int .i64 x.dl, .bool x.wait, .bool x.force, .int .i64 x.slot, .int .i64 x.gen, .int .i64 x.stream, .int .i64 x.n, .bool x.good]
/-- An entry that is right. -/
def EntV.ok (x : EntV) : Prop := (0 ≤ x.kind ∧ x.kind ≤ 4) ∧ (0 ≤ x.op ∧ x.op ≤ 7) ∧ (0 ≤ x.who ∧ x.who ≤ 255) ∧ (0 ≤ x.slot ∧ x.slot ≤ 255) ∧ (0 ≤ x.stream ∧ x.stream ≤ 255) ∧ (0 ≤ x.gen ∧ x.gen ≤ 65535) ∧ (0 ≤ x.dl ∧ x.dl ≤ 65535) ∧ (0 ≤ x.n ∧ x.n ≤ 65535)
instance (x : EntV) : Decidable x.ok := by unfold EntV.ok; infer_instance
def sumV (wait force good : Bool) : Int := (if wait then 1 else 0) + (if force then 2 else 0) + (if good then 4 else 0)
/-- Its bytes. -/
def EntV.form (x : EntV) : List Int := [x.kind, x.who, x.op, sumV x.wait x.force x.good, x.slot, x.stream, x.gen % 256, x.gen / 256, x.dl % 256, x.dl / 256, x.n % 256, x.n / 256]
/-- The entry that twelve bytes tell. -/
def ofB (b : Nat → Int) : EntV := ⟨b 0, b 1, b 2, b 8 + 256 * b 9, decide (b 3 % 2 = 1), decide (b 3 / 2 % 2 = 1), b 4, b 6 + 256 * b 7, b 5, b 10 + 256 * b 11, decide (b 3 / 4 % 2 = 1)⟩

/-- A slice of bytes reads as L. -/
def BytsAt (w : World) (g : Option Addr) (L : List Int) : Prop :=
  L.length ≤ 9223372036854775807 ∧ (∀ x ∈ L, 0 ≤ x ∧ x ≤ 255) ∧ ∀ (j : Nat) (x : Int), L[j]? = some x → ∃ b o, g = some ⟨b, o, none⟩ ∧ w.cell? ⟨b, o + j, none⟩ = some (.int .u8 x)
theorem BytsAt.empty (w : World) (g : Option Addr) : BytsAt w g [] := ⟨by simp, by simp, fun j x h => by simp at h⟩
theorem BytsAt.base {w : World} {g : Option Addr} {L : List Int} (h : BytsAt w g L) (hn : L ≠ []) :
    ∃ b o, g = some ⟨b, o, none⟩ ∧ ∀ (j : Nat) (x : Int), L[j]? = some x → w.cell? ⟨b, o + j, none⟩ = some (.int .u8 x) := by
  cases L with
  | nil => exact absurd rfl hn
  | cons a l =>
    obtain ⟨b, o, hg, _⟩ := h.2.2 0 a rfl
    refine ⟨b, o, hg, fun j x hx => ?_⟩
    obtain ⟨b', o', hg', hc⟩ := h.2.2 j x hx
    rw [hg] at hg'
    simp only [Option.some.injEq, Addr.mk.injEq, and_true] at hg'
    obtain ⟨rfl, rfl⟩ := hg'
    exact hc
theorem BytsAt.fr {S : List Nat} {w w' : World} {g : Option Addr} {L : List Int} (h : BytsAt w g L) (f : Fr S w w') (hs : ∀ a, g = some a → a.block ∉ S) : BytsAt w' g L :=
  ⟨h.1, h.2.1, fun j x hx => let ⟨b, o, hg, hc⟩ := h.2.2 j x hx; ⟨b, o, hg, f.cell hc (hs ⟨b, o, none⟩ hg)⟩⟩
/-- A slice of entries reads as L. -/
def EntsAt (w : World) (g : Option Addr) (L : List EntV) : Prop :=
  L.length ≤ 9223372036854775807 ∧ ∀ (j : Nat) (x : EntV), L[j]? = some x → ∃ b o, g = some ⟨b, o, none⟩ ∧ ∀ (i : Nat) (v : Value), x.cells[i]? = some v → w.cell? ⟨b, o + j * 11 + i, none⟩ = some v
theorem EntsAt.empty (w : World) (g : Option Addr) : EntsAt w g [] := ⟨by simp, fun j x h => by simp at h⟩
theorem EntsAt.base {w : World} {g : Option Addr} {L : List EntV} (h : EntsAt w g L) (hn : L ≠ []) :
    ∃ b o, g = some ⟨b, o, none⟩ ∧ ∀ (j : Nat) (x : EntV), L[j]? = some x → ∀ (i : Nat) (v : Value), x.cells[i]? = some v → w.cell? ⟨b, o + j * 11 + i, none⟩ = some v := by
  cases L with
  | nil => exact absurd rfl hn
  | cons a l =>
    obtain ⟨b, o, hg, _⟩ := h.2 0 a rfl
    refine ⟨b, o, hg, fun j x hx => ?_⟩
    obtain ⟨b', o', hg', hc⟩ := h.2 j x hx
    rw [hg] at hg'
    simp only [Option.some.injEq, Addr.mk.injEq, and_true] at hg'
    obtain ⟨rfl, rfl⟩ := hg'
    exact hc
theorem EntsAt.fr {S : List Nat} {w w' : World} {g : Option Addr} {L : List EntV} (h : EntsAt w g L) (f : Fr S w w') (hs : ∀ a, g = some a → a.block ∉ S) : EntsAt w' g L :=
  ⟨h.1, fun j x hx => let ⟨b, o, hg, hc⟩ := h.2 j x hx; ⟨b, o, hg, fun i v hv => f.cell (hc i v hv) (hs ⟨b, o, none⟩ hg)⟩⟩
/-- The eleven cells of an entry. -/
structure EntCells (w : World) (b o : Nat) (x : EntV) : Prop where
  c0 : w.cell? ⟨b, o, none⟩ = some (.int .i64 x.kind)
  c1 : w.cell? ⟨b, o + 1, none⟩ = some (.int .i64 x.who)
  c2 : w.cell? ⟨b, o + 2, none⟩ = some (.int .i64 x.op)
  c3 : w.cell? ⟨b, o + 3, none⟩ = some (.int .i64 x.dl)
  c4 : w.cell? ⟨b, o + 4, none⟩ = some (.bool x.wait)
  c5 : w.cell? ⟨b, o + 5, none⟩ = some (.bool x.force)
  c6 : w.cell? ⟨b, o + 6, none⟩ = some (.int .i64 x.slot)
  c7 : w.cell? ⟨b, o + 7, none⟩ = some (.int .i64 x.gen)
  c8 : w.cell? ⟨b, o + 8, none⟩ = some (.int .i64 x.stream)
  c9 : w.cell? ⟨b, o + 9, none⟩ = some (.int .i64 x.n)
  c10 : w.cell? ⟨b, o + 10, none⟩ = some (.bool x.good)
theorem EntCells.of {w : World} {b o : Nat} {x : EntV} (h : ∀ (i : Nat) (v : Value), x.cells[i]? = some v → w.cell? ⟨b, o + i, none⟩ = some v) : EntCells w b o x :=
  ⟨h 0 _ rfl, h 1 _ rfl, h 2 _ rfl, h 3 _ rfl, h 4 _ rfl, h 5 _ rfl, h 6 _ rfl, h 7 _ rfl, h 8 _ rfl, h 9 _ rfl, h 10 _ rfl⟩
theorem EntCells.fr {S : List Nat} {w w' : World} {b o : Nat} {x : EntV} (h : EntCells w b o x) (f : Fr S w w') (hs : b ∉ S) : EntCells w' b o x :=
  ⟨f.cell h.c0 hs, f.cell h.c1 hs, f.cell h.c2 hs, f.cell h.c3 hs, f.cell h.c4 hs, f.cell h.c5 hs, f.cell h.c6 hs, f.cell h.c7 hs, f.cell h.c8 hs, f.cell h.c9 hs, f.cell h.c10 hs⟩

set_option maxHeartbeats 400000 in
theorem within_any (w : World) (n most : Int) : Calls Try.prog 19 #[.int .i64 n, .int .i64 most] w fun e w' => e = .returned (.bool (decide (0 ≤ n ∧ n ≤ most))) ∧ w' = w := by
  obtain ⟨b, hb⟩ : ∃ b, decide (0 ≤ n ∧ n ≤ most) = b := ⟨_, rfl⟩
  have HB := Lib.hid hb
  rw [hb]
  clear hb
  by_cases h1 : 0 ≤ n
  · by_cases h2 : n ≤ most
    · obtain rfl : b = true := by rw [← HB.out]; exact decide_eq_true ⟨h1, h2⟩
      go_enter Try.func19, Try.ntmps19
      go_wp2
      go_ret
      exact ⟨rfl, rfl⟩
    · obtain rfl : b = false := by rw [← HB.out]; exact decide_eq_false (fun h => h2 h.2)
      go_enter Try.func19, Try.ntmps19
      go_wp2
      go_ret
      exact ⟨rfl, rfl⟩
  · obtain rfl : b = false := by rw [← HB.out]; exact decide_eq_false (fun h => h1 h.1)
    go_enter Try.func19, Try.ntmps19
    go_wp2
    go_ret
    exact ⟨rfl, rfl⟩

set_option maxHeartbeats 400000 in
theorem pair_any (w : World) (lo hi : Int) (h1 : 0 ≤ lo) (h2 : lo ≤ 255) (h3 : 0 ≤ hi) (h4 : hi ≤ 255) : Calls Try.prog 23 #[.int .u8 lo, .int .u8 hi] w fun e w' => e = .returned (.int .i64 (lo + 256 * hi)) ∧ w' = w := by
  have hw1 := Lib.hid (show lo + hi * 256 = lo + 256 * hi by omega)
  go_enter Try.func23, Try.ntmps23
  go_wp2
  go_ret
  exact ⟨by rw [← hw1.out]; rfl, rfl⟩

end Go.Proofs.Ytphnjgkaapfocaa
