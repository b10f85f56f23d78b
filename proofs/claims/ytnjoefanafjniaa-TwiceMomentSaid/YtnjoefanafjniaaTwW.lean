/- Words that others store (coachhouseref14.Write), in a slice; truth values in a slice. -/
import Derived.Test.YtnjoefanafjniaaTwG
namespace Go.Proofs.Ytnjoefanafjniaa
open Go.RowKit

/-- What somebody else stores: ahead of which step, at which cell, which word. -/
structure WrV where
  wh : Int
  pl : Int
  v : Int
def WrsAt (w : World) (g : Option Addr) (L : List WrV) : Prop :=
  L.length ≤ 9223372036854775807 ∧ ∀ (j : Nat) (x : WrV), L[j]? = some x → (0 ≤ x.wh ∧ x.wh ≤ 255) ∧ (0 ≤ x.pl ∧ x.pl ≤ 255) ∧ ∃ b o, g = some ⟨b, o, none⟩ ∧ w.cell? ⟨b, o + j * 3, none⟩ = some (.int .u8 x.wh) ∧ w.cell? ⟨b, o + j * 3 + 1, none⟩ = some (.int .u8 x.pl) ∧ w.cell? ⟨b, o + j * 3 + 2, none⟩ = some (.int .i64 x.v)
theorem WrsAt.empty (w : World) (g : Option Addr) : WrsAt w g [] := ⟨by simp, fun j x h => by simp at h⟩
theorem WrsAt.fr {w w' : World} {g : Option Addr} {L : List WrV} (h : WrsAt w g L) (f : Fr [] w w') : WrsAt w' g L :=
  ⟨h.1, fun j x hx => let ⟨h1, h2, b, o, hg, c0, c1, c2⟩ := h.2 j x hx; ⟨h1, h2, b, o, hg, f.cell c0 (by simp), f.cell c1 (by simp), f.cell c2 (by simp)⟩⟩
def BosAt (w : World) (g : Option Addr) (L : List Bool) : Prop :=
  L.length ≤ 9223372036854775807 ∧ ∀ (j : Nat) (x : Bool), L[j]? = some x → ∃ b o, g = some ⟨b, o, none⟩ ∧ w.cell? ⟨b, o + j, none⟩ = some (.bool x)
theorem BosAt.empty (w : World) (g : Option Addr) : BosAt w g [] := ⟨by simp, fun j x h => by simp at h⟩
theorem BosAt.fr {w w' : World} {g : Option Addr} {L : List Bool} (h : BosAt w g L) (f : Fr [] w w') : BosAt w' g L :=
  ⟨h.1, fun j x hx => let ⟨b, o, hg, c0⟩ := h.2 j x hx; ⟨b, o, hg, f.cell c0 (by simp)⟩⟩

end Go.Proofs.Ytnjoefanafjniaa
