/- Table[int,string]: Drop. Printed by gen_tab.py. -/
import Derived.Test.YtamnmpcnhaeigaaTabGW
import Derived.Test.YtamnmpcnhaeigaaTabP
namespace Go.Proofs.Ytamnmpcnhaeigaa.TabW
open Go.RowKit
set_option linter.unusedVariables false

/-- What lies below B is as it was. -/
def Lo (B : Nat) (w w' : World) : Prop := ∃ S, Fr S w w' ∧ ∀ x ∈ S, B ≤ x
def drp (L : List (Int × ByteArray)) (k : Int) : List (Int × ByteArray) := if has lt L k then L.take (Go.Proofs.Ytamnmpcnhaeigaa.at_ lt L k) ++ L.drop (Go.Proofs.Ytamnmpcnhaeigaa.at_ lt L k + 1) else L

theorem Things.one {w : World} {s : Value} {L : List (Int × ByteArray)} (h : Things w s L) : s.oneCell' = true := by
  rcases h with ⟨_, rfl⟩ | ⟨q, c, rfl, _⟩ <;> rfl

theorem Things.frS {w w' : World} {s : Value} {L : List (Int × ByteArray)} (h : Things w s L) {S : List Nat} (f : Fr S w w') (hs : ∀ x ∈ rowsOf s, x ∉ S) : Things w' s L := by
  rcases h with h | ⟨q, c, h1, h2, h3, h4⟩
  · exact .inl h
  · exact .inr ⟨q, c, h1, h2, h3, h4.fr f (hs q (by rw [h1]; simp [rowsOf]))⟩

/-- The table p, whose things are s, tells L. -/
structure TabX (w : World) (p : Nat) (s : Value) (L : List (Int × ByteArray)) : Prop where
  tab : TabS w p s
  th : Things w s L
  apart : p ∉ rowsOf s
  up : Rising lt L
/-- What a call turned: the table's block and its row; a new row is new. -/
def Turned (w w' : World) (p : Nat) (s s' : Value) : Prop := Fr (p :: rowsOf s) w w' ∧ ∀ x ∈ rowsOf s', x ∈ rowsOf s ∨ w.heap.size ≤ x

theorem Turned.lo {B : Nat} {w w' : World} {p : Nat} {s s' : Value} (h : Turned w w' p s s') (hp : B ≤ p) (hs : ∀ x ∈ rowsOf s, B ≤ x) : Lo B w w' :=
  ⟨p :: rowsOf s, h.1, fun x hx => by
    rcases List.mem_cons.1 hx with rfl | hx
    · exact hp
    · exact hs x hx⟩
theorem TabAt.of {B : Nat} {w w' : World} {p : Nat} {s s' : Value} {L' : List (Int × ByteArray)} (h : TabX w' p s' L') (t : Turned w w' p s s') (hp : B ≤ p) (hs : ∀ x ∈ rowsOf s, B ≤ x) (hB : B ≤ w.heap.size) : TabAt B w' p L' :=
  ⟨⟨s', h.tab, h.th, h.apart, fun x hx => (t.2 x hx).elim (hs x) (Nat.le_trans hB)⟩, hp, h.up⟩


end Go.Proofs.Ytamnmpcnhaeigaa.TabW
