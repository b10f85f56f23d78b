/- Table[int,string]: Drop. Printed by gen_tab.py. -/
import Derived.Test.YtamnmpcnhaeigaaTabGW
import Derived.Test.YtamnmpcnhaeigaaTabP
namespace Go.Proofs.Ytamnmpcnhaeigaa.TabW
open Go.RowKit
set_option linter.unusedVariables false

/-- What lies below B is as it was. -/
def Lo (B : Nat) (w w' : World) : Prop := ∃ S, Fr S w w' ∧ ∀ x ∈ S, B ≤ x
def drp (L : List (Int × ByteArray)) (k : Int) : List (Int × ByteArray) := if has lt L k then L.take (Go.Proofs.Ytamnmpcnhaeigaa.at_ lt L k) ++ L.drop (Go.Proofs.Ytamnmpcnhaeigaa.at_ lt L k + 1) else L

theorem Things.one {w : World} {s : Value} {L : List (Int × ByteArray)} (h : Things w s L) : s.oneCell' = true := by
  rcases h with ⟨_, rfl⟩ | ⟨q, c, rfl, _⟩ <;> rfl

theorem Things.frS {w w' : World} {s : Value} {L : List (Int × ByteArray)} (h : Things w s L) {S : List Nat} (f : Fr S w w') (hs : ∀ x ∈ rowsOf s, x ∉ S) : Things w' s L := by
  rcases h with h | ⟨q, c, h1, h2, h3, h4⟩
  · exact .inl h
  · exact .inr ⟨q, c, h1, h2, h3, h4.fr f (hs q (by rw [h1]; simp [rowsOf]))⟩


end Go.Proofs.Ytamnmpcnhaeigaa.TabW
