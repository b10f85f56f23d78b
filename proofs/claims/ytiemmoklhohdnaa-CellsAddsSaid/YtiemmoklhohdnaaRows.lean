/-
  No cell of these rows narrows 'for every input' (looked for: loops, veiled, ifaces, maps, wideKeys, modest, calm, conditions, laid).
  DERIVED. THE GIVEN ROWS OF THIS SEAT. 7 by the template 'for every input the law returns true; each argument reads behind the call as it read before'; 0 by the template 'total and deterministic' (their statements: YtiemmoklhohdnaaTotals.lean).
  GIVEN WITH THE SEED: the statements are not yours to turn. If you find one false, say at which input.
  Laid BY PROGRAM, IN A SANDBOX (cutbox-rows.mjs): the forced cells as the released guide's own fill.sh prints them over the translation 154b06de36c309a7… (all of the seat's roots in one cut). By AI agents, Wed Nov 11 2026. No macro, syntax, notation, axiom, sorry.
-/
import Derived.Test.YtiemmoklhohdnaaChecked
import GoSem.Claim
import GoSem.ClaimJoined
import GoSem.ClaimMapViews
import Derived.JoinedTies
import Derived.KernelRfl
namespace Go.Proofs.Ytiemmoklhohdnaa
/- THE CELL 'sum', in the pinned program and in every row, IS THE sha256 OF THE DUMP (.gsa) THAT YtiemmoklhohdnaaProg.lean LOADS. Nothing in Lean hashes anything: it is a label: what it is worth is what the hold of that sum in a sandbox is worth. -/
noncomputable def Try.pinned : Pinned := { name := "ytiemmoklhohdnaa", sum := "154b06de36c309a7c9ea1cfd1fbf1635fe5663f456c09dab516ea7d7f107ec3a", checked := Try.checked }
namespace Rows
def none {H : Type} : Left H := { results := [], args := [] }

/-- 'coachhouselaw02.CellsAdds': WHATEVER THE INPUT: true; the input reads as it did. -/
def cellsAddsSpec : ChangeSpec := { name := "cellsAdds", fn := fun _ => fun
  | [d] => { results := [.lit (.bool true)], args := [d] }
  | _ => none }
def cellsAddsRow : OpenClaim := { program := "ytiemmoklhohdnaa", sum := "154b06de36c309a7c9ea1cfd1fbf1635fe5663f456c09dab516ea7d7f107ec3a", func := "coachhouse/coachhouselaw02.CellsAdds", spec := "cellsAdds", unfollowed := true, recurses := true, apart := false }
def CellsAddsSaid : Prop := cellsAddsRow.holds Try.pinned (OpenSpec.ofChange cellsAddsSpec)

/-- ITS FALSE NEIGHBOUR: 'it returns false'. Refute it at one input. -/
def cellsAddsWrong : ChangeSpec := { name := "cellsAdds", fn := fun _ => fun
  | [d] => { results := [.lit (.bool false)], args := [d] }
  | _ => none }
def CellsAddsWrongFalsely : Prop := cellsAddsRow.holds Try.pinned (OpenSpec.ofChange cellsAddsWrong)

/-- 'coachhouselaw02.CellsPlays': WHATEVER THE INPUT: true; the input reads as it did. -/
def cellsPlaysSpec : ChangeSpec := { name := "cellsPlays", fn := fun _ => fun
  | [d1, d2] => { results := [.lit (.bool true)], args := [d1, d2] }
  | _ => none }
def cellsPlaysRow : OpenClaim := { program := "ytiemmoklhohdnaa", sum := "154b06de36c309a7c9ea1cfd1fbf1635fe5663f456c09dab516ea7d7f107ec3a", func := "coachhouse/coachhouselaw02.CellsPlays", spec := "cellsPlays", unfollowed := true, recurses := true, apart := false }
def CellsPlaysSaid : Prop := cellsPlaysRow.holds Try.pinned (OpenSpec.ofChange cellsPlaysSpec)

/-- ITS FALSE NEIGHBOUR: 'it returns false'. Refute it at one input. -/
def cellsPlaysWrong : ChangeSpec := { name := "cellsPlays", fn := fun _ => fun
  | [d1, d2] => { results := [.lit (.bool false)], args := [d1, d2] }
  | _ => none }
def CellsPlaysWrongFalsely : Prop := cellsPlaysRow.holds Try.pinned (OpenSpec.ofChange cellsPlaysWrong)

/-- 'coachhouselaw02.CellsOne': WHATEVER THE INPUT: true; the input reads as it did. -/
def cellsOneSpec : ChangeSpec := { name := "cellsOne", fn := fun _ => fun
  | [d1, d2, d3, d4, d5] => { results := [.lit (.bool true)], args := [d1, d2, d3, d4, d5] }
  | _ => none }
def cellsOneRow : OpenClaim := { program := "ytiemmoklhohdnaa", sum := "154b06de36c309a7c9ea1cfd1fbf1635fe5663f456c09dab516ea7d7f107ec3a", func := "coachhouse/coachhouselaw02.CellsOne", spec := "cellsOne", unfollowed := true, recurses := true, apart := false }
def CellsOneSaid : Prop := cellsOneRow.holds Try.pinned (OpenSpec.ofChange cellsOneSpec)

/-- ITS FALSE NEIGHBOUR: 'it returns false'. Refute it at one input. -/
def cellsOneWrong : ChangeSpec := { name := "cellsOne", fn := fun _ => fun
  | [d1, d2, d3, d4, d5] => { results := [.lit (.bool false)], args := [d1, d2, d3, d4, d5] }
  | _ => none }
def CellsOneWrongFalsely : Prop := cellsOneRow.holds Try.pinned (OpenSpec.ofChange cellsOneWrong)

/-- 'coachhouselaw02.CellsAlone': WHATEVER THE INPUT: true; the input reads as it did. -/
def cellsAloneSpec : ChangeSpec := { name := "cellsAlone", fn := fun _ => fun
  | [d1, d2, d3] => { results := [.lit (.bool true)], args := [d1, d2, d3] }
  | _ => none }
def cellsAloneRow : OpenClaim := { program := "ytiemmoklhohdnaa", sum := "154b06de36c309a7c9ea1cfd1fbf1635fe5663f456c09dab516ea7d7f107ec3a", func := "coachhouse/coachhouselaw02.CellsAlone", spec := "cellsAlone", unfollowed := true, recurses := true, apart := false }
def CellsAloneSaid : Prop := cellsAloneRow.holds Try.pinned (OpenSpec.ofChange cellsAloneSpec)

/-- ITS FALSE NEIGHBOUR: 'it returns false'. Refute it at one input. -/
def cellsAloneWrong : ChangeSpec := { name := "cellsAlone", fn := fun _ => fun
  | [d1, d2, d3] => { results := [.lit (.bool false)], args := [d1, d2, d3] }
  | _ => none }
def CellsAloneWrongFalsely : Prop := cellsAloneRow.holds Try.pinned (OpenSpec.ofChange cellsAloneWrong)

/-- 'coachhouselaw02.CellsTouch': WHATEVER THE INPUT: true; the input reads as it did. -/
def cellsTouchSpec : ChangeSpec := { name := "cellsTouch", fn := fun _ => fun
  | [d1, d2] => { results := [.lit (.bool true)], args := [d1, d2] }
  | _ => none }
def cellsTouchRow : OpenClaim := { program := "ytiemmoklhohdnaa", sum := "154b06de36c309a7c9ea1cfd1fbf1635fe5663f456c09dab516ea7d7f107ec3a", func := "coachhouse/coachhouselaw02.CellsTouch", spec := "cellsTouch", unfollowed := true, recurses := true, apart := false }
def CellsTouchSaid : Prop := cellsTouchRow.holds Try.pinned (OpenSpec.ofChange cellsTouchSpec)

/-- ITS FALSE NEIGHBOUR: 'it returns false'. Refute it at one input. -/
def cellsTouchWrong : ChangeSpec := { name := "cellsTouch", fn := fun _ => fun
  | [d1, d2] => { results := [.lit (.bool false)], args := [d1, d2] }
  | _ => none }
def CellsTouchWrongFalsely : Prop := cellsTouchRow.holds Try.pinned (OpenSpec.ofChange cellsTouchWrong)

/-- 'coachhouselaw02.CellsLast': WHATEVER THE INPUT: true; the input reads as it did. -/
def cellsLastSpec : ChangeSpec := { name := "cellsLast", fn := fun _ => fun
  | [d1, d2, d3, d4, d5] => { results := [.lit (.bool true)], args := [d1, d2, d3, d4, d5] }
  | _ => none }
def cellsLastRow : OpenClaim := { program := "ytiemmoklhohdnaa", sum := "154b06de36c309a7c9ea1cfd1fbf1635fe5663f456c09dab516ea7d7f107ec3a", func := "coachhouse/coachhouselaw02.CellsLast", spec := "cellsLast", unfollowed := true, recurses := true, apart := false }
def CellsLastSaid : Prop := cellsLastRow.holds Try.pinned (OpenSpec.ofChange cellsLastSpec)

/-- ITS FALSE NEIGHBOUR: 'it returns false'. Refute it at one input. -/
def cellsLastWrong : ChangeSpec := { name := "cellsLast", fn := fun _ => fun
  | [d1, d2, d3, d4, d5] => { results := [.lit (.bool false)], args := [d1, d2, d3, d4, d5] }
  | _ => none }
def CellsLastWrongFalsely : Prop := cellsLastRow.holds Try.pinned (OpenSpec.ofChange cellsLastWrong)

/-- 'coachhouselaw02.CellsCopies': WHATEVER THE INPUT: true; the input reads as it did. -/
def cellsCopiesSpec : ChangeSpec := { name := "cellsCopies", fn := fun _ => fun
  | [d1, d2, d3] => { results := [.lit (.bool true)], args := [d1, d2, d3] }
  | _ => none }
def cellsCopiesRow : OpenClaim := { program := "ytiemmoklhohdnaa", sum := "154b06de36c309a7c9ea1cfd1fbf1635fe5663f456c09dab516ea7d7f107ec3a", func := "coachhouse/coachhouselaw02.CellsCopies", spec := "cellsCopies", unfollowed := true, recurses := true, apart := false }
def CellsCopiesSaid : Prop := cellsCopiesRow.holds Try.pinned (OpenSpec.ofChange cellsCopiesSpec)

/-- ITS FALSE NEIGHBOUR: 'it returns false'. Refute it at one input. -/
def cellsCopiesWrong : ChangeSpec := { name := "cellsCopies", fn := fun _ => fun
  | [d1, d2, d3] => { results := [.lit (.bool false)], args := [d1, d2, d3] }
  | _ => none }
def CellsCopiesWrongFalsely : Prop := cellsCopiesRow.holds Try.pinned (OpenSpec.ofChange cellsCopiesWrong)

/- THE SECOND FORM. 'bulk': how many values and letters a reading holds, each counted each time it is reached (what is shared counts as often as it is met; a slice's spare places count too). A statement '..UptoSaid' is the law's where the arguments, and the package variables that the reading takes, are together of bulk at most 1048576: NARROWER than '..Said'. Prove '..Said' where nothing that the law and all that it calls make is longer than what came in: it says more and counts as full. Else prove '..UptoSaid'. A law counts once. -/
mutual
def uptoBulk {H : Type} : DataW H → Nat
  | .lit (.string bytes) => bytes.length + 1
  | .lit _ => 1
  | .nil => 1
  | .ptr d => uptoBulk d + 1
  | .slice elems spare => uptoBulkAll elems + uptoBulkAll spare + 1
  | .agg parts => uptoBulkAll parts + 1
  | .iface _ d => uptoBulk d + 1
  | .map entries => uptoBulkEntries entries + 1
  | .held _ => 1
def uptoBulkAll {H : Type} : List (DataW H) → Nat
  | [] => 0
  | d :: r => uptoBulk d + uptoBulkAll r
def uptoBulkEntries {H : Type} : List (Lit × DataW H) → Nat
  | [] => 0
  | x :: r => uptoBulkEntry x + uptoBulkEntries r
def uptoBulkEntry {H : Type} : Lit × DataW H → Nat
  | (.string bytes, d) => bytes.length + uptoBulk d + 1
  | (_, d) => uptoBulk d + 1
 end
def uptoSmall : (H : Type) → List (DataW H) → Bool := fun _ ds => decide (uptoBulkAll ds ≤ 1048576)
def OpenSpec.upto (s : _root_.Go.ChangeSpec) : _root_.Go.OpenSpec := { _root_.Go.OpenSpec.ofChange s with cond := some uptoSmall }

/-- 'coachhouselaw02.CellsAdds', WHERE WHAT IT READS IS OF BULK AT MOST 1048576: true; the input reads as it did. -/
def cellsAddsUptoRow : OpenClaim := { program := "ytiemmoklhohdnaa", sum := "154b06de36c309a7c9ea1cfd1fbf1635fe5663f456c09dab516ea7d7f107ec3a", func := "coachhouse/coachhouselaw02.CellsAdds", spec := "cellsAdds", unfollowed := true, recurses := true, apart := false, narrowed := true }
def CellsAddsUptoSaid : Prop := cellsAddsUptoRow.holds Try.pinned (OpenSpec.upto cellsAddsSpec)

/-- 'coachhouselaw02.CellsPlays', WHERE WHAT IT READS IS OF BULK AT MOST 1048576: true; the input reads as it did. -/
def cellsPlaysUptoRow : OpenClaim := { program := "ytiemmoklhohdnaa", sum := "154b06de36c309a7c9ea1cfd1fbf1635fe5663f456c09dab516ea7d7f107ec3a", func := "coachhouse/coachhouselaw02.CellsPlays", spec := "cellsPlays", unfollowed := true, recurses := true, apart := false, narrowed := true }
def CellsPlaysUptoSaid : Prop := cellsPlaysUptoRow.holds Try.pinned (OpenSpec.upto cellsPlaysSpec)

/-- 'coachhouselaw02.CellsOne', WHERE WHAT IT READS IS OF BULK AT MOST 1048576: true; the input reads as it did. -/
def cellsOneUptoRow : OpenClaim := { program := "ytiemmoklhohdnaa", sum := "154b06de36c309a7c9ea1cfd1fbf1635fe5663f456c09dab516ea7d7f107ec3a", func := "coachhouse/coachhouselaw02.CellsOne", spec := "cellsOne", unfollowed := true, recurses := true, apart := false, narrowed := true }
def CellsOneUptoSaid : Prop := cellsOneUptoRow.holds Try.pinned (OpenSpec.upto cellsOneSpec)

/-- 'coachhouselaw02.CellsAlone', WHERE WHAT IT READS IS OF BULK AT MOST 1048576: true; the input reads as it did. -/
def cellsAloneUptoRow : OpenClaim := { program := "ytiemmoklhohdnaa", sum := "154b06de36c309a7c9ea1cfd1fbf1635fe5663f456c09dab516ea7d7f107ec3a", func := "coachhouse/coachhouselaw02.CellsAlone", spec := "cellsAlone", unfollowed := true, recurses := true, apart := false, narrowed := true }
def CellsAloneUptoSaid : Prop := cellsAloneUptoRow.holds Try.pinned (OpenSpec.upto cellsAloneSpec)

/-- 'coachhouselaw02.CellsTouch', WHERE WHAT IT READS IS OF BULK AT MOST 1048576: true; the input reads as it did. -/
def cellsTouchUptoRow : OpenClaim := { program := "ytiemmoklhohdnaa", sum := "154b06de36c309a7c9ea1cfd1fbf1635fe5663f456c09dab516ea7d7f107ec3a", func := "coachhouse/coachhouselaw02.CellsTouch", spec := "cellsTouch", unfollowed := true, recurses := true, apart := false, narrowed := true }
def CellsTouchUptoSaid : Prop := cellsTouchUptoRow.holds Try.pinned (OpenSpec.upto cellsTouchSpec)

/-- 'coachhouselaw02.CellsLast', WHERE WHAT IT READS IS OF BULK AT MOST 1048576: true; the input reads as it did. -/
def cellsLastUptoRow : OpenClaim := { program := "ytiemmoklhohdnaa", sum := "154b06de36c309a7c9ea1cfd1fbf1635fe5663f456c09dab516ea7d7f107ec3a", func := "coachhouse/coachhouselaw02.CellsLast", spec := "cellsLast", unfollowed := true, recurses := true, apart := false, narrowed := true }
def CellsLastUptoSaid : Prop := cellsLastUptoRow.holds Try.pinned (OpenSpec.upto cellsLastSpec)

/-- 'coachhouselaw02.CellsCopies', WHERE WHAT IT READS IS OF BULK AT MOST 1048576: true; the input reads as it did. -/
def cellsCopiesUptoRow : OpenClaim := { program := "ytiemmoklhohdnaa", sum := "154b06de36c309a7c9ea1cfd1fbf1635fe5663f456c09dab516ea7d7f107ec3a", func := "coachhouse/coachhouselaw02.CellsCopies", spec := "cellsCopies", unfollowed := true, recurses := true, apart := false, narrowed := true }
def CellsCopiesUptoSaid : Prop := cellsCopiesUptoRow.holds Try.pinned (OpenSpec.upto cellsCopiesSpec)

end Rows
end Go.Proofs.Ytiemmoklhohdnaa
