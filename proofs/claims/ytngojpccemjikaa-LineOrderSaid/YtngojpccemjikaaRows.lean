/-
  No cell of these rows narrows 'for every input' (looked for: loops, veiled, ifaces, maps, wideKeys, modest, calm, conditions, laid).
  DERIVED. THE GIVEN ROWS OF THIS SEAT. 6 by the template 'for every input the law returns true; each argument reads behind the call as it read before'; 0 by the template 'total and deterministic' (their statements: YtngojpccemjikaaTotals.lean).
  GIVEN WITH THE SEED: the statements are not yours to turn. If you find one false, say at which input.
  Laid BY PROGRAM, IN A SANDBOX (cutbox-rows.mjs): the forced cells as the released guide's own fill.sh prints them over the translation 8732eeb3db7fe898… (all of the seat's roots in one cut). By AI agents, Wed Nov 11 2026. No macro, syntax, notation, axiom, sorry.
-/
import Derived.Test.YtngojpccemjikaaChecked
import GoSem.Claim
import GoSem.ClaimJoined
import GoSem.ClaimMapViews
import Derived.JoinedTies
import Derived.KernelRfl
namespace Go.Proofs.Ytngojpccemjikaa
/- THE CELL 'sum', in the pinned program and in every row, IS THE sha256 OF THE DUMP (.gsa) THAT YtngojpccemjikaaProg.lean LOADS. Nothing in Lean hashes anything: it is a label: what it is worth is what the hold of that sum in a sandbox is worth. -/
noncomputable def Try.pinned : Pinned := { name := "ytngojpccemjikaa", sum := "8732eeb3db7fe89862b40cd09867341289725375cf7dc60014064c1550cf8028", checked := Try.checked }
namespace Rows
def none {H : Type} : Left H := { results := [], args := [] }

/-- 'coachhouselaw06.LineOf': WHATEVER THE INPUT: true; the input reads as it did. -/
def lineOfSpec : ChangeSpec := { name := "lineOf", fn := fun _ => fun
  | [d] => { results := [.lit (.bool true)], args := [d] }
  | _ => none }
def lineOfRow : OpenClaim := { program := "ytngojpccemjikaa", sum := "8732eeb3db7fe89862b40cd09867341289725375cf7dc60014064c1550cf8028", func := "coachhouse/coachhouselaw06.LineOf", spec := "lineOf", unfollowed := true, recurses := true, apart := false }
def LineOfSaid : Prop := lineOfRow.holds Try.pinned (OpenSpec.ofChange lineOfSpec)

/-- ITS FALSE NEIGHBOUR: 'it returns false'. Refute it at one input. -/
def lineOfWrong : ChangeSpec := { name := "lineOf", fn := fun _ => fun
  | [d] => { results := [.lit (.bool false)], args := [d] }
  | _ => none }
def LineOfWrongFalsely : Prop := lineOfRow.holds Try.pinned (OpenSpec.ofChange lineOfWrong)

/-- 'coachhouselaw06.LineDrops': WHATEVER THE INPUT: true; the input reads as it did. -/
def lineDropsSpec : ChangeSpec := { name := "lineDrops", fn := fun _ => fun
  | [d1, d2, d3] => { results := [.lit (.bool true)], args := [d1, d2, d3] }
  | _ => none }
def lineDropsRow : OpenClaim := { program := "ytngojpccemjikaa", sum := "8732eeb3db7fe89862b40cd09867341289725375cf7dc60014064c1550cf8028", func := "coachhouse/coachhouselaw06.LineDrops", spec := "lineDrops", unfollowed := true, recurses := true, apart := false }
def LineDropsSaid : Prop := lineDropsRow.holds Try.pinned (OpenSpec.ofChange lineDropsSpec)

/-- ITS FALSE NEIGHBOUR: 'it returns false'. Refute it at one input. -/
def lineDropsWrong : ChangeSpec := { name := "lineDrops", fn := fun _ => fun
  | [d1, d2, d3] => { results := [.lit (.bool false)], args := [d1, d2, d3] }
  | _ => none }
def LineDropsWrongFalsely : Prop := lineDropsRow.holds Try.pinned (OpenSpec.ofChange lineDropsWrong)

/-- 'coachhouselaw06.LineTells': WHATEVER THE INPUT: true; the input reads as it did. -/
def lineTellsSpec : ChangeSpec := { name := "lineTells", fn := fun _ => fun
  | [d1, d2] => { results := [.lit (.bool true)], args := [d1, d2] }
  | _ => none }
def lineTellsRow : OpenClaim := { program := "ytngojpccemjikaa", sum := "8732eeb3db7fe89862b40cd09867341289725375cf7dc60014064c1550cf8028", func := "coachhouse/coachhouselaw06.LineTells", spec := "lineTells", unfollowed := true, recurses := true, apart := false }
def LineTellsSaid : Prop := lineTellsRow.holds Try.pinned (OpenSpec.ofChange lineTellsSpec)

/-- ITS FALSE NEIGHBOUR: 'it returns false'. Refute it at one input. -/
def lineTellsWrong : ChangeSpec := { name := "lineTells", fn := fun _ => fun
  | [d1, d2] => { results := [.lit (.bool false)], args := [d1, d2] }
  | _ => none }
def LineTellsWrongFalsely : Prop := lineTellsRow.holds Try.pinned (OpenSpec.ofChange lineTellsWrong)

/-- 'coachhouselaw06.LineOrder': WHATEVER THE INPUT: true; the input reads as it did. -/
def lineOrderSpec : ChangeSpec := { name := "lineOrder", fn := fun _ => fun
  | [d] => { results := [.lit (.bool true)], args := [d] }
  | _ => none }
def lineOrderRow : OpenClaim := { program := "ytngojpccemjikaa", sum := "8732eeb3db7fe89862b40cd09867341289725375cf7dc60014064c1550cf8028", func := "coachhouse/coachhouselaw06.LineOrder", spec := "lineOrder", unfollowed := true, recurses := true, apart := false }
def LineOrderSaid : Prop := lineOrderRow.holds Try.pinned (OpenSpec.ofChange lineOrderSpec)

/-- ITS FALSE NEIGHBOUR: 'it returns false'. Refute it at one input. -/
def lineOrderWrong : ChangeSpec := { name := "lineOrder", fn := fun _ => fun
  | [d] => { results := [.lit (.bool false)], args := [d] }
  | _ => none }
def LineOrderWrongFalsely : Prop := lineOrderRow.holds Try.pinned (OpenSpec.ofChange lineOrderWrong)

/-- 'coachhouselaw06.LineBack': WHATEVER THE INPUT: true; the input reads as it did. -/
def lineBackSpec : ChangeSpec := { name := "lineBack", fn := fun _ => fun
  | [d1, d2, d3] => { results := [.lit (.bool true)], args := [d1, d2, d3] }
  | _ => none }
def lineBackRow : OpenClaim := { program := "ytngojpccemjikaa", sum := "8732eeb3db7fe89862b40cd09867341289725375cf7dc60014064c1550cf8028", func := "coachhouse/coachhouselaw06.LineBack", spec := "lineBack", unfollowed := true, recurses := true, apart := false }
def LineBackSaid : Prop := lineBackRow.holds Try.pinned (OpenSpec.ofChange lineBackSpec)

/-- ITS FALSE NEIGHBOUR: 'it returns false'. Refute it at one input. -/
def lineBackWrong : ChangeSpec := { name := "lineBack", fn := fun _ => fun
  | [d1, d2, d3] => { results := [.lit (.bool false)], args := [d1, d2, d3] }
  | _ => none }
def LineBackWrongFalsely : Prop := lineBackRow.holds Try.pinned (OpenSpec.ofChange lineBackWrong)

/-- 'coachhouselaw06.LineHead': WHATEVER THE INPUT: true; the input reads as it did. -/
def lineHeadSpec : ChangeSpec := { name := "lineHead", fn := fun _ => fun
  | [d] => { results := [.lit (.bool true)], args := [d] }
  | _ => none }
def lineHeadRow : OpenClaim := { program := "ytngojpccemjikaa", sum := "8732eeb3db7fe89862b40cd09867341289725375cf7dc60014064c1550cf8028", func := "coachhouse/coachhouselaw06.LineHead", spec := "lineHead", unfollowed := true, recurses := true, apart := false }
def LineHeadSaid : Prop := lineHeadRow.holds Try.pinned (OpenSpec.ofChange lineHeadSpec)

/-- ITS FALSE NEIGHBOUR: 'it returns false'. Refute it at one input. -/
def lineHeadWrong : ChangeSpec := { name := "lineHead", fn := fun _ => fun
  | [d] => { results := [.lit (.bool false)], args := [d] }
  | _ => none }
def LineHeadWrongFalsely : Prop := lineHeadRow.holds Try.pinned (OpenSpec.ofChange lineHeadWrong)

/- THE SECOND FORM. 'bulk': how many values and letters a reading holds, each counted each time it is reached (what is shared counts as often as it is met; a slice's spare places count too). A statement '..UptoSaid' is the law's where the arguments, and the package variables that the reading takes, are together of bulk at most 1048576: NARROWER than '..Said'. Prove '..Said' where nothing that the law and all that it calls make is longer than what came in: it says more and counts as full. Else prove '..UptoSaid'. A law counts once. -/
mutual
def uptoBulk {H : Type} : DataW H → Nat
  | .lit (.string bytes) => bytes.length + 1
  | .lit _ => 1
  | .nil => 1
  | .ptr d => uptoBulk d + 1
  | .slice elems spare => uptoBulkAll elems + uptoBulkAll spare + 1
  | .agg parts => uptoBulkAll parts + 1
  | .iface _ d => uptoBulk d + 1
  | .map entries => uptoBulkEntries entries + 1
  | .held _ => 1
def uptoBulkAll {H : Type} : List (DataW H) → Nat
  | [] => 0
  | d :: r => uptoBulk d + uptoBulkAll r
def uptoBulkEntries {H : Type} : List (Lit × DataW H) → Nat
  | [] => 0
  | x :: r => uptoBulkEntry x + uptoBulkEntries r
def uptoBulkEntry {H : Type} : Lit × DataW H → Nat
  | (.string bytes, d) => bytes.length + uptoBulk d + 1
  | (_, d) => uptoBulk d + 1
 end
def uptoSmall : (H : Type) → List (DataW H) → Bool := fun _ ds => decide (uptoBulkAll ds ≤ 1048576)
def OpenSpec.upto (s : _root_.Go.ChangeSpec) : _root_.Go.OpenSpec := { _root_.Go.OpenSpec.ofChange s with cond := some uptoSmall }

/-- 'coachhouselaw06.LineOf', WHERE WHAT IT READS IS OF BULK AT MOST 1048576: true; the input reads as it did. -/
def lineOfUptoRow : OpenClaim := { program := "ytngojpccemjikaa", sum := "8732eeb3db7fe89862b40cd09867341289725375cf7dc60014064c1550cf8028", func := "coachhouse/coachhouselaw06.LineOf", spec := "lineOf", unfollowed := true, recurses := true, apart := false, narrowed := true }
def LineOfUptoSaid : Prop := lineOfUptoRow.holds Try.pinned (OpenSpec.upto lineOfSpec)

/-- 'coachhouselaw06.LineDrops', WHERE WHAT IT READS IS OF BULK AT MOST 1048576: true; the input reads as it did. -/
def lineDropsUptoRow : OpenClaim := { program := "ytngojpccemjikaa", sum := "8732eeb3db7fe89862b40cd09867341289725375cf7dc60014064c1550cf8028", func := "coachhouse/coachhouselaw06.LineDrops", spec := "lineDrops", unfollowed := true, recurses := true, apart := false, narrowed := true }
def LineDropsUptoSaid : Prop := lineDropsUptoRow.holds Try.pinned (OpenSpec.upto lineDropsSpec)

/-- 'coachhouselaw06.LineTells', WHERE WHAT IT READS IS OF BULK AT MOST 1048576: true; the input reads as it did. -/
def lineTellsUptoRow : OpenClaim := { program := "ytngojpccemjikaa", sum := "8732eeb3db7fe89862b40cd09867341289725375cf7dc60014064c1550cf8028", func := "coachhouse/coachhouselaw06.LineTells", spec := "lineTells", unfollowed := true, recurses := true, apart := false, narrowed := true }
def LineTellsUptoSaid : Prop := lineTellsUptoRow.holds Try.pinned (OpenSpec.upto lineTellsSpec)

/-- 'coachhouselaw06.LineOrder', WHERE WHAT IT READS IS OF BULK AT MOST 1048576: true; the input reads as it did. -/
def lineOrderUptoRow : OpenClaim := { program := "ytngojpccemjikaa", sum := "8732eeb3db7fe89862b40cd09867341289725375cf7dc60014064c1550cf8028", func := "coachhouse/coachhouselaw06.LineOrder", spec := "lineOrder", unfollowed := true, recurses := true, apart := false, narrowed := true }
def LineOrderUptoSaid : Prop := lineOrderUptoRow.holds Try.pinned (OpenSpec.upto lineOrderSpec)

/-- 'coachhouselaw06.LineBack', WHERE WHAT IT READS IS OF BULK AT MOST 1048576: true; the input reads as it did. -/
def lineBackUptoRow : OpenClaim := { program := "ytngojpccemjikaa", sum := "8732eeb3db7fe89862b40cd09867341289725375cf7dc60014064c1550cf8028", func := "coachhouse/coachhouselaw06.LineBack", spec := "lineBack", unfollowed := true, recurses := true, apart := false, narrowed := true }
def LineBackUptoSaid : Prop := lineBackUptoRow.holds Try.pinned (OpenSpec.upto lineBackSpec)

/-- 'coachhouselaw06.LineHead', WHERE WHAT IT READS IS OF BULK AT MOST 1048576: true; the input reads as it did. -/
def lineHeadUptoRow : OpenClaim := { program := "ytngojpccemjikaa", sum := "8732eeb3db7fe89862b40cd09867341289725375cf7dc60014064c1550cf8028", func := "coachhouse/coachhouselaw06.LineHead", spec := "lineHead", unfollowed := true, recurses := true, apart := false, narrowed := true }
def LineHeadUptoSaid : Prop := lineHeadUptoRow.holds Try.pinned (OpenSpec.upto lineHeadSpec)

end Rows
end Go.Proofs.Ytngojpccemjikaa
