/-
  No cell of these rows narrows 'for every input' (looked for: loops, veiled, ifaces, maps, wideKeys, modest, calm, conditions, laid).
  DERIVED. THE GIVEN ROWS OF THIS SEAT. 5 by the template 'for every input the law returns true; each argument reads behind the call as it read before'; 0 by the template 'total and deterministic' (their statements: YtahkkodeppeknaaTotals.lean).
  GIVEN WITH THE SEED: the statements are not yours to turn. If you find one false, say at which input.
  Laid BY PROGRAM, IN A SANDBOX (cutbox-rows.mjs): the forced cells as the released guide's own fill.sh prints them over the translation 2d7ee10840a6b3a6… (all of the seat's roots in one cut). By AI agents, Wed Nov 11 2026. No macro, syntax, notation, axiom, sorry.
-/
import Derived.Test.YtahkkodeppeknaaChecked
import GoSem.Claim
import GoSem.ClaimJoined
import GoSem.ClaimMapViews
import Derived.JoinedTies
import Derived.KernelRfl
namespace Go.Proofs.Ytahkkodeppeknaa
/- THE CELL 'sum', in the pinned program and in every row, IS THE sha256 OF THE DUMP (.gsa) THAT YtahkkodeppeknaaProg.lean LOADS. Nothing in Lean hashes anything: it is a label: what it is worth is what the hold of that sum in a sandbox is worth. -/
noncomputable def Try.pinned : Pinned := { name := "ytahkkodeppeknaa", sum := "2d7ee10840a6b3a6b4580b152e9460e3e971bae5701a99d4e82568c31325b7e4", checked := Try.checked }
namespace Rows
def none {H : Type} : Left H := { results := [], args := [] }

/-- 'coachhouselaw04.RoundOnce': WHATEVER THE INPUT: true; the input reads as it did. -/
def roundOnceSpec : ChangeSpec := { name := "roundOnce", fn := fun _ => fun
  | [d1, d2] => { results := [.lit (.bool true)], args := [d1, d2] }
  | _ => none }
def roundOnceRow : OpenClaim := { program := "ytahkkodeppeknaa", sum := "2d7ee10840a6b3a6b4580b152e9460e3e971bae5701a99d4e82568c31325b7e4", func := "coachhouse/coachhouselaw04.RoundOnce", spec := "roundOnce", unfollowed := true, recurses := true, apart := false }
def RoundOnceSaid : Prop := roundOnceRow.holds Try.pinned (OpenSpec.ofChange roundOnceSpec)

/-- ITS FALSE NEIGHBOUR: 'it returns false'. Refute it at one input. -/
def roundOnceWrong : ChangeSpec := { name := "roundOnce", fn := fun _ => fun
  | [d1, d2] => { results := [.lit (.bool false)], args := [d1, d2] }
  | _ => none }
def RoundOnceWrongFalsely : Prop := roundOnceRow.holds Try.pinned (OpenSpec.ofChange roundOnceWrong)

/-- 'coachhouselaw04.RoundTells': WHATEVER THE INPUT: true; the input reads as it did. -/
def roundTellsSpec : ChangeSpec := { name := "roundTells", fn := fun _ => fun
  | [d1, d2, d3] => { results := [.lit (.bool true)], args := [d1, d2, d3] }
  | _ => none }
def roundTellsRow : OpenClaim := { program := "ytahkkodeppeknaa", sum := "2d7ee10840a6b3a6b4580b152e9460e3e971bae5701a99d4e82568c31325b7e4", func := "coachhouse/coachhouselaw04.RoundTells", spec := "roundTells", unfollowed := true, recurses := true, apart := false }
def RoundTellsSaid : Prop := roundTellsRow.holds Try.pinned (OpenSpec.ofChange roundTellsSpec)

/-- ITS FALSE NEIGHBOUR: 'it returns false'. Refute it at one input. -/
def roundTellsWrong : ChangeSpec := { name := "roundTells", fn := fun _ => fun
  | [d1, d2, d3] => { results := [.lit (.bool false)], args := [d1, d2, d3] }
  | _ => none }
def RoundTellsWrongFalsely : Prop := roundTellsRow.holds Try.pinned (OpenSpec.ofChange roundTellsWrong)

/-- 'coachhouselaw04.RoundAsks': WHATEVER THE INPUT: true; the input reads as it did. -/
def roundAsksSpec : ChangeSpec := { name := "roundAsks", fn := fun _ => fun
  | [d1, d2, d3] => { results := [.lit (.bool true)], args := [d1, d2, d3] }
  | _ => none }
def roundAsksRow : OpenClaim := { program := "ytahkkodeppeknaa", sum := "2d7ee10840a6b3a6b4580b152e9460e3e971bae5701a99d4e82568c31325b7e4", func := "coachhouse/coachhouselaw04.RoundAsks", spec := "roundAsks", unfollowed := true, recurses := true, apart := false }
def RoundAsksSaid : Prop := roundAsksRow.holds Try.pinned (OpenSpec.ofChange roundAsksSpec)

/-- ITS FALSE NEIGHBOUR: 'it returns false'. Refute it at one input. -/
def roundAsksWrong : ChangeSpec := { name := "roundAsks", fn := fun _ => fun
  | [d1, d2, d3] => { results := [.lit (.bool false)], args := [d1, d2, d3] }
  | _ => none }
def RoundAsksWrongFalsely : Prop := roundAsksRow.holds Try.pinned (OpenSpec.ofChange roundAsksWrong)

/-- 'coachhouselaw04.RoundChains': WHATEVER THE INPUT: true; the input reads as it did. -/
def roundChainsSpec : ChangeSpec := { name := "roundChains", fn := fun _ => fun
  | [d1, d2, d3, d4] => { results := [.lit (.bool true)], args := [d1, d2, d3, d4] }
  | _ => none }
def roundChainsRow : OpenClaim := { program := "ytahkkodeppeknaa", sum := "2d7ee10840a6b3a6b4580b152e9460e3e971bae5701a99d4e82568c31325b7e4", func := "coachhouse/coachhouselaw04.RoundChains", spec := "roundChains", unfollowed := true, recurses := true, apart := false }
def RoundChainsSaid : Prop := roundChainsRow.holds Try.pinned (OpenSpec.ofChange roundChainsSpec)

/-- ITS FALSE NEIGHBOUR: 'it returns false'. Refute it at one input. -/
def roundChainsWrong : ChangeSpec := { name := "roundChains", fn := fun _ => fun
  | [d1, d2, d3, d4] => { results := [.lit (.bool false)], args := [d1, d2, d3, d4] }
  | _ => none }
def RoundChainsWrongFalsely : Prop := roundChainsRow.holds Try.pinned (OpenSpec.ofChange roundChainsWrong)

/-- 'coachhouselaw04.RoundParts': WHATEVER THE INPUT: true; the input reads as it did. -/
def roundPartsSpec : ChangeSpec := { name := "roundParts", fn := fun _ => fun
  | [d1, d2, d3] => { results := [.lit (.bool true)], args := [d1, d2, d3] }
  | _ => none }
def roundPartsRow : OpenClaim := { program := "ytahkkodeppeknaa", sum := "2d7ee10840a6b3a6b4580b152e9460e3e971bae5701a99d4e82568c31325b7e4", func := "coachhouse/coachhouselaw04.RoundParts", spec := "roundParts", unfollowed := true, recurses := true, apart := false }
def RoundPartsSaid : Prop := roundPartsRow.holds Try.pinned (OpenSpec.ofChange roundPartsSpec)

/-- ITS FALSE NEIGHBOUR: 'it returns false'. Refute it at one input. -/
def roundPartsWrong : ChangeSpec := { name := "roundParts", fn := fun _ => fun
  | [d1, d2, d3] => { results := [.lit (.bool false)], args := [d1, d2, d3] }
  | _ => none }
def RoundPartsWrongFalsely : Prop := roundPartsRow.holds Try.pinned (OpenSpec.ofChange roundPartsWrong)

/- THE SECOND FORM. 'bulk': how many values and letters a reading holds, each counted each time it is reached (what is shared counts as often as it is met; a slice's spare places count too). A statement '..UptoSaid' is the law's where the arguments, and the package variables that the reading takes, are together of bulk at most 1048576: NARROWER than '..Said'. Prove '..Said' where nothing that the law and all that it calls make is longer than what came in: it says more and counts as full. Else prove '..UptoSaid'. A law counts once. -/
mutual
def uptoBulk {H : Type} : DataW H → Nat
  | .lit (.string bytes) => bytes.length + 1
  | .lit _ => 1
  | .nil => 1
  | .ptr d => uptoBulk d + 1
  | .slice elems spare => uptoBulkAll elems + uptoBulkAll spare + 1
  | .agg parts => uptoBulkAll parts + 1
  | .iface _ d => uptoBulk d + 1
  | .map entries => uptoBulkEntries entries + 1
  | .held _ => 1
def uptoBulkAll {H : Type} : List (DataW H) → Nat
  | [] => 0
  | d :: r => uptoBulk d + uptoBulkAll r
def uptoBulkEntries {H : Type} : List (Lit × DataW H) → Nat
  | [] => 0
  | x :: r => uptoBulkEntry x + uptoBulkEntries r
def uptoBulkEntry {H : Type} : Lit × DataW H → Nat
  | (.string bytes, d) => bytes.length + uptoBulk d + 1
  | (_, d) => uptoBulk d + 1
 end
def uptoSmall : (H : Type) → List (DataW H) → Bool := fun _ ds => decide (uptoBulkAll ds ≤ 1048576)
def OpenSpec.upto (s : _root_.Go.ChangeSpec) : _root_.Go.OpenSpec := { _root_.Go.OpenSpec.ofChange s with cond := some uptoSmall }

/-- 'coachhouselaw04.RoundOnce', WHERE WHAT IT READS IS OF BULK AT MOST 1048576: true; the input reads as it did. -/
def roundOnceUptoRow : OpenClaim := { program := "ytahkkodeppeknaa", sum := "2d7ee10840a6b3a6b4580b152e9460e3e971bae5701a99d4e82568c31325b7e4", func := "coachhouse/coachhouselaw04.RoundOnce", spec := "roundOnce", unfollowed := true, recurses := true, apart := false, narrowed := true }
def RoundOnceUptoSaid : Prop := roundOnceUptoRow.holds Try.pinned (OpenSpec.upto roundOnceSpec)

/-- 'coachhouselaw04.RoundTells', WHERE WHAT IT READS IS OF BULK AT MOST 1048576: true; the input reads as it did. -/
def roundTellsUptoRow : OpenClaim := { program := "ytahkkodeppeknaa", sum := "2d7ee10840a6b3a6b4580b152e9460e3e971bae5701a99d4e82568c31325b7e4", func := "coachhouse/coachhouselaw04.RoundTells", spec := "roundTells", unfollowed := true, recurses := true, apart := false, narrowed := true }
def RoundTellsUptoSaid : Prop := roundTellsUptoRow.holds Try.pinned (OpenSpec.upto roundTellsSpec)

/-- 'coachhouselaw04.RoundAsks', WHERE WHAT IT READS IS OF BULK AT MOST 1048576: true; the input reads as it did. -/
def roundAsksUptoRow : OpenClaim := { program := "ytahkkodeppeknaa", sum := "2d7ee10840a6b3a6b4580b152e9460e3e971bae5701a99d4e82568c31325b7e4", func := "coachhouse/coachhouselaw04.RoundAsks", spec := "roundAsks", unfollowed := true, recurses := true, apart := false, narrowed := true }
def RoundAsksUptoSaid : Prop := roundAsksUptoRow.holds Try.pinned (OpenSpec.upto roundAsksSpec)

/-- 'coachhouselaw04.RoundChains', WHERE WHAT IT READS IS OF BULK AT MOST 1048576: true; the input reads as it did. -/
def roundChainsUptoRow : OpenClaim := { program := "ytahkkodeppeknaa", sum := "2d7ee10840a6b3a6b4580b152e9460e3e971bae5701a99d4e82568c31325b7e4", func := "coachhouse/coachhouselaw04.RoundChains", spec := "roundChains", unfollowed := true, recurses := true, apart := false, narrowed := true }
def RoundChainsUptoSaid : Prop := roundChainsUptoRow.holds Try.pinned (OpenSpec.upto roundChainsSpec)

/-- 'coachhouselaw04.RoundParts', WHERE WHAT IT READS IS OF BULK AT MOST 1048576: true; the input reads as it did. -/
def roundPartsUptoRow : OpenClaim := { program := "ytahkkodeppeknaa", sum := "2d7ee10840a6b3a6b4580b152e9460e3e971bae5701a99d4e82568c31325b7e4", func := "coachhouse/coachhouselaw04.RoundParts", spec := "roundParts", unfollowed := true, recurses := true, apart := false, narrowed := true }
def RoundPartsUptoSaid : Prop := roundPartsUptoRow.holds Try.pinned (OpenSpec.upto roundPartsSpec)

end Rows
end Go.Proofs.Ytahkkodeppeknaa
