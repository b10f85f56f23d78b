/-
  No cell of these rows narrows 'for every input' (looked for: loops, veiled, ifaces, maps, wideKeys, modest, calm, conditions, laid).
  DERIVED. THE GIVEN ROWS OF THIS SEAT. 5 by the template 'for every input the law returns true; each argument reads behind the call as it read before'; 0 by the template 'total and deterministic' (their statements: YtdpefnebghljoaaTotals.lean).
  GIVEN WITH THE SEED: the statements are not yours to turn. If you find one false, say at which input.
  Laid BY PROGRAM, IN A SANDBOX (cutbox-rows.mjs): the forced cells as the released guide's own fill.sh prints them over the translation 8a73fbd3f96770b2… (all of the seat's roots in one cut). By AI agents, Wed Nov 11 2026. No macro, syntax, notation, axiom, sorry.
-/
import Derived.Test.YtdpefnebghljoaaChecked
import GoSem.Claim
import GoSem.ClaimJoined
import GoSem.ClaimMapViews
import Derived.JoinedTies
import Derived.KernelRfl
namespace Go.Proofs.Ytdpefnebghljoaa
/- THE CELL 'sum', in the pinned program and in every row, IS THE sha256 OF THE DUMP (.gsa) THAT YtdpefnebghljoaaProg.lean LOADS. Nothing in Lean hashes anything: it is a label: what it is worth is what the hold of that sum in a sandbox is worth. -/
noncomputable def Try.pinned : Pinned := { name := "ytdpefnebghljoaa", sum := "8a73fbd3f96770b218af528b5400942b365d3bb5f51863517a9e01f7968f5e37", checked := Try.checked }
namespace Rows
def none {H : Type} : Left H := { results := [], args := [] }

/-- 'coachhouselaw21.QueueRace': WHATEVER THE INPUT: true; the input reads as it did. -/
def queueRaceSpec : ChangeSpec := { name := "queueRace", fn := fun _ => fun
  | [d1, d2, d3] => { results := [.lit (.bool true)], args := [d1, d2, d3] }
  | _ => none }
def queueRaceRow : OpenClaim := { program := "ytdpefnebghljoaa", sum := "8a73fbd3f96770b218af528b5400942b365d3bb5f51863517a9e01f7968f5e37", func := "coachhouse/coachhouselaw21.QueueRace", spec := "queueRace", unfollowed := true, recurses := true, apart := false }
def QueueRaceSaid : Prop := queueRaceRow.holds Try.pinned (OpenSpec.ofChange queueRaceSpec)

/-- ITS FALSE NEIGHBOUR: 'it returns false'. Refute it at one input. -/
def queueRaceWrong : ChangeSpec := { name := "queueRace", fn := fun _ => fun
  | [d1, d2, d3] => { results := [.lit (.bool false)], args := [d1, d2, d3] }
  | _ => none }
def QueueRaceWrongFalsely : Prop := queueRaceRow.holds Try.pinned (OpenSpec.ofChange queueRaceWrong)

/-- 'coachhouselaw21.QueueLeaves': WHATEVER THE INPUT: true; the input reads as it did. -/
def queueLeavesSpec : ChangeSpec := { name := "queueLeaves", fn := fun _ => fun
  | [d1, d2, d3, d4] => { results := [.lit (.bool true)], args := [d1, d2, d3, d4] }
  | _ => none }
def queueLeavesRow : OpenClaim := { program := "ytdpefnebghljoaa", sum := "8a73fbd3f96770b218af528b5400942b365d3bb5f51863517a9e01f7968f5e37", func := "coachhouse/coachhouselaw21.QueueLeaves", spec := "queueLeaves", unfollowed := true, recurses := true, apart := false }
def QueueLeavesSaid : Prop := queueLeavesRow.holds Try.pinned (OpenSpec.ofChange queueLeavesSpec)

/-- ITS FALSE NEIGHBOUR: 'it returns false'. Refute it at one input. -/
def queueLeavesWrong : ChangeSpec := { name := "queueLeaves", fn := fun _ => fun
  | [d1, d2, d3, d4] => { results := [.lit (.bool false)], args := [d1, d2, d3, d4] }
  | _ => none }
def QueueLeavesWrongFalsely : Prop := queueLeavesRow.holds Try.pinned (OpenSpec.ofChange queueLeavesWrong)

/-- 'coachhouselaw21.QueueAgain': WHATEVER THE INPUT: true; the input reads as it did. -/
def queueAgainSpec : ChangeSpec := { name := "queueAgain", fn := fun _ => fun
  | [d1, d2] => { results := [.lit (.bool true)], args := [d1, d2] }
  | _ => none }
def queueAgainRow : OpenClaim := { program := "ytdpefnebghljoaa", sum := "8a73fbd3f96770b218af528b5400942b365d3bb5f51863517a9e01f7968f5e37", func := "coachhouse/coachhouselaw21.QueueAgain", spec := "queueAgain", unfollowed := true, recurses := true, apart := false }
def QueueAgainSaid : Prop := queueAgainRow.holds Try.pinned (OpenSpec.ofChange queueAgainSpec)

/-- ITS FALSE NEIGHBOUR: 'it returns false'. Refute it at one input. -/
def queueAgainWrong : ChangeSpec := { name := "queueAgain", fn := fun _ => fun
  | [d1, d2] => { results := [.lit (.bool false)], args := [d1, d2] }
  | _ => none }
def QueueAgainWrongFalsely : Prop := queueAgainRow.holds Try.pinned (OpenSpec.ofChange queueAgainWrong)

/-- 'coachhouselaw21.QueueDrains': WHATEVER THE INPUT: true; the input reads as it did. -/
def queueDrainsSpec : ChangeSpec := { name := "queueDrains", fn := fun _ => fun
  | [d1, d2, d3] => { results := [.lit (.bool true)], args := [d1, d2, d3] }
  | _ => none }
def queueDrainsRow : OpenClaim := { program := "ytdpefnebghljoaa", sum := "8a73fbd3f96770b218af528b5400942b365d3bb5f51863517a9e01f7968f5e37", func := "coachhouse/coachhouselaw21.QueueDrains", spec := "queueDrains", unfollowed := true, recurses := true, apart := false }
def QueueDrainsSaid : Prop := queueDrainsRow.holds Try.pinned (OpenSpec.ofChange queueDrainsSpec)

/-- ITS FALSE NEIGHBOUR: 'it returns false'. Refute it at one input. -/
def queueDrainsWrong : ChangeSpec := { name := "queueDrains", fn := fun _ => fun
  | [d1, d2, d3] => { results := [.lit (.bool false)], args := [d1, d2, d3] }
  | _ => none }
def QueueDrainsWrongFalsely : Prop := queueDrainsRow.holds Try.pinned (OpenSpec.ofChange queueDrainsWrong)

/-- 'coachhouselaw21.QueuePlays': WHATEVER THE INPUT: true; the input reads as it did. -/
def queuePlaysSpec : ChangeSpec := { name := "queuePlays", fn := fun _ => fun
  | [d1, d2, d3, d4, d5] => { results := [.lit (.bool true)], args := [d1, d2, d3, d4, d5] }
  | _ => none }
def queuePlaysRow : OpenClaim := { program := "ytdpefnebghljoaa", sum := "8a73fbd3f96770b218af528b5400942b365d3bb5f51863517a9e01f7968f5e37", func := "coachhouse/coachhouselaw21.QueuePlays", spec := "queuePlays", unfollowed := true, recurses := true, apart := false }
def QueuePlaysSaid : Prop := queuePlaysRow.holds Try.pinned (OpenSpec.ofChange queuePlaysSpec)

/-- ITS FALSE NEIGHBOUR: 'it returns false'. Refute it at one input. -/
def queuePlaysWrong : ChangeSpec := { name := "queuePlays", fn := fun _ => fun
  | [d1, d2, d3, d4, d5] => { results := [.lit (.bool false)], args := [d1, d2, d3, d4, d5] }
  | _ => none }
def QueuePlaysWrongFalsely : Prop := queuePlaysRow.holds Try.pinned (OpenSpec.ofChange queuePlaysWrong)

/- THE SECOND FORM. 'bulk': how many values and letters a reading holds, each counted each time it is reached (what is shared counts as often as it is met; a slice's spare places count too). A statement '..UptoSaid' is the law's where the arguments, and the package variables that the reading takes, are together of bulk at most 1048576: NARROWER than '..Said'. Prove '..Said' where nothing that the law and all that it calls make is longer than what came in: it says more and counts as full. Else prove '..UptoSaid'. A law counts once. -/
mutual
def uptoBulk {H : Type} : DataW H → Nat
  | .lit (.string bytes) => bytes.length + 1
  | .lit _ => 1
  | .nil => 1
  | .ptr d => uptoBulk d + 1
  | .slice elems spare => uptoBulkAll elems + uptoBulkAll spare + 1
  | .agg parts => uptoBulkAll parts + 1
  | .iface _ d => uptoBulk d + 1
  | .map entries => uptoBulkEntries entries + 1
  | .held _ => 1
def uptoBulkAll {H : Type} : List (DataW H) → Nat
  | [] => 0
  | d :: r => uptoBulk d + uptoBulkAll r
def uptoBulkEntries {H : Type} : List (Lit × DataW H) → Nat
  | [] => 0
  | x :: r => uptoBulkEntry x + uptoBulkEntries r
def uptoBulkEntry {H : Type} : Lit × DataW H → Nat
  | (.string bytes, d) => bytes.length + uptoBulk d + 1
  | (_, d) => uptoBulk d + 1
 end
def uptoSmall : (H : Type) → List (DataW H) → Bool := fun _ ds => decide (uptoBulkAll ds ≤ 1048576)
def OpenSpec.upto (s : _root_.Go.ChangeSpec) : _root_.Go.OpenSpec := { _root_.Go.OpenSpec.ofChange s with cond := some uptoSmall }

/-- 'coachhouselaw21.QueueRace', WHERE WHAT IT READS IS OF BULK AT MOST 1048576: true; the input reads as it did. -/
def queueRaceUptoRow : OpenClaim := { program := "ytdpefnebghljoaa", sum := "8a73fbd3f96770b218af528b5400942b365d3bb5f51863517a9e01f7968f5e37", func := "coachhouse/coachhouselaw21.QueueRace", spec := "queueRace", unfollowed := true, recurses := true, apart := false, narrowed := true }
def QueueRaceUptoSaid : Prop := queueRaceUptoRow.holds Try.pinned (OpenSpec.upto queueRaceSpec)

/-- 'coachhouselaw21.QueueLeaves', WHERE WHAT IT READS IS OF BULK AT MOST 1048576: true; the input reads as it did. -/
def queueLeavesUptoRow : OpenClaim := { program := "ytdpefnebghljoaa", sum := "8a73fbd3f96770b218af528b5400942b365d3bb5f51863517a9e01f7968f5e37", func := "coachhouse/coachhouselaw21.QueueLeaves", spec := "queueLeaves", unfollowed := true, recurses := true, apart := false, narrowed := true }
def QueueLeavesUptoSaid : Prop := queueLeavesUptoRow.holds Try.pinned (OpenSpec.upto queueLeavesSpec)

/-- 'coachhouselaw21.QueueAgain', WHERE WHAT IT READS IS OF BULK AT MOST 1048576: true; the input reads as it did. -/
def queueAgainUptoRow : OpenClaim := { program := "ytdpefnebghljoaa", sum := "8a73fbd3f96770b218af528b5400942b365d3bb5f51863517a9e01f7968f5e37", func := "coachhouse/coachhouselaw21.QueueAgain", spec := "queueAgain", unfollowed := true, recurses := true, apart := false, narrowed := true }
def QueueAgainUptoSaid : Prop := queueAgainUptoRow.holds Try.pinned (OpenSpec.upto queueAgainSpec)

/-- 'coachhouselaw21.QueueDrains', WHERE WHAT IT READS IS OF BULK AT MOST 1048576: true; the input reads as it did. -/
def queueDrainsUptoRow : OpenClaim := { program := "ytdpefnebghljoaa", sum := "8a73fbd3f96770b218af528b5400942b365d3bb5f51863517a9e01f7968f5e37", func := "coachhouse/coachhouselaw21.QueueDrains", spec := "queueDrains", unfollowed := true, recurses := true, apart := false, narrowed := true }
def QueueDrainsUptoSaid : Prop := queueDrainsUptoRow.holds Try.pinned (OpenSpec.upto queueDrainsSpec)

/-- 'coachhouselaw21.QueuePlays', WHERE WHAT IT READS IS OF BULK AT MOST 1048576: true; the input reads as it did. -/
def queuePlaysUptoRow : OpenClaim := { program := "ytdpefnebghljoaa", sum := "8a73fbd3f96770b218af528b5400942b365d3bb5f51863517a9e01f7968f5e37", func := "coachhouse/coachhouselaw21.QueuePlays", spec := "queuePlays", unfollowed := true, recurses := true, apart := false, narrowed := true }
def QueuePlaysUptoSaid : Prop := queuePlaysUptoRow.holds Try.pinned (OpenSpec.upto queuePlaysSpec)

end Rows
end Go.Proofs.Ytdpefnebghljoaa
