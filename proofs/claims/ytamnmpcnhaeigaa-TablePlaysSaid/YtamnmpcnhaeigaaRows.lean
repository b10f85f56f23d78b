/-
  No cell of these rows narrows 'for every input' (looked for: loops, veiled, ifaces, maps, wideKeys, modest, calm, conditions, laid).
  DERIVED. THE GIVEN ROWS OF THIS SEAT. 6 by the template 'for every input the law returns true; each argument reads behind the call as it read before'; 0 by the template 'total and deterministic' (their statements: YtamnmpcnhaeigaaTotals.lean).
  GIVEN WITH THE SEED: the statements are not yours to turn. If you find one false, say at which input.
  Laid BY PROGRAM, IN A SANDBOX (cutbox-rows.mjs): the forced cells as the released guide's own fill.sh prints them over the translation ca6b4f6582cba55c… (all of the seat's roots in one cut). By AI agents, Wed Nov 11 2026. No macro, syntax, notation, axiom, sorry.
-/
import Derived.Test.YtamnmpcnhaeigaaChecked
import GoSem.Claim
import GoSem.ClaimJoined
import GoSem.ClaimMapViews
import Derived.JoinedTies
import Derived.KernelRfl
namespace Go.Proofs.Ytamnmpcnhaeigaa
/- THE CELL 'sum', in the pinned program and in every row, IS THE sha256 OF THE DUMP (.gsa) THAT YtamnmpcnhaeigaaProg.lean LOADS. Nothing in Lean hashes anything: it is a label: what it is worth is what the hold of that sum in a sandbox is worth. -/
noncomputable def Try.pinned : Pinned := { name := "ytamnmpcnhaeigaa", sum := "ca6b4f6582cba55c4c924c5439ac1d1d8abed7f6115d984f0e6ee52ea4b89704", checked := Try.checked }
namespace Rows
def none {H : Type} : Left H := { results := [], args := [] }

/-- 'coachhouselaw05.TableOrder': WHATEVER THE INPUT: true; the input reads as it did. -/
def tableOrderSpec : ChangeSpec := { name := "tableOrder", fn := fun _ => fun
  | [d] => { results := [.lit (.bool true)], args := [d] }
  | _ => none }
def tableOrderRow : OpenClaim := { program := "ytamnmpcnhaeigaa", sum := "ca6b4f6582cba55c4c924c5439ac1d1d8abed7f6115d984f0e6ee52ea4b89704", func := "coachhouse/coachhouselaw05.TableOrder", spec := "tableOrder", inPlace := ["slices.overlaps[coachhouse/table.kept[int, string]]", "slices.overlaps[coachhouse/table.kept[int, int]]"], unfollowed := true, recurses := true, apart := false }
def TableOrderSaid : Prop := tableOrderRow.holds Try.pinned (OpenSpec.ofChange tableOrderSpec)

/-- ITS FALSE NEIGHBOUR: 'it returns false'. Refute it at one input. -/
def tableOrderWrong : ChangeSpec := { name := "tableOrder", fn := fun _ => fun
  | [d] => { results := [.lit (.bool false)], args := [d] }
  | _ => none }
def TableOrderWrongFalsely : Prop := tableOrderRow.holds Try.pinned (OpenSpec.ofChange tableOrderWrong)

/-- 'coachhouselaw05.TableAmid': WHATEVER THE INPUT: true; the input reads as it did. -/
def tableAmidSpec : ChangeSpec := { name := "tableAmid", fn := fun _ => fun
  | [d1, d2] => { results := [.lit (.bool true)], args := [d1, d2] }
  | _ => none }
def tableAmidRow : OpenClaim := { program := "ytamnmpcnhaeigaa", sum := "ca6b4f6582cba55c4c924c5439ac1d1d8abed7f6115d984f0e6ee52ea4b89704", func := "coachhouse/coachhouselaw05.TableAmid", spec := "tableAmid", inPlace := ["slices.overlaps[coachhouse/table.kept[int, string]]", "slices.overlaps[coachhouse/table.kept[int, int]]"], unfollowed := true, recurses := true, apart := false }
def TableAmidSaid : Prop := tableAmidRow.holds Try.pinned (OpenSpec.ofChange tableAmidSpec)

/-- ITS FALSE NEIGHBOUR: 'it returns false'. Refute it at one input. -/
def tableAmidWrong : ChangeSpec := { name := "tableAmid", fn := fun _ => fun
  | [d1, d2] => { results := [.lit (.bool false)], args := [d1, d2] }
  | _ => none }
def TableAmidWrongFalsely : Prop := tableAmidRow.holds Try.pinned (OpenSpec.ofChange tableAmidWrong)

/-- 'coachhouselaw05.TableTexts': WHATEVER THE INPUT: true; the input reads as it did. -/
def tableTextsSpec : ChangeSpec := { name := "tableTexts", fn := fun _ => fun
  | [d] => { results := [.lit (.bool true)], args := [d] }
  | _ => none }
def tableTextsRow : OpenClaim := { program := "ytamnmpcnhaeigaa", sum := "ca6b4f6582cba55c4c924c5439ac1d1d8abed7f6115d984f0e6ee52ea4b89704", func := "coachhouse/coachhouselaw05.TableTexts", spec := "tableTexts", inPlace := ["slices.overlaps[coachhouse/table.kept[int, string]]", "slices.overlaps[coachhouse/table.kept[string, int]]"], unfollowed := true, recurses := true, apart := false }
def TableTextsSaid : Prop := tableTextsRow.holds Try.pinned (OpenSpec.ofChange tableTextsSpec)

/-- ITS FALSE NEIGHBOUR: 'it returns false'. Refute it at one input. -/
def tableTextsWrong : ChangeSpec := { name := "tableTexts", fn := fun _ => fun
  | [d] => { results := [.lit (.bool false)], args := [d] }
  | _ => none }
def TableTextsWrongFalsely : Prop := tableTextsRow.holds Try.pinned (OpenSpec.ofChange tableTextsWrong)

/-- 'coachhouselaw05.TablePlays': WHATEVER THE INPUT: true; the input reads as it did. -/
def tablePlaysSpec : ChangeSpec := { name := "tablePlays", fn := fun _ => fun
  | [d] => { results := [.lit (.bool true)], args := [d] }
  | _ => none }
def tablePlaysRow : OpenClaim := { program := "ytamnmpcnhaeigaa", sum := "ca6b4f6582cba55c4c924c5439ac1d1d8abed7f6115d984f0e6ee52ea4b89704", func := "coachhouse/coachhouselaw05.TablePlays", spec := "tablePlays", inPlace := ["slices.overlaps[coachhouse/table.kept[int, string]]", "slices.overlaps[coachhouse/table.kept[int, int]]"], unfollowed := true, recurses := true, apart := false }
def TablePlaysSaid : Prop := tablePlaysRow.holds Try.pinned (OpenSpec.ofChange tablePlaysSpec)

/-- ITS FALSE NEIGHBOUR: 'it returns false'. Refute it at one input. -/
def tablePlaysWrong : ChangeSpec := { name := "tablePlays", fn := fun _ => fun
  | [d] => { results := [.lit (.bool false)], args := [d] }
  | _ => none }
def TablePlaysWrongFalsely : Prop := tablePlaysRow.holds Try.pinned (OpenSpec.ofChange tablePlaysWrong)

/-- 'coachhouselaw05.TableLatest': WHATEVER THE INPUT: true; the input reads as it did. -/
def tableLatestSpec : ChangeSpec := { name := "tableLatest", fn := fun _ => fun
  | [d] => { results := [.lit (.bool true)], args := [d] }
  | _ => none }
def tableLatestRow : OpenClaim := { program := "ytamnmpcnhaeigaa", sum := "ca6b4f6582cba55c4c924c5439ac1d1d8abed7f6115d984f0e6ee52ea4b89704", func := "coachhouse/coachhouselaw05.TableLatest", spec := "tableLatest", inPlace := ["slices.overlaps[coachhouse/table.kept[int, string]]", "slices.overlaps[coachhouse/table.kept[int, int]]"], unfollowed := true, recurses := true, apart := false }
def TableLatestSaid : Prop := tableLatestRow.holds Try.pinned (OpenSpec.ofChange tableLatestSpec)

/-- ITS FALSE NEIGHBOUR: 'it returns false'. Refute it at one input. -/
def tableLatestWrong : ChangeSpec := { name := "tableLatest", fn := fun _ => fun
  | [d] => { results := [.lit (.bool false)], args := [d] }
  | _ => none }
def TableLatestWrongFalsely : Prop := tableLatestRow.holds Try.pinned (OpenSpec.ofChange tableLatestWrong)

/-- 'coachhouselaw05.TableMany': WHATEVER THE INPUT: true; the input reads as it did. -/
def tableManySpec : ChangeSpec := { name := "tableMany", fn := fun _ => fun
  | [d1, d2, d3] => { results := [.lit (.bool true)], args := [d1, d2, d3] }
  | _ => none }
def tableManyRow : OpenClaim := { program := "ytamnmpcnhaeigaa", sum := "ca6b4f6582cba55c4c924c5439ac1d1d8abed7f6115d984f0e6ee52ea4b89704", func := "coachhouse/coachhouselaw05.TableMany", spec := "tableMany", inPlace := ["slices.overlaps[coachhouse/table.kept[int, string]]", "slices.overlaps[coachhouse/table.kept[int, int]]"], unfollowed := true, recurses := true, apart := false }
def TableManySaid : Prop := tableManyRow.holds Try.pinned (OpenSpec.ofChange tableManySpec)

/-- ITS FALSE NEIGHBOUR: 'it returns false'. Refute it at one input. -/
def tableManyWrong : ChangeSpec := { name := "tableMany", fn := fun _ => fun
  | [d1, d2, d3] => { results := [.lit (.bool false)], args := [d1, d2, d3] }
  | _ => none }
def TableManyWrongFalsely : Prop := tableManyRow.holds Try.pinned (OpenSpec.ofChange tableManyWrong)

/- THE SECOND FORM. 'bulk': how many values and letters a reading holds, each counted each time it is reached (what is shared counts as often as it is met; a slice's spare places count too). A statement '..UptoSaid' is the law's where the arguments, and the package variables that the reading takes, are together of bulk at most 1048576: NARROWER than '..Said'. Prove '..Said' where nothing that the law and all that it calls make is longer than what came in: it says more and counts as full. Else prove '..UptoSaid'. A law counts once. -/
mutual
def uptoBulk {H : Type} : DataW H → Nat
  | .lit (.string bytes) => bytes.length + 1
  | .lit _ => 1
  | .nil => 1
  | .ptr d => uptoBulk d + 1
  | .slice elems spare => uptoBulkAll elems + uptoBulkAll spare + 1
  | .agg parts => uptoBulkAll parts + 1
  | .iface _ d => uptoBulk d + 1
  | .map entries => uptoBulkEntries entries + 1
  | .held _ => 1
def uptoBulkAll {H : Type} : List (DataW H) → Nat
  | [] => 0
  | d :: r => uptoBulk d + uptoBulkAll r
def uptoBulkEntries {H : Type} : List (Lit × DataW H) → Nat
  | [] => 0
  | x :: r => uptoBulkEntry x + uptoBulkEntries r
def uptoBulkEntry {H : Type} : Lit × DataW H → Nat
  | (.string bytes, d) => bytes.length + uptoBulk d + 1
  | (_, d) => uptoBulk d + 1
 end
def uptoSmall : (H : Type) → List (DataW H) → Bool := fun _ ds => decide (uptoBulkAll ds ≤ 1048576)
def OpenSpec.upto (s : _root_.Go.ChangeSpec) : _root_.Go.OpenSpec := { _root_.Go.OpenSpec.ofChange s with cond := some uptoSmall }

/-- 'coachhouselaw05.TableOrder', WHERE WHAT IT READS IS OF BULK AT MOST 1048576: true; the input reads as it did. -/
def tableOrderUptoRow : OpenClaim := { program := "ytamnmpcnhaeigaa", sum := "ca6b4f6582cba55c4c924c5439ac1d1d8abed7f6115d984f0e6ee52ea4b89704", func := "coachhouse/coachhouselaw05.TableOrder", spec := "tableOrder", inPlace := ["slices.overlaps[coachhouse/table.kept[int, string]]", "slices.overlaps[coachhouse/table.kept[int, int]]"], unfollowed := true, recurses := true, apart := false, narrowed := true }
def TableOrderUptoSaid : Prop := tableOrderUptoRow.holds Try.pinned (OpenSpec.upto tableOrderSpec)

/-- 'coachhouselaw05.TableAmid', WHERE WHAT IT READS IS OF BULK AT MOST 1048576: true; the input reads as it did. -/
def tableAmidUptoRow : OpenClaim := { program := "ytamnmpcnhaeigaa", sum := "ca6b4f6582cba55c4c924c5439ac1d1d8abed7f6115d984f0e6ee52ea4b89704", func := "coachhouse/coachhouselaw05.TableAmid", spec := "tableAmid", inPlace := ["slices.overlaps[coachhouse/table.kept[int, string]]", "slices.overlaps[coachhouse/table.kept[int, int]]"], unfollowed := true, recurses := true, apart := false, narrowed := true }
def TableAmidUptoSaid : Prop := tableAmidUptoRow.holds Try.pinned (OpenSpec.upto tableAmidSpec)

/-- 'coachhouselaw05.TableTexts', WHERE WHAT IT READS IS OF BULK AT MOST 1048576: true; the input reads as it did. -/
def tableTextsUptoRow : OpenClaim := { program := "ytamnmpcnhaeigaa", sum := "ca6b4f6582cba55c4c924c5439ac1d1d8abed7f6115d984f0e6ee52ea4b89704", func := "coachhouse/coachhouselaw05.TableTexts", spec := "tableTexts", inPlace := ["slices.overlaps[coachhouse/table.kept[int, string]]", "slices.overlaps[coachhouse/table.kept[string, int]]"], unfollowed := true, recurses := true, apart := false, narrowed := true }
def TableTextsUptoSaid : Prop := tableTextsUptoRow.holds Try.pinned (OpenSpec.upto tableTextsSpec)

/-- 'coachhouselaw05.TablePlays', WHERE WHAT IT READS IS OF BULK AT MOST 1048576: true; the input reads as it did. -/
def tablePlaysUptoRow : OpenClaim := { program := "ytamnmpcnhaeigaa", sum := "ca6b4f6582cba55c4c924c5439ac1d1d8abed7f6115d984f0e6ee52ea4b89704", func := "coachhouse/coachhouselaw05.TablePlays", spec := "tablePlays", inPlace := ["slices.overlaps[coachhouse/table.kept[int, string]]", "slices.overlaps[coachhouse/table.kept[int, int]]"], unfollowed := true, recurses := true, apart := false, narrowed := true }
def TablePlaysUptoSaid : Prop := tablePlaysUptoRow.holds Try.pinned (OpenSpec.upto tablePlaysSpec)

/-- 'coachhouselaw05.TableLatest', WHERE WHAT IT READS IS OF BULK AT MOST 1048576: true; the input reads as it did. -/
def tableLatestUptoRow : OpenClaim := { program := "ytamnmpcnhaeigaa", sum := "ca6b4f6582cba55c4c924c5439ac1d1d8abed7f6115d984f0e6ee52ea4b89704", func := "coachhouse/coachhouselaw05.TableLatest", spec := "tableLatest", inPlace := ["slices.overlaps[coachhouse/table.kept[int, string]]", "slices.overlaps[coachhouse/table.kept[int, int]]"], unfollowed := true, recurses := true, apart := false, narrowed := true }
def TableLatestUptoSaid : Prop := tableLatestUptoRow.holds Try.pinned (OpenSpec.upto tableLatestSpec)

/-- 'coachhouselaw05.TableMany', WHERE WHAT IT READS IS OF BULK AT MOST 1048576: true; the input reads as it did. -/
def tableManyUptoRow : OpenClaim := { program := "ytamnmpcnhaeigaa", sum := "ca6b4f6582cba55c4c924c5439ac1d1d8abed7f6115d984f0e6ee52ea4b89704", func := "coachhouse/coachhouselaw05.TableMany", spec := "tableMany", inPlace := ["slices.overlaps[coachhouse/table.kept[int, string]]", "slices.overlaps[coachhouse/table.kept[int, int]]"], unfollowed := true, recurses := true, apart := false, narrowed := true }
def TableManyUptoSaid : Prop := tableManyUptoRow.holds Try.pinned (OpenSpec.upto tableManySpec)

end Rows
end Go.Proofs.Ytamnmpcnhaeigaa
