/-
  No cell of these rows narrows 'for every input' (looked for: loops, veiled, ifaces, maps, wideKeys, modest, calm, conditions, laid).
  DERIVED. THE GIVEN ROWS OF THIS SEAT. 5 by the template 'for every input the law returns true; each argument reads behind the call as it read before'; 0 by the template 'total and deterministic' (their statements: YtnjoefanafjniaaTotals.lean).
  GIVEN WITH THE SEED: the statements are not yours to turn. If you find one false, say at which input.
  Laid BY PROGRAM, IN A SANDBOX (cutbox-rows.mjs): the forced cells as the released guide's own fill.sh prints them over the translation fed14b38e15264a3… (all of the seat's roots in one cut). By AI agents, Wed Nov 11 2026. No macro, syntax, notation, axiom, sorry.
-/
import Derived.Test.YtnjoefanafjniaaChecked
import GoSem.Claim
import GoSem.ClaimJoined
import GoSem.ClaimMapViews
import Derived.JoinedTies
import Derived.KernelRfl
namespace Go.Proofs.Ytnjoefanafjniaa
/- THE CELL 'sum', in the pinned program and in every row, IS THE sha256 OF THE DUMP (.gsa) THAT YtnjoefanafjniaaProg.lean LOADS. Nothing in Lean hashes anything: it is a label: what it is worth is what the hold of that sum in a sandbox is worth. -/
noncomputable def Try.pinned : Pinned := { name := "ytnjoefanafjniaa", sum := "fed14b38e15264a33c0c56984fade14c97872a76643d0da5c8d8cbd9b2638c17", checked := Try.checked }
namespace Rows
def none {H : Type} : Left H := { results := [], args := [] }

/-- 'coachhouselaw15.TwiceLate': WHATEVER THE INPUT: true; the input reads as it did. -/
def twiceLateSpec : ChangeSpec := { name := "twiceLate", fn := fun _ => fun
  | [d1, d2] => { results := [.lit (.bool true)], args := [d1, d2] }
  | _ => none }
def twiceLateRow : OpenClaim := { program := "ytnjoefanafjniaa", sum := "fed14b38e15264a33c0c56984fade14c97872a76643d0da5c8d8cbd9b2638c17", func := "coachhouse/coachhouselaw15.TwiceLate", spec := "twiceLate", unfollowed := true, recurses := true, apart := false }
def TwiceLateSaid : Prop := twiceLateRow.holds Try.pinned (OpenSpec.ofChange twiceLateSpec)

/-- ITS FALSE NEIGHBOUR: 'it returns false'. Refute it at one input. -/
def twiceLateWrong : ChangeSpec := { name := "twiceLate", fn := fun _ => fun
  | [d1, d2] => { results := [.lit (.bool false)], args := [d1, d2] }
  | _ => none }
def TwiceLateWrongFalsely : Prop := twiceLateRow.holds Try.pinned (OpenSpec.ofChange twiceLateWrong)

/-- 'coachhouselaw15.TwiceMoment': WHATEVER THE INPUT: true; the input reads as it did. -/
def twiceMomentSpec : ChangeSpec := { name := "twiceMoment", fn := fun _ => fun
  | [d1, d2] => { results := [.lit (.bool true)], args := [d1, d2] }
  | _ => none }
def twiceMomentRow : OpenClaim := { program := "ytnjoefanafjniaa", sum := "fed14b38e15264a33c0c56984fade14c97872a76643d0da5c8d8cbd9b2638c17", func := "coachhouse/coachhouselaw15.TwiceMoment", spec := "twiceMoment", unfollowed := true, recurses := true, apart := false }
def TwiceMomentSaid : Prop := twiceMomentRow.holds Try.pinned (OpenSpec.ofChange twiceMomentSpec)

/-- ITS FALSE NEIGHBOUR: 'it returns false'. Refute it at one input. -/
def twiceMomentWrong : ChangeSpec := { name := "twiceMoment", fn := fun _ => fun
  | [d1, d2] => { results := [.lit (.bool false)], args := [d1, d2] }
  | _ => none }
def TwiceMomentWrongFalsely : Prop := twiceMomentRow.holds Try.pinned (OpenSpec.ofChange twiceMomentWrong)

/-- 'coachhouselaw15.TwiceAlone': WHATEVER THE INPUT: true; the input reads as it did. -/
def twiceAloneSpec : ChangeSpec := { name := "twiceAlone", fn := fun _ => fun
  | [d] => { results := [.lit (.bool true)], args := [d] }
  | _ => none }
def twiceAloneRow : OpenClaim := { program := "ytnjoefanafjniaa", sum := "fed14b38e15264a33c0c56984fade14c97872a76643d0da5c8d8cbd9b2638c17", func := "coachhouse/coachhouselaw15.TwiceAlone", spec := "twiceAlone", unfollowed := true, recurses := true, apart := false }
def TwiceAloneSaid : Prop := twiceAloneRow.holds Try.pinned (OpenSpec.ofChange twiceAloneSpec)

/-- ITS FALSE NEIGHBOUR: 'it returns false'. Refute it at one input. -/
def twiceAloneWrong : ChangeSpec := { name := "twiceAlone", fn := fun _ => fun
  | [d] => { results := [.lit (.bool false)], args := [d] }
  | _ => none }
def TwiceAloneWrongFalsely : Prop := twiceAloneRow.holds Try.pinned (OpenSpec.ofChange twiceAloneWrong)

/-- 'coachhouselaw15.TwiceTwo': WHATEVER THE INPUT: true; the input reads as it did. -/
def twiceTwoSpec : ChangeSpec := { name := "twiceTwo", fn := fun _ => fun
  | [d1, d2] => { results := [.lit (.bool true)], args := [d1, d2] }
  | _ => none }
def twiceTwoRow : OpenClaim := { program := "ytnjoefanafjniaa", sum := "fed14b38e15264a33c0c56984fade14c97872a76643d0da5c8d8cbd9b2638c17", func := "coachhouse/coachhouselaw15.TwiceTwo", spec := "twiceTwo", unfollowed := true, recurses := true, apart := false }
def TwiceTwoSaid : Prop := twiceTwoRow.holds Try.pinned (OpenSpec.ofChange twiceTwoSpec)

/-- ITS FALSE NEIGHBOUR: 'it returns false'. Refute it at one input. -/
def twiceTwoWrong : ChangeSpec := { name := "twiceTwo", fn := fun _ => fun
  | [d1, d2] => { results := [.lit (.bool false)], args := [d1, d2] }
  | _ => none }
def TwiceTwoWrongFalsely : Prop := twiceTwoRow.holds Try.pinned (OpenSpec.ofChange twiceTwoWrong)

/-- 'coachhouselaw15.TwicePlays': WHATEVER THE INPUT: true; the input reads as it did. -/
def twicePlaysSpec : ChangeSpec := { name := "twicePlays", fn := fun _ => fun
  | [d1, d2, d3] => { results := [.lit (.bool true)], args := [d1, d2, d3] }
  | _ => none }
def twicePlaysRow : OpenClaim := { program := "ytnjoefanafjniaa", sum := "fed14b38e15264a33c0c56984fade14c97872a76643d0da5c8d8cbd9b2638c17", func := "coachhouse/coachhouselaw15.TwicePlays", spec := "twicePlays", unfollowed := true, recurses := true, apart := false }
def TwicePlaysSaid : Prop := twicePlaysRow.holds Try.pinned (OpenSpec.ofChange twicePlaysSpec)

/-- ITS FALSE NEIGHBOUR: 'it returns false'. Refute it at one input. -/
def twicePlaysWrong : ChangeSpec := { name := "twicePlays", fn := fun _ => fun
  | [d1, d2, d3] => { results := [.lit (.bool false)], args := [d1, d2, d3] }
  | _ => none }
def TwicePlaysWrongFalsely : Prop := twicePlaysRow.holds Try.pinned (OpenSpec.ofChange twicePlaysWrong)

/- THE SECOND FORM. 'bulk': how many values and letters a reading holds, each counted each time it is reached (what is shared counts as often as it is met; a slice's spare places count too). A statement '..UptoSaid' is the law's where the arguments, and the package variables that the reading takes, are together of bulk at most 1048576: NARROWER than '..Said'. Prove '..Said' where nothing that the law and all that it calls make is longer than what came in: it says more and counts as full. Else prove '..UptoSaid'. A law counts once. -/
mutual
def uptoBulk {H : Type} : DataW H → Nat
  | .lit (.string bytes) => bytes.length + 1
  | .lit _ => 1
  | .nil => 1
  | .ptr d => uptoBulk d + 1
  | .slice elems spare => uptoBulkAll elems + uptoBulkAll spare + 1
  | .agg parts => uptoBulkAll parts + 1
  | .iface _ d => uptoBulk d + 1
  | .map entries => uptoBulkEntries entries + 1
  | .held _ => 1
def uptoBulkAll {H : Type} : List (DataW H) → Nat
  | [] => 0
  | d :: r => uptoBulk d + uptoBulkAll r
def uptoBulkEntries {H : Type} : List (Lit × DataW H) → Nat
  | [] => 0
  | x :: r => uptoBulkEntry x + uptoBulkEntries r
def uptoBulkEntry {H : Type} : Lit × DataW H → Nat
  | (.string bytes, d) => bytes.length + uptoBulk d + 1
  | (_, d) => uptoBulk d + 1
 end
def uptoSmall : (H : Type) → List (DataW H) → Bool := fun _ ds => decide (uptoBulkAll ds ≤ 1048576)
def OpenSpec.upto (s : _root_.Go.ChangeSpec) : _root_.Go.OpenSpec := { _root_.Go.OpenSpec.ofChange s with cond := some uptoSmall }

/-- 'coachhouselaw15.TwiceLate', WHERE WHAT IT READS IS OF BULK AT MOST 1048576: true; the input reads as it did. -/
def twiceLateUptoRow : OpenClaim := { program := "ytnjoefanafjniaa", sum := "fed14b38e15264a33c0c56984fade14c97872a76643d0da5c8d8cbd9b2638c17", func := "coachhouse/coachhouselaw15.TwiceLate", spec := "twiceLate", unfollowed := true, recurses := true, apart := false, narrowed := true }
def TwiceLateUptoSaid : Prop := twiceLateUptoRow.holds Try.pinned (OpenSpec.upto twiceLateSpec)

/-- 'coachhouselaw15.TwiceMoment', WHERE WHAT IT READS IS OF BULK AT MOST 1048576: true; the input reads as it did. -/
def twiceMomentUptoRow : OpenClaim := { program := "ytnjoefanafjniaa", sum := "fed14b38e15264a33c0c56984fade14c97872a76643d0da5c8d8cbd9b2638c17", func := "coachhouse/coachhouselaw15.TwiceMoment", spec := "twiceMoment", unfollowed := true, recurses := true, apart := false, narrowed := true }
def TwiceMomentUptoSaid : Prop := twiceMomentUptoRow.holds Try.pinned (OpenSpec.upto twiceMomentSpec)

/-- 'coachhouselaw15.TwiceAlone', WHERE WHAT IT READS IS OF BULK AT MOST 1048576: true; the input reads as it did. -/
def twiceAloneUptoRow : OpenClaim := { program := "ytnjoefanafjniaa", sum := "fed14b38e15264a33c0c56984fade14c97872a76643d0da5c8d8cbd9b2638c17", func := "coachhouse/coachhouselaw15.TwiceAlone", spec := "twiceAlone", unfollowed := true, recurses := true, apart := false, narrowed := true }
def TwiceAloneUptoSaid : Prop := twiceAloneUptoRow.holds Try.pinned (OpenSpec.upto twiceAloneSpec)

/-- 'coachhouselaw15.TwiceTwo', WHERE WHAT IT READS IS OF BULK AT MOST 1048576: true; the input reads as it did. -/
def twiceTwoUptoRow : OpenClaim := { program := "ytnjoefanafjniaa", sum := "fed14b38e15264a33c0c56984fade14c97872a76643d0da5c8d8cbd9b2638c17", func := "coachhouse/coachhouselaw15.TwiceTwo", spec := "twiceTwo", unfollowed := true, recurses := true, apart := false, narrowed := true }
def TwiceTwoUptoSaid : Prop := twiceTwoUptoRow.holds Try.pinned (OpenSpec.upto twiceTwoSpec)

/-- 'coachhouselaw15.TwicePlays', WHERE WHAT IT READS IS OF BULK AT MOST 1048576: true; the input reads as it did. -/
def twicePlaysUptoRow : OpenClaim := { program := "ytnjoefanafjniaa", sum := "fed14b38e15264a33c0c56984fade14c97872a76643d0da5c8d8cbd9b2638c17", func := "coachhouse/coachhouselaw15.TwicePlays", spec := "twicePlays", unfollowed := true, recurses := true, apart := false, narrowed := true }
def TwicePlaysUptoSaid : Prop := twicePlaysUptoRow.holds Try.pinned (OpenSpec.upto twicePlaysSpec)

end Rows
end Go.Proofs.Ytnjoefanafjniaa
