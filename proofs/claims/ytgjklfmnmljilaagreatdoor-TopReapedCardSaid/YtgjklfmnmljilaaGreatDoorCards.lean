/-
  DERIVED. GIVEN WITH THE SEED: THE CARDS: each row of YtgjklfmnmljilaaGreatDoorRows.lean that lists a variable, with what it lists TIED to the program's text (the seventh form; the later family's looks); each row that meets fmt, with fmt's text TOLD by the authors' own Lean function (tested against real Go, not proved from fmt's source: count such statements apart). THE CARD IS WHAT COUNTS. Prove the row's statement (the work); the ties are given (YtgjklfmnmljilaaGreatDoorTie.lean); close each card by the builder's one call (the guide's Derived/Test/ToyasCard.lean, 'card_holds'). Laid BY PROGRAM, IN A SANDBOX (cutbox-door.mjs). By AI agents, Wed Nov 11 2026. No macro, syntax, notation, axiom, sorry.
-/
import Derived.Test.YtgjklfmnmljilaaGreatDoorRows
import GoSem.ClaimSeven
namespace Go.Proofs.YtgjklfmnmljilaaGreatDoor
namespace Rows

/-- THE TIED CARD OF 'coachhousetop.TopSettles'. -/
def topSettlesCard : Claim7 := { stood := { row := topSettlesRow, standIns := [], harness := (true, "965f1e039195703d9f591f3dfca38b29532b85b8d690fd4f0e8ea4acfa2dcd32"), looks := false }, kinds := [], alts := [], laidByText := true, laidKinds := [.data, .data, .data], laidTests := true, laidLooks := .later }
def TopSettlesCardSaid : Prop := Claim7.holds Tryz.pinned (.plain (OpenSpec.ofChange topSettlesSpec)) topSettlesCard

/-- THE TIED CARD OF 'coachhousetop.TopReaped'. -/
def topReapedCard : Claim7 := { stood := { row := topReapedRow, standIns := [], harness := (true, "965f1e039195703d9f591f3dfca38b29532b85b8d690fd4f0e8ea4acfa2dcd32"), looks := false }, kinds := [], alts := [], laidByText := true, laidKinds := [.data, .data, .data], laidTests := true, laidLooks := .later }
def TopReapedCardSaid : Prop := Claim7.holds Tryz.pinned (.plain (OpenSpec.ofChange topReapedSpec)) topReapedCard

/-- THE TIED CARD OF 'coachhousetop.TopSlots'. -/
def topSlotsCard : Claim7 := { stood := { row := topSlotsRow, standIns := [], harness := (true, "965f1e039195703d9f591f3dfca38b29532b85b8d690fd4f0e8ea4acfa2dcd32"), looks := false }, kinds := [], alts := [], laidByText := true, laidKinds := [.data, .data, .data], laidTests := true, laidLooks := .later }
def TopSlotsCardSaid : Prop := Claim7.holds Tryz.pinned (.plain (OpenSpec.ofChange topSlotsSpec)) topSlotsCard

/-- THE SECOND FORM's CARD OF 'coachhousetop.TopSettles'. -/
def topSettlesUptoCard : Claim7 := { stood := { row := topSettlesUptoRow, standIns := [], harness := (true, "965f1e039195703d9f591f3dfca38b29532b85b8d690fd4f0e8ea4acfa2dcd32"), looks := false }, kinds := [], alts := [], laidByText := true, laidKinds := [.data, .data, .data], laidTests := true, laidLooks := .later }
def TopSettlesUptoCardSaid : Prop := Claim7.holds Tryz.pinned (.plain (OpenSpec.upto topSettlesSpec)) topSettlesUptoCard

/-- THE SECOND FORM's CARD OF 'coachhousetop.TopReaped'. -/
def topReapedUptoCard : Claim7 := { stood := { row := topReapedUptoRow, standIns := [], harness := (true, "965f1e039195703d9f591f3dfca38b29532b85b8d690fd4f0e8ea4acfa2dcd32"), looks := false }, kinds := [], alts := [], laidByText := true, laidKinds := [.data, .data, .data], laidTests := true, laidLooks := .later }
def TopReapedUptoCardSaid : Prop := Claim7.holds Tryz.pinned (.plain (OpenSpec.upto topReapedSpec)) topReapedUptoCard

/-- THE SECOND FORM's CARD OF 'coachhousetop.TopSlots'. -/
def topSlotsUptoCard : Claim7 := { stood := { row := topSlotsUptoRow, standIns := [], harness := (true, "965f1e039195703d9f591f3dfca38b29532b85b8d690fd4f0e8ea4acfa2dcd32"), looks := false }, kinds := [], alts := [], laidByText := true, laidKinds := [.data, .data, .data], laidTests := true, laidLooks := .later }
def TopSlotsUptoCardSaid : Prop := Claim7.holds Tryz.pinned (.plain (OpenSpec.upto topSlotsSpec)) topSlotsUptoCard
end Rows
end Go.Proofs.YtgjklfmnmljilaaGreatDoor
