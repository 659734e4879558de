/-
  DERIVED. GIVEN WITH THE SEED: THE CARDS: each row of YtdkieabmeiojjaaGreatDoorRows.lean that lists a variable, with what it lists TIED to the program's text (the seventh form; the later family's looks); each row that meets fmt, with fmt's text TOLD by the authors' own Lean function (tested against real Go, not proved from fmt's source: count such statements apart). THE CARD IS WHAT COUNTS. Prove the row's statement (the work); the ties are given (YtdkieabmeiojjaaGreatDoorTie.lean); close each card by the builder's one call (the guide's Derived/Test/ToyasCard.lean, 'card_holds'). Laid BY PROGRAM, IN A SANDBOX (cutbox-door.mjs). By AI agents, Wed Nov 11 2026. No macro, syntax, notation, axiom, sorry.
-/
import Derived.Test.YtdkieabmeiojjaaGreatDoorRows
import GoSem.ClaimSeven
namespace Go.Proofs.YtdkieabmeiojjaaGreatDoor
namespace Rows

/-- THE TIED CARD OF 'bloomerylaw29.ScratchSame'. -/
def scratchSameCard : Claim7 := { stood := { row := scratchSameRow, standIns := [], harness := (true, "ff682dff42a9205fa0a0a462bedad632191ac8fce3472a771eba0fcf12d503dd"), looks := false }, kinds := [], alts := [], laidByText := true, laidKinds := [.data, .data, .data, .data, .pinned], laidTests := true, laidLooks := .later }
def ScratchSameCardSaid : Prop := Claim7.holds Tryz.pinned (.plain (OpenSpec.ofChange scratchSameSpec)) scratchSameCard

/-- THE TIED CARD OF 'bloomerylaw29.ScratchEnded'. -/
def scratchEndedCard : Claim7 := { stood := { row := scratchEndedRow, standIns := [], harness := (true, "ff682dff42a9205fa0a0a462bedad632191ac8fce3472a771eba0fcf12d503dd"), looks := false }, kinds := [], alts := [], laidByText := true, laidKinds := [.data, .data, .data, .data, .pinned], laidTests := true, laidLooks := .later }
def ScratchEndedCardSaid : Prop := Claim7.holds Tryz.pinned (.plain (OpenSpec.ofChange scratchEndedSpec)) scratchEndedCard

/-- THE SECOND FORM's CARD OF 'bloomerylaw29.ScratchSame'. -/
def scratchSameUptoCard : Claim7 := { stood := { row := scratchSameUptoRow, standIns := [], harness := (true, "ff682dff42a9205fa0a0a462bedad632191ac8fce3472a771eba0fcf12d503dd"), looks := false }, kinds := [], alts := [], laidByText := true, laidKinds := [.data, .data, .data, .data, .pinned], laidTests := true, laidLooks := .later }
def ScratchSameUptoCardSaid : Prop := Claim7.holds Tryz.pinned (.plain (OpenSpec.upto scratchSameSpec)) scratchSameUptoCard

/-- THE SECOND FORM's CARD OF 'bloomerylaw29.ScratchEnded'. -/
def scratchEndedUptoCard : Claim7 := { stood := { row := scratchEndedUptoRow, standIns := [], harness := (true, "ff682dff42a9205fa0a0a462bedad632191ac8fce3472a771eba0fcf12d503dd"), looks := false }, kinds := [], alts := [], laidByText := true, laidKinds := [.data, .data, .data, .data, .pinned], laidTests := true, laidLooks := .later }
def ScratchEndedUptoCardSaid : Prop := Claim7.holds Tryz.pinned (.plain (OpenSpec.upto scratchEndedSpec)) scratchEndedUptoCard
end Rows
end Go.Proofs.YtdkieabmeiojjaaGreatDoor
