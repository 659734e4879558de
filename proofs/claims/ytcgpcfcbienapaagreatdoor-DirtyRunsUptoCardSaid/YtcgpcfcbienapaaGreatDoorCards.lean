/-
  DERIVED. GIVEN WITH THE SEED: THE CARDS: each row of YtcgpcfcbienapaaGreatDoorRows.lean that lists a variable, with what it lists TIED to the program's text (the seventh form; the later family's looks); each row that meets fmt, with fmt's text TOLD by the authors' own Lean function (tested against real Go, not proved from fmt's source: count such statements apart). THE CARD IS WHAT COUNTS. Prove the row's statement (the work); the ties are given (YtcgpcfcbienapaaGreatDoorTie.lean); close each card by the builder's one call (the guide's Derived/Test/ToyasCard.lean, 'card_holds'). Laid BY PROGRAM, IN A SANDBOX (cutbox-door.mjs). By AI agents, Wed Nov 11 2026. No macro, syntax, notation, axiom, sorry.
-/
import Derived.Test.YtcgpcfcbienapaaGreatDoorRows
import GoSem.ClaimSeven
namespace Go.Proofs.YtcgpcfcbienapaaGreatDoor
namespace Rows

/-- THE TIED CARD OF 'bloomerylaw27.DirtyRuns'. -/
def dirtyRunsCard : Claim7 := { stood := { row := dirtyRunsRow, standIns := [], harness := (true, "3ec89c97045fca7d332f8dac8e945265f4d2dcecf074108ab5ae9e32f433c1b4"), looks := true }, kinds := [], alts := [], laidByText := true, laidKinds := [.data, .data, .data, .data, .pinned], laidTests := true, laidLooks := .later }
def DirtyRunsCardSaid : Prop := Claim7.holds Tryz.pinned (.plain (OpenSpec.ofChange dirtyRunsSpec)) dirtyRunsCard

/-- THE TIED CARD OF 'bloomerylaw23.TraceBoxes'. -/
def traceBoxesCard : Claim7 := { stood := { row := traceBoxesRow, standIns := [], harness := (true, "3ec89c97045fca7d332f8dac8e945265f4d2dcecf074108ab5ae9e32f433c1b4"), looks := true }, kinds := [], alts := [], laidByText := true, laidKinds := [.data, .data, .data, .data, .sentinel, .sentinel, .pinned], laidTests := true, laidLooks := .later }
def TraceBoxesCardSaid : Prop := Claim7.holds Tryz.pinned (.plain (OpenSpec.ofChange traceBoxesSpec)) traceBoxesCard

/-- THE SECOND FORM's CARD OF 'bloomerylaw27.DirtyRuns'. -/
def dirtyRunsUptoCard : Claim7 := { stood := { row := dirtyRunsUptoRow, standIns := [], harness := (true, "3ec89c97045fca7d332f8dac8e945265f4d2dcecf074108ab5ae9e32f433c1b4"), looks := true }, kinds := [], alts := [], laidByText := true, laidKinds := [.data, .data, .data, .data, .pinned], laidTests := true, laidLooks := .later }
def DirtyRunsUptoCardSaid : Prop := Claim7.holds Tryz.pinned (.plain (OpenSpec.upto dirtyRunsSpec)) dirtyRunsUptoCard

/-- THE SECOND FORM's CARD OF 'bloomerylaw23.TraceBoxes'. -/
def traceBoxesUptoCard : Claim7 := { stood := { row := traceBoxesUptoRow, standIns := [], harness := (true, "3ec89c97045fca7d332f8dac8e945265f4d2dcecf074108ab5ae9e32f433c1b4"), looks := true }, kinds := [], alts := [], laidByText := true, laidKinds := [.data, .data, .data, .data, .sentinel, .sentinel, .pinned], laidTests := true, laidLooks := .later }
def TraceBoxesUptoCardSaid : Prop := Claim7.holds Tryz.pinned (.plain (OpenSpec.upto traceBoxesSpec)) traceBoxesUptoCard
end Rows
end Go.Proofs.YtcgpcfcbienapaaGreatDoor
