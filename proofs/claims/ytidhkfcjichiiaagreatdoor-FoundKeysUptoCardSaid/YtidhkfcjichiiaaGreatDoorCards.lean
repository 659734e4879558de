/-
  DERIVED. GIVEN WITH THE SEED: THE CARDS: each row of YtidhkfcjichiiaaGreatDoorRows.lean that lists a variable, with what it lists TIED to the program's text (the seventh form; the later family's looks); each row that meets fmt, with fmt's text TOLD by the authors' own Lean function (tested against real Go, not proved from fmt's source: count such statements apart). THE CARD IS WHAT COUNTS. Prove the row's statement (the work); the ties are given (YtidhkfcjichiiaaGreatDoorTie.lean); close each card by the builder's one call (the guide's Derived/Test/ToyasCard.lean, 'card_holds'). Laid BY PROGRAM, IN A SANDBOX (cutbox-door.mjs). By AI agents, Wed Nov 11 2026. No macro, syntax, notation, axiom, sorry.
-/
import Derived.Test.YtidhkfcjichiiaaGreatDoorRows
import GoSem.ClaimSeven
namespace Go.Proofs.YtidhkfcjichiiaaGreatDoor
namespace Rows

/-- THE TIED CARD OF 'bloomerylaw21.BoxRuns'. -/
def boxRunsCard : Claim7 := { stood := { row := boxRunsRow, standIns := [], harness := (true, "17863e185795a9b86d3fe2d27a3742d0af0a6ed434349696599df825ccd49d8d"), looks := true }, kinds := [], alts := [], laidByText := true, laidKinds := [.data, .data, .data, .data, .pinned], laidTests := true, laidLooks := .later }
def BoxRunsCardSaid : Prop := Claim7.holds Tryz.pinned (.plain (OpenSpec.ofChange boxRunsSpec)) boxRunsCard

/-- THE TIED CARD OF 'bloomerylaw21.BoxTools'. -/
def boxToolsCard : Claim7 := { stood := { row := boxToolsRow, standIns := [], harness := (true, "17863e185795a9b86d3fe2d27a3742d0af0a6ed434349696599df825ccd49d8d"), looks := true }, kinds := [], alts := [], laidByText := true, laidKinds := [.data, .data, .data, .data, .pinned], laidTests := true, laidLooks := .later }
def BoxToolsCardSaid : Prop := Claim7.holds Tryz.pinned (.plain (OpenSpec.ofChange boxToolsSpec)) boxToolsCard

/-- THE TIED CARD OF 'bloomerylaw27.DirtyRuns'. -/
def dirtyRunsCard : Claim7 := { stood := { row := dirtyRunsRow, standIns := [], harness := (true, "17863e185795a9b86d3fe2d27a3742d0af0a6ed434349696599df825ccd49d8d"), looks := true }, kinds := [], alts := [], laidByText := true, laidKinds := [.data, .data, .data, .data, .pinned], laidTests := true, laidLooks := .later }
def DirtyRunsCardSaid : Prop := Claim7.holds Tryz.pinned (.plain (OpenSpec.ofChange dirtyRunsSpec)) dirtyRunsCard

/-- THE TIED CARD OF 'bloomerylaw24.FoundKeys'. -/
def foundKeysCard : Claim7 := { stood := { row := foundKeysRow, standIns := [], harness := (true, "17863e185795a9b86d3fe2d27a3742d0af0a6ed434349696599df825ccd49d8d"), looks := true }, kinds := [], alts := [], laidByText := true, laidKinds := [.data, .data, .data, .data, .pinned], laidTests := true, laidLooks := .later }
def FoundKeysCardSaid : Prop := Claim7.holds Tryz.pinned (.plain (OpenSpec.ofChange foundKeysSpec)) foundKeysCard

/-- THE TIED CARD OF 'bloomerylaw24.FoundTraces'. -/
def foundTracesCard : Claim7 := { stood := { row := foundTracesRow, standIns := [], harness := (true, "17863e185795a9b86d3fe2d27a3742d0af0a6ed434349696599df825ccd49d8d"), looks := true }, kinds := [], alts := [], laidByText := true, laidKinds := [.data, .data, .data, .data, .pinned], laidTests := true, laidLooks := .later }
def FoundTracesCardSaid : Prop := Claim7.holds Tryz.pinned (.plain (OpenSpec.ofChange foundTracesSpec)) foundTracesCard

/-- THE TIED CARD OF 'bloomerylaw23.TraceBoxes'. -/
def traceBoxesCard : Claim7 := { stood := { row := traceBoxesRow, standIns := [], harness := (true, "17863e185795a9b86d3fe2d27a3742d0af0a6ed434349696599df825ccd49d8d"), looks := true }, kinds := [], alts := [], laidByText := true, laidKinds := [.data, .data, .data, .data, .sentinel, .sentinel, .pinned], laidTests := true, laidLooks := .later }
def TraceBoxesCardSaid : Prop := Claim7.holds Tryz.pinned (.plain (OpenSpec.ofChange traceBoxesSpec)) traceBoxesCard

/-- THE SECOND FORM's CARD OF 'bloomerylaw21.BoxRuns'. -/
def boxRunsUptoCard : Claim7 := { stood := { row := boxRunsUptoRow, standIns := [], harness := (true, "17863e185795a9b86d3fe2d27a3742d0af0a6ed434349696599df825ccd49d8d"), looks := true }, kinds := [], alts := [], laidByText := true, laidKinds := [.data, .data, .data, .data, .pinned], laidTests := true, laidLooks := .later }
def BoxRunsUptoCardSaid : Prop := Claim7.holds Tryz.pinned (.plain (OpenSpec.upto boxRunsSpec)) boxRunsUptoCard

/-- THE SECOND FORM's CARD OF 'bloomerylaw21.BoxTools'. -/
def boxToolsUptoCard : Claim7 := { stood := { row := boxToolsUptoRow, standIns := [], harness := (true, "17863e185795a9b86d3fe2d27a3742d0af0a6ed434349696599df825ccd49d8d"), looks := true }, kinds := [], alts := [], laidByText := true, laidKinds := [.data, .data, .data, .data, .pinned], laidTests := true, laidLooks := .later }
def BoxToolsUptoCardSaid : Prop := Claim7.holds Tryz.pinned (.plain (OpenSpec.upto boxToolsSpec)) boxToolsUptoCard

/-- THE SECOND FORM's CARD OF 'bloomerylaw27.DirtyRuns'. -/
def dirtyRunsUptoCard : Claim7 := { stood := { row := dirtyRunsUptoRow, standIns := [], harness := (true, "17863e185795a9b86d3fe2d27a3742d0af0a6ed434349696599df825ccd49d8d"), looks := true }, kinds := [], alts := [], laidByText := true, laidKinds := [.data, .data, .data, .data, .pinned], laidTests := true, laidLooks := .later }
def DirtyRunsUptoCardSaid : Prop := Claim7.holds Tryz.pinned (.plain (OpenSpec.upto dirtyRunsSpec)) dirtyRunsUptoCard

/-- THE SECOND FORM's CARD OF 'bloomerylaw24.FoundKeys'. -/
def foundKeysUptoCard : Claim7 := { stood := { row := foundKeysUptoRow, standIns := [], harness := (true, "17863e185795a9b86d3fe2d27a3742d0af0a6ed434349696599df825ccd49d8d"), looks := true }, kinds := [], alts := [], laidByText := true, laidKinds := [.data, .data, .data, .data, .pinned], laidTests := true, laidLooks := .later }
def FoundKeysUptoCardSaid : Prop := Claim7.holds Tryz.pinned (.plain (OpenSpec.upto foundKeysSpec)) foundKeysUptoCard

/-- THE SECOND FORM's CARD OF 'bloomerylaw24.FoundTraces'. -/
def foundTracesUptoCard : Claim7 := { stood := { row := foundTracesUptoRow, standIns := [], harness := (true, "17863e185795a9b86d3fe2d27a3742d0af0a6ed434349696599df825ccd49d8d"), looks := true }, kinds := [], alts := [], laidByText := true, laidKinds := [.data, .data, .data, .data, .pinned], laidTests := true, laidLooks := .later }
def FoundTracesUptoCardSaid : Prop := Claim7.holds Tryz.pinned (.plain (OpenSpec.upto foundTracesSpec)) foundTracesUptoCard

/-- THE SECOND FORM's CARD OF 'bloomerylaw23.TraceBoxes'. -/
def traceBoxesUptoCard : Claim7 := { stood := { row := traceBoxesUptoRow, standIns := [], harness := (true, "17863e185795a9b86d3fe2d27a3742d0af0a6ed434349696599df825ccd49d8d"), looks := true }, kinds := [], alts := [], laidByText := true, laidKinds := [.data, .data, .data, .data, .sentinel, .sentinel, .pinned], laidTests := true, laidLooks := .later }
def TraceBoxesUptoCardSaid : Prop := Claim7.holds Tryz.pinned (.plain (OpenSpec.upto traceBoxesSpec)) traceBoxesUptoCard
end Rows
end Go.Proofs.YtidhkfcjichiiaaGreatDoor
