/-
  DERIVED. GIVEN WITH THE SEED: THE CARDS: each row of YtognnffjdckalaaGreatDoorRows.lean that lists a variable, with what it lists TIED to the program's text (the seventh form; the later family's looks); each row that meets fmt, with fmt's text TOLD by the authors' own Lean function (tested against real Go, not proved from fmt's source: count such statements apart). THE CARD IS WHAT COUNTS. Prove the row's statement (the work); the ties are given (YtognnffjdckalaaGreatDoorTie.lean); close each card by the builder's one call (the guide's Derived/Test/ToyasCard.lean, 'card_holds'). Laid BY PROGRAM, IN A SANDBOX (cutbox-door.mjs). By AI agents, Wed Nov 11 2026. No macro, syntax, notation, axiom, sorry.
-/
import Derived.Test.YtognnffjdckalaaGreatDoorRows
import GoSem.ClaimSeven
namespace Go.Proofs.YtognnffjdckalaaGreatDoor
namespace Rows

/-- THE TIED CARD OF 'bloomerylaw26.KeepRuns'. -/
def keepRunsCard : Claim7 := { stood := { row := keepRunsRow, standIns := [], harness := (true, "3db39a381214f12ab975b587e5867daa2af87971f66d5454af9a27a36afdab46"), looks := true }, kinds := [], alts := [], laidByText := true, laidKinds := [.data, .data, .data, .data, .sentinel, .sentinel, .pinned], laidTests := true, laidLooks := .later }
def KeepRunsCardSaid : Prop := Claim7.holds Tryz.pinned (.plain (OpenSpec.ofChange keepRunsSpec)) keepRunsCard

/-- THE SECOND FORM's CARD OF 'bloomerylaw26.KeepRuns'. -/
def keepRunsUptoCard : Claim7 := { stood := { row := keepRunsUptoRow, standIns := [], harness := (true, "3db39a381214f12ab975b587e5867daa2af87971f66d5454af9a27a36afdab46"), looks := true }, kinds := [], alts := [], laidByText := true, laidKinds := [.data, .data, .data, .data, .sentinel, .sentinel, .pinned], laidTests := true, laidLooks := .later }
def KeepRunsUptoCardSaid : Prop := Claim7.holds Tryz.pinned (.plain (OpenSpec.upto keepRunsSpec)) keepRunsUptoCard
end Rows
end Go.Proofs.YtognnffjdckalaaGreatDoor
