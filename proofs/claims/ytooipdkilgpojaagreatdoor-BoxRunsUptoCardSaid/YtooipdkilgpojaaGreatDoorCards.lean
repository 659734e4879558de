/-
  DERIVED. GIVEN WITH THE SEED: THE CARDS: each row of YtooipdkilgpojaaGreatDoorRows.lean that lists a variable, with what it lists TIED to the program's text (the seventh form; the later family's looks); each row that meets fmt, with fmt's text TOLD by the authors' own Lean function (tested against real Go, not proved from fmt's source: count such statements apart). THE CARD IS WHAT COUNTS. Prove the row's statement (the work); the ties are given (YtooipdkilgpojaaGreatDoorTie.lean); close each card by the builder's one call (the guide's Derived/Test/ToyasCard.lean, 'card_holds'). Laid BY PROGRAM, IN A SANDBOX (cutbox-door.mjs). By AI agents, Wed Nov 11 2026. No macro, syntax, notation, axiom, sorry.
-/
import Derived.Test.YtooipdkilgpojaaGreatDoorRows
import GoSem.ClaimSeven
namespace Go.Proofs.YtooipdkilgpojaaGreatDoor
namespace Rows

/-- THE TIED CARD OF 'bloomerylaw21.BoxRuns'. -/
def boxRunsCard : Claim7 := { stood := { row := boxRunsRow, standIns := [], harness := (true, "56c346c57ab54df5fffe70b03ac6519352b61c6bcc607f1b95cede37363e2742"), looks := false }, kinds := [], alts := [], laidByText := true, laidKinds := [.data, .data, .data, .data, .pinned], laidTests := true, laidLooks := .later }
def BoxRunsCardSaid : Prop := Claim7.holds Tryz.pinned (.plain (OpenSpec.ofChange boxRunsSpec)) boxRunsCard

/-- THE TIED CARD OF 'bloomerylaw21.BoxTools'. -/
def boxToolsCard : Claim7 := { stood := { row := boxToolsRow, standIns := [], harness := (true, "56c346c57ab54df5fffe70b03ac6519352b61c6bcc607f1b95cede37363e2742"), looks := false }, kinds := [], alts := [], laidByText := true, laidKinds := [.data, .data, .data, .data, .pinned], laidTests := true, laidLooks := .later }
def BoxToolsCardSaid : Prop := Claim7.holds Tryz.pinned (.plain (OpenSpec.ofChange boxToolsSpec)) boxToolsCard

/-- THE TIED CARD OF 'bloomerylaw24.FoundTraces'. -/
def foundTracesCard : Claim7 := { stood := { row := foundTracesRow, standIns := [], harness := (true, "56c346c57ab54df5fffe70b03ac6519352b61c6bcc607f1b95cede37363e2742"), looks := false }, kinds := [], alts := [], laidByText := true, laidKinds := [.data, .data, .data, .data, .pinned], laidTests := true, laidLooks := .later }
def FoundTracesCardSaid : Prop := Claim7.holds Tryz.pinned (.plain (OpenSpec.ofChange foundTracesSpec)) foundTracesCard

/-- THE SECOND FORM's CARD OF 'bloomerylaw21.BoxRuns'. -/
def boxRunsUptoCard : Claim7 := { stood := { row := boxRunsUptoRow, standIns := [], harness := (true, "56c346c57ab54df5fffe70b03ac6519352b61c6bcc607f1b95cede37363e2742"), looks := false }, kinds := [], alts := [], laidByText := true, laidKinds := [.data, .data, .data, .data, .pinned], laidTests := true, laidLooks := .later }
def BoxRunsUptoCardSaid : Prop := Claim7.holds Tryz.pinned (.plain (OpenSpec.upto boxRunsSpec)) boxRunsUptoCard

/-- THE SECOND FORM's CARD OF 'bloomerylaw21.BoxTools'. -/
def boxToolsUptoCard : Claim7 := { stood := { row := boxToolsUptoRow, standIns := [], harness := (true, "56c346c57ab54df5fffe70b03ac6519352b61c6bcc607f1b95cede37363e2742"), looks := false }, kinds := [], alts := [], laidByText := true, laidKinds := [.data, .data, .data, .data, .pinned], laidTests := true, laidLooks := .later }
def BoxToolsUptoCardSaid : Prop := Claim7.holds Tryz.pinned (.plain (OpenSpec.upto boxToolsSpec)) boxToolsUptoCard

/-- THE SECOND FORM's CARD OF 'bloomerylaw24.FoundTraces'. -/
def foundTracesUptoCard : Claim7 := { stood := { row := foundTracesUptoRow, standIns := [], harness := (true, "56c346c57ab54df5fffe70b03ac6519352b61c6bcc607f1b95cede37363e2742"), looks := false }, kinds := [], alts := [], laidByText := true, laidKinds := [.data, .data, .data, .data, .pinned], laidTests := true, laidLooks := .later }
def FoundTracesUptoCardSaid : Prop := Claim7.holds Tryz.pinned (.plain (OpenSpec.upto foundTracesSpec)) foundTracesUptoCard
end Rows
end Go.Proofs.YtooipdkilgpojaaGreatDoor
