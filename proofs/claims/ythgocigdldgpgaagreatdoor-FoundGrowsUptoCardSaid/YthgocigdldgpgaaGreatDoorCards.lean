/-
  DERIVED. GIVEN WITH THE SEED: THE CARDS: each row of YthgocigdldgpgaaGreatDoorRows.lean that lists a variable, with what it lists TIED to the program's text (the seventh form; the later family's looks); each row that meets fmt, with fmt's text TOLD by the authors' own Lean function (tested against real Go, not proved from fmt's source: count such statements apart). THE CARD IS WHAT COUNTS. Prove the row's statement (the work); the ties are given (YthgocigdldgpgaaGreatDoorTie.lean); close each card by the builder's one call (the guide's Derived/Test/ToyasCard.lean, 'card_holds'). Laid BY PROGRAM, IN A SANDBOX (cutbox-door.mjs). By AI agents, Wed Nov 11 2026. No macro, syntax, notation, axiom, sorry.
-/
import Derived.Test.YthgocigdldgpgaaGreatDoorRows
import GoSem.ClaimSeven
namespace Go.Proofs.YthgocigdldgpgaaGreatDoor
namespace Rows

/-- THE TIED CARD OF 'bloomerylaw21.BoxRuns'. -/
def boxRunsCard : Claim7 := { stood := { row := boxRunsRow, standIns := [], harness := (true, "e59f1d8162b3442ab27fde70100ae9252071f099be780c834bee6acee428ab7b"), looks := false }, kinds := [], alts := [], laidByText := true, laidKinds := [.data, .data, .data, .data, .pinned], laidTests := true, laidLooks := .later }
def BoxRunsCardSaid : Prop := Claim7.holds Tryz.pinned (.plain (OpenSpec.ofChange boxRunsSpec)) boxRunsCard

/-- THE TIED CARD OF 'bloomerylaw21.BoxHermetic'. -/
def boxHermeticCard : Claim7 := { stood := { row := boxHermeticRow, standIns := [], harness := (true, "e59f1d8162b3442ab27fde70100ae9252071f099be780c834bee6acee428ab7b"), looks := false }, kinds := [], alts := [], laidByText := true, laidKinds := [.data, .data, .data, .data, .pinned], laidTests := true, laidLooks := .later }
def BoxHermeticCardSaid : Prop := Claim7.holds Tryz.pinned (.plain (OpenSpec.ofChange boxHermeticSpec)) boxHermeticCard

/-- THE TIED CARD OF 'bloomerylaw21.BoxGives'. -/
def boxGivesCard : Claim7 := { stood := { row := boxGivesRow, standIns := [], harness := (true, "e59f1d8162b3442ab27fde70100ae9252071f099be780c834bee6acee428ab7b"), looks := false }, kinds := [], alts := [], laidByText := true, laidKinds := [.data, .data, .data, .data, .pinned], laidTests := true, laidLooks := .later }
def BoxGivesCardSaid : Prop := Claim7.holds Tryz.pinned (.plain (OpenSpec.ofChange boxGivesSpec)) boxGivesCard

/-- THE TIED CARD OF 'bloomerylaw21.BoxEnds'. -/
def boxEndsCard : Claim7 := { stood := { row := boxEndsRow, standIns := [], harness := (true, "e59f1d8162b3442ab27fde70100ae9252071f099be780c834bee6acee428ab7b"), looks := false }, kinds := [], alts := [], laidByText := true, laidKinds := [.data, .data, .data, .data, .pinned], laidTests := true, laidLooks := .later }
def BoxEndsCardSaid : Prop := Claim7.holds Tryz.pinned (.plain (OpenSpec.ofChange boxEndsSpec)) boxEndsCard

/-- THE TIED CARD OF 'bloomerylaw21.BoxTools'. -/
def boxToolsCard : Claim7 := { stood := { row := boxToolsRow, standIns := [], harness := (true, "e59f1d8162b3442ab27fde70100ae9252071f099be780c834bee6acee428ab7b"), looks := false }, kinds := [], alts := [], laidByText := true, laidKinds := [.data, .data, .data, .data, .pinned], laidTests := true, laidLooks := .later }
def BoxToolsCardSaid : Prop := Claim7.holds Tryz.pinned (.plain (OpenSpec.ofChange boxToolsSpec)) boxToolsCard

/-- THE TIED CARD OF 'bloomerylaw24.FoundGrows'. -/
def foundGrowsCard : Claim7 := { stood := { row := foundGrowsRow, standIns := [], harness := (true, "e59f1d8162b3442ab27fde70100ae9252071f099be780c834bee6acee428ab7b"), looks := false }, kinds := [], alts := [], laidByText := true, laidKinds := [.data, .data, .data, .data, .pinned], laidTests := true, laidLooks := .later }
def FoundGrowsCardSaid : Prop := Claim7.holds Tryz.pinned (.plain (OpenSpec.ofChange foundGrowsSpec)) foundGrowsCard

/-- THE TIED CARD OF 'bloomerylaw24.FoundFronts'. -/
def foundFrontsCard : Claim7 := { stood := { row := foundFrontsRow, standIns := [], harness := (true, "e59f1d8162b3442ab27fde70100ae9252071f099be780c834bee6acee428ab7b"), looks := false }, kinds := [], alts := [], laidByText := true, laidKinds := [.data, .data, .data, .data, .pinned], laidTests := true, laidLooks := .later }
def FoundFrontsCardSaid : Prop := Claim7.holds Tryz.pinned (.plain (OpenSpec.ofChange foundFrontsSpec)) foundFrontsCard

/-- THE TIED CARD OF 'bloomerylaw24.FoundHermetic'. -/
def foundHermeticCard : Claim7 := { stood := { row := foundHermeticRow, standIns := [], harness := (true, "e59f1d8162b3442ab27fde70100ae9252071f099be780c834bee6acee428ab7b"), looks := false }, kinds := [], alts := [], laidByText := true, laidKinds := [.data, .data, .data, .data, .pinned], laidTests := true, laidLooks := .later }
def FoundHermeticCardSaid : Prop := Claim7.holds Tryz.pinned (.plain (OpenSpec.ofChange foundHermeticSpec)) foundHermeticCard

/-- THE TIED CARD OF 'bloomerylaw24.FoundKeys'. -/
def foundKeysCard : Claim7 := { stood := { row := foundKeysRow, standIns := [], harness := (true, "e59f1d8162b3442ab27fde70100ae9252071f099be780c834bee6acee428ab7b"), looks := false }, kinds := [], alts := [], laidByText := true, laidKinds := [.data, .data, .data, .data, .pinned], laidTests := true, laidLooks := .later }
def FoundKeysCardSaid : Prop := Claim7.holds Tryz.pinned (.plain (OpenSpec.ofChange foundKeysSpec)) foundKeysCard

/-- THE TIED CARD OF 'bloomerylaw24.FoundTraces'. -/
def foundTracesCard : Claim7 := { stood := { row := foundTracesRow, standIns := [], harness := (true, "e59f1d8162b3442ab27fde70100ae9252071f099be780c834bee6acee428ab7b"), looks := false }, kinds := [], alts := [], laidByText := true, laidKinds := [.data, .data, .data, .data, .pinned], laidTests := true, laidLooks := .later }
def FoundTracesCardSaid : Prop := Claim7.holds Tryz.pinned (.plain (OpenSpec.ofChange foundTracesSpec)) foundTracesCard

/-- THE SECOND FORM's CARD OF 'bloomerylaw21.BoxRuns'. -/
def boxRunsUptoCard : Claim7 := { stood := { row := boxRunsUptoRow, standIns := [], harness := (true, "e59f1d8162b3442ab27fde70100ae9252071f099be780c834bee6acee428ab7b"), looks := false }, kinds := [], alts := [], laidByText := true, laidKinds := [.data, .data, .data, .data, .pinned], laidTests := true, laidLooks := .later }
def BoxRunsUptoCardSaid : Prop := Claim7.holds Tryz.pinned (.plain (OpenSpec.upto boxRunsSpec)) boxRunsUptoCard

/-- THE SECOND FORM's CARD OF 'bloomerylaw21.BoxHermetic'. -/
def boxHermeticUptoCard : Claim7 := { stood := { row := boxHermeticUptoRow, standIns := [], harness := (true, "e59f1d8162b3442ab27fde70100ae9252071f099be780c834bee6acee428ab7b"), looks := false }, kinds := [], alts := [], laidByText := true, laidKinds := [.data, .data, .data, .data, .pinned], laidTests := true, laidLooks := .later }
def BoxHermeticUptoCardSaid : Prop := Claim7.holds Tryz.pinned (.plain (OpenSpec.upto boxHermeticSpec)) boxHermeticUptoCard

/-- THE SECOND FORM's CARD OF 'bloomerylaw21.BoxGives'. -/
def boxGivesUptoCard : Claim7 := { stood := { row := boxGivesUptoRow, standIns := [], harness := (true, "e59f1d8162b3442ab27fde70100ae9252071f099be780c834bee6acee428ab7b"), looks := false }, kinds := [], alts := [], laidByText := true, laidKinds := [.data, .data, .data, .data, .pinned], laidTests := true, laidLooks := .later }
def BoxGivesUptoCardSaid : Prop := Claim7.holds Tryz.pinned (.plain (OpenSpec.upto boxGivesSpec)) boxGivesUptoCard

/-- THE SECOND FORM's CARD OF 'bloomerylaw21.BoxEnds'. -/
def boxEndsUptoCard : Claim7 := { stood := { row := boxEndsUptoRow, standIns := [], harness := (true, "e59f1d8162b3442ab27fde70100ae9252071f099be780c834bee6acee428ab7b"), looks := false }, kinds := [], alts := [], laidByText := true, laidKinds := [.data, .data, .data, .data, .pinned], laidTests := true, laidLooks := .later }
def BoxEndsUptoCardSaid : Prop := Claim7.holds Tryz.pinned (.plain (OpenSpec.upto boxEndsSpec)) boxEndsUptoCard

/-- THE SECOND FORM's CARD OF 'bloomerylaw21.BoxTools'. -/
def boxToolsUptoCard : Claim7 := { stood := { row := boxToolsUptoRow, standIns := [], harness := (true, "e59f1d8162b3442ab27fde70100ae9252071f099be780c834bee6acee428ab7b"), looks := false }, kinds := [], alts := [], laidByText := true, laidKinds := [.data, .data, .data, .data, .pinned], laidTests := true, laidLooks := .later }
def BoxToolsUptoCardSaid : Prop := Claim7.holds Tryz.pinned (.plain (OpenSpec.upto boxToolsSpec)) boxToolsUptoCard

/-- THE SECOND FORM's CARD OF 'bloomerylaw24.FoundGrows'. -/
def foundGrowsUptoCard : Claim7 := { stood := { row := foundGrowsUptoRow, standIns := [], harness := (true, "e59f1d8162b3442ab27fde70100ae9252071f099be780c834bee6acee428ab7b"), looks := false }, kinds := [], alts := [], laidByText := true, laidKinds := [.data, .data, .data, .data, .pinned], laidTests := true, laidLooks := .later }
def FoundGrowsUptoCardSaid : Prop := Claim7.holds Tryz.pinned (.plain (OpenSpec.upto foundGrowsSpec)) foundGrowsUptoCard

/-- THE SECOND FORM's CARD OF 'bloomerylaw24.FoundFronts'. -/
def foundFrontsUptoCard : Claim7 := { stood := { row := foundFrontsUptoRow, standIns := [], harness := (true, "e59f1d8162b3442ab27fde70100ae9252071f099be780c834bee6acee428ab7b"), looks := false }, kinds := [], alts := [], laidByText := true, laidKinds := [.data, .data, .data, .data, .pinned], laidTests := true, laidLooks := .later }
def FoundFrontsUptoCardSaid : Prop := Claim7.holds Tryz.pinned (.plain (OpenSpec.upto foundFrontsSpec)) foundFrontsUptoCard

/-- THE SECOND FORM's CARD OF 'bloomerylaw24.FoundHermetic'. -/
def foundHermeticUptoCard : Claim7 := { stood := { row := foundHermeticUptoRow, standIns := [], harness := (true, "e59f1d8162b3442ab27fde70100ae9252071f099be780c834bee6acee428ab7b"), looks := false }, kinds := [], alts := [], laidByText := true, laidKinds := [.data, .data, .data, .data, .pinned], laidTests := true, laidLooks := .later }
def FoundHermeticUptoCardSaid : Prop := Claim7.holds Tryz.pinned (.plain (OpenSpec.upto foundHermeticSpec)) foundHermeticUptoCard

/-- THE SECOND FORM's CARD OF 'bloomerylaw24.FoundKeys'. -/
def foundKeysUptoCard : Claim7 := { stood := { row := foundKeysUptoRow, standIns := [], harness := (true, "e59f1d8162b3442ab27fde70100ae9252071f099be780c834bee6acee428ab7b"), looks := false }, kinds := [], alts := [], laidByText := true, laidKinds := [.data, .data, .data, .data, .pinned], laidTests := true, laidLooks := .later }
def FoundKeysUptoCardSaid : Prop := Claim7.holds Tryz.pinned (.plain (OpenSpec.upto foundKeysSpec)) foundKeysUptoCard

/-- THE SECOND FORM's CARD OF 'bloomerylaw24.FoundTraces'. -/
def foundTracesUptoCard : Claim7 := { stood := { row := foundTracesUptoRow, standIns := [], harness := (true, "e59f1d8162b3442ab27fde70100ae9252071f099be780c834bee6acee428ab7b"), looks := false }, kinds := [], alts := [], laidByText := true, laidKinds := [.data, .data, .data, .data, .pinned], laidTests := true, laidLooks := .later }
def FoundTracesUptoCardSaid : Prop := Claim7.holds Tryz.pinned (.plain (OpenSpec.upto foundTracesSpec)) foundTracesUptoCard
end Rows
end Go.Proofs.YthgocigdldgpgaaGreatDoor
