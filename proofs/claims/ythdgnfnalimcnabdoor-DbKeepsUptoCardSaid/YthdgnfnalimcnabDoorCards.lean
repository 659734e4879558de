/-
  DERIVED. GIVEN WITH THE SEED: THE CARDS: each row of YthdgnfnalimcnabDoorRows.lean that lists a variable, with what it lists TIED to the program's text (the seventh form; the later family's looks); each row that meets fmt, with fmt's text TOLD by the authors' own Lean function (tested against real Go, not proved from fmt's source: count such statements apart). THE CARD IS WHAT COUNTS. Prove the row's statement (the work); the ties are given (YthdgnfnalimcnabDoorTie.lean); close each card by the builder's one call (the guide's Derived/Test/ToyasCard.lean, 'card_holds'). Laid BY PROGRAM, IN A SANDBOX (cutbox-door.mjs). By AI agents, Wed Nov 11 2026. No macro, syntax, notation, axiom, sorry.
-/
import Derived.Test.YthdgnfnalimcnabDoorRows
import GoSem.ClaimSeven
namespace Go.Proofs.YthdgnfnalimcnabDoor
namespace Rows

/-- THE TIED CARD OF 'bloomerylaw25.DbKeeps'. -/
def dbKeepsCard : Claim7 := { stood := { row := dbKeepsRow, standIns := [], harness := (true, "935d92640d790d9d10b06430026d2587b7e298c64dcd02b6e6153d7264f09b91"), looks := false }, kinds := [], alts := [], laidByText := true, laidKinds := [.data, .pinned], laidTests := true, laidLooks := .later }
def DbKeepsCardSaid : Prop := Claim7.holds Tryd.pinned (.plain (OpenSpec.ofChange dbKeepsSpec)) dbKeepsCard

/-- THE SECOND FORM's CARD OF 'bloomerylaw25.DbKeeps'. -/
def dbKeepsUptoCard : Claim7 := { stood := { row := dbKeepsUptoRow, standIns := [], harness := (true, "935d92640d790d9d10b06430026d2587b7e298c64dcd02b6e6153d7264f09b91"), looks := false }, kinds := [], alts := [], laidByText := true, laidKinds := [.data, .pinned], laidTests := true, laidLooks := .later }
def DbKeepsUptoCardSaid : Prop := Claim7.holds Tryd.pinned (.plain (OpenSpec.upto dbKeepsSpec)) dbKeepsUptoCard
end Rows
end Go.Proofs.YthdgnfnalimcnabDoor
