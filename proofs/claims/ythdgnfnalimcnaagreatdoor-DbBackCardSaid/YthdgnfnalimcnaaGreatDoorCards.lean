/-
  DERIVED. GIVEN WITH THE SEED: THE CARDS: each row of YthdgnfnalimcnaaGreatDoorRows.lean that lists a variable, with what it lists TIED to the program's text (the seventh form; the later family's looks); each row that meets fmt, with fmt's text TOLD by the authors' own Lean function (tested against real Go, not proved from fmt's source: count such statements apart). THE CARD IS WHAT COUNTS. Prove the row's statement (the work); the ties are given (YthdgnfnalimcnaaGreatDoorTie.lean); close each card by the builder's one call (the guide's Derived/Test/ToyasCard.lean, 'card_holds'). Laid BY PROGRAM, IN A SANDBOX (cutbox-door.mjs). By AI agents, Wed Nov 11 2026. No macro, syntax, notation, axiom, sorry.
-/
import Derived.Test.YthdgnfnalimcnaaGreatDoorRows
import GoSem.ClaimSeven
namespace Go.Proofs.YthdgnfnalimcnaaGreatDoor
namespace Rows

/-- THE TIED CARD OF 'bloomerylaw25.DbApart'. -/
def dbApartCard : Claim7 := { stood := { row := dbApartRow, standIns := [], harness := (true, "cf8c2b90e2490ecfe8dd9d5d39def56723701f11041f118309b77a15b6b147a8"), looks := true }, kinds := [], alts := [], laidByText := true, laidKinds := [.data, .data, .data, .data, .pinned], laidTests := true, laidLooks := .later }
def DbApartCardSaid : Prop := Claim7.holds Tryz.pinned (.plain (OpenSpec.ofChange dbApartSpec)) dbApartCard

/-- THE TIED CARD OF 'bloomerylaw25.DbPlays'. -/
def dbPlaysCard : Claim7 := { stood := { row := dbPlaysRow, standIns := [], harness := (true, "cf8c2b90e2490ecfe8dd9d5d39def56723701f11041f118309b77a15b6b147a8"), looks := true }, kinds := [], alts := [], laidByText := true, laidKinds := [.data, .data, .data, .data, .pinned], laidTests := true, laidLooks := .later }
def DbPlaysCardSaid : Prop := Claim7.holds Tryz.pinned (.plain (OpenSpec.ofChange dbPlaysSpec)) dbPlaysCard

/-- THE TIED CARD OF 'bloomerylaw25.DbNone'. -/
def dbNoneCard : Claim7 := { stood := { row := dbNoneRow, standIns := [], harness := (true, "cf8c2b90e2490ecfe8dd9d5d39def56723701f11041f118309b77a15b6b147a8"), looks := true }, kinds := [], alts := [], laidByText := true, laidKinds := [.data, .data, .data, .data, .pinned], laidTests := true, laidLooks := .later }
def DbNoneCardSaid : Prop := Claim7.holds Tryz.pinned (.plain (OpenSpec.ofChange dbNoneSpec)) dbNoneCard

/-- THE TIED CARD OF 'bloomerylaw25.DbReads'. -/
def dbReadsCard : Claim7 := { stood := { row := dbReadsRow, standIns := [], harness := (true, "cf8c2b90e2490ecfe8dd9d5d39def56723701f11041f118309b77a15b6b147a8"), looks := true }, kinds := [], alts := [], laidByText := true, laidKinds := [.data, .data, .data, .data, .sentinel, .sentinel, .pinned], laidTests := true, laidLooks := .later }
def DbReadsCardSaid : Prop := Claim7.holds Tryz.pinned (.plain (OpenSpec.ofChange dbReadsSpec)) dbReadsCard

/-- THE TIED CARD OF 'bloomerylaw25.DbBack'. -/
def dbBackCard : Claim7 := { stood := { row := dbBackRow, standIns := [], harness := (true, "cf8c2b90e2490ecfe8dd9d5d39def56723701f11041f118309b77a15b6b147a8"), looks := true }, kinds := [], alts := [], laidByText := true, laidKinds := [.data, .data, .data, .data, .sentinel, .sentinel, .pinned], laidTests := true, laidLooks := .later }
def DbBackCardSaid : Prop := Claim7.holds Tryz.pinned (.plain (OpenSpec.ofChange dbBackSpec)) dbBackCard

/-- THE SECOND FORM's CARD OF 'bloomerylaw25.DbApart'. -/
def dbApartUptoCard : Claim7 := { stood := { row := dbApartUptoRow, standIns := [], harness := (true, "cf8c2b90e2490ecfe8dd9d5d39def56723701f11041f118309b77a15b6b147a8"), looks := true }, kinds := [], alts := [], laidByText := true, laidKinds := [.data, .data, .data, .data, .pinned], laidTests := true, laidLooks := .later }
def DbApartUptoCardSaid : Prop := Claim7.holds Tryz.pinned (.plain (OpenSpec.upto dbApartSpec)) dbApartUptoCard

/-- THE SECOND FORM's CARD OF 'bloomerylaw25.DbPlays'. -/
def dbPlaysUptoCard : Claim7 := { stood := { row := dbPlaysUptoRow, standIns := [], harness := (true, "cf8c2b90e2490ecfe8dd9d5d39def56723701f11041f118309b77a15b6b147a8"), looks := true }, kinds := [], alts := [], laidByText := true, laidKinds := [.data, .data, .data, .data, .pinned], laidTests := true, laidLooks := .later }
def DbPlaysUptoCardSaid : Prop := Claim7.holds Tryz.pinned (.plain (OpenSpec.upto dbPlaysSpec)) dbPlaysUptoCard

/-- THE SECOND FORM's CARD OF 'bloomerylaw25.DbNone'. -/
def dbNoneUptoCard : Claim7 := { stood := { row := dbNoneUptoRow, standIns := [], harness := (true, "cf8c2b90e2490ecfe8dd9d5d39def56723701f11041f118309b77a15b6b147a8"), looks := true }, kinds := [], alts := [], laidByText := true, laidKinds := [.data, .data, .data, .data, .pinned], laidTests := true, laidLooks := .later }
def DbNoneUptoCardSaid : Prop := Claim7.holds Tryz.pinned (.plain (OpenSpec.upto dbNoneSpec)) dbNoneUptoCard

/-- THE SECOND FORM's CARD OF 'bloomerylaw25.DbReads'. -/
def dbReadsUptoCard : Claim7 := { stood := { row := dbReadsUptoRow, standIns := [], harness := (true, "cf8c2b90e2490ecfe8dd9d5d39def56723701f11041f118309b77a15b6b147a8"), looks := true }, kinds := [], alts := [], laidByText := true, laidKinds := [.data, .data, .data, .data, .sentinel, .sentinel, .pinned], laidTests := true, laidLooks := .later }
def DbReadsUptoCardSaid : Prop := Claim7.holds Tryz.pinned (.plain (OpenSpec.upto dbReadsSpec)) dbReadsUptoCard

/-- THE SECOND FORM's CARD OF 'bloomerylaw25.DbBack'. -/
def dbBackUptoCard : Claim7 := { stood := { row := dbBackUptoRow, standIns := [], harness := (true, "cf8c2b90e2490ecfe8dd9d5d39def56723701f11041f118309b77a15b6b147a8"), looks := true }, kinds := [], alts := [], laidByText := true, laidKinds := [.data, .data, .data, .data, .sentinel, .sentinel, .pinned], laidTests := true, laidLooks := .later }
def DbBackUptoCardSaid : Prop := Claim7.holds Tryz.pinned (.plain (OpenSpec.upto dbBackSpec)) dbBackUptoCard
end Rows
end Go.Proofs.YthdgnfnalimcnaaGreatDoor
