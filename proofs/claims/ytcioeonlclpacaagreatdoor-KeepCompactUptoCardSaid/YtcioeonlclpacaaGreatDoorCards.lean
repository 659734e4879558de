/-
  DERIVED. GIVEN WITH THE SEED: THE CARDS: each row of YtcioeonlclpacaaGreatDoorRows.lean that lists a variable, with what it lists TIED to the program's text (the seventh form; the later family's looks); each row that meets fmt, with fmt's text TOLD by the authors' own Lean function (tested against real Go, not proved from fmt's source: count such statements apart). THE CARD IS WHAT COUNTS. Prove the row's statement (the work); the ties are given (YtcioeonlclpacaaGreatDoorTie.lean); close each card by the builder's one call (the guide's Derived/Test/ToyasCard.lean, 'card_holds'). Laid BY PROGRAM, IN A SANDBOX (cutbox-door.mjs). By AI agents, Wed Nov 11 2026. No macro, syntax, notation, axiom, sorry.
-/
import Derived.Test.YtcioeonlclpacaaGreatDoorRows
import GoSem.ClaimSeven
namespace Go.Proofs.YtcioeonlclpacaaGreatDoor
namespace Rows

/-- THE TIED CARD OF 'bloomerylaw26.KeepSure'. -/
def keepSureCard : Claim7 := { stood := { row := keepSureRow, standIns := [], harness := (true, "b28a4743922011ef464009d75fec34d7e94a2844de71651a6a42119f68d1491e"), looks := true }, kinds := [], alts := [], laidByText := true, laidKinds := [.data, .data, .data, .data, .sentinel, .sentinel, .pinned], laidTests := true, laidLooks := .later }
def KeepSureCardSaid : Prop := Claim7.holds Tryz.pinned (.plain (OpenSpec.ofChange keepSureSpec)) keepSureCard

/-- THE TIED CARD OF 'bloomerylaw26.KeepDb'. -/
def keepDbCard : Claim7 := { stood := { row := keepDbRow, standIns := [], harness := (true, "b28a4743922011ef464009d75fec34d7e94a2844de71651a6a42119f68d1491e"), looks := true }, kinds := [], alts := [], laidByText := true, laidKinds := [.data, .data, .data, .data, .sentinel, .sentinel, .pinned], laidTests := true, laidLooks := .later }
def KeepDbCardSaid : Prop := Claim7.holds Tryz.pinned (.plain (OpenSpec.ofChange keepDbSpec)) keepDbCard

/-- THE TIED CARD OF 'bloomerylaw26.KeepRuns'. -/
def keepRunsCard : Claim7 := { stood := { row := keepRunsRow, standIns := [], harness := (true, "b28a4743922011ef464009d75fec34d7e94a2844de71651a6a42119f68d1491e"), looks := true }, kinds := [], alts := [], laidByText := true, laidKinds := [.data, .data, .data, .data, .sentinel, .sentinel, .pinned], laidTests := true, laidLooks := .later }
def KeepRunsCardSaid : Prop := Claim7.holds Tryz.pinned (.plain (OpenSpec.ofChange keepRunsSpec)) keepRunsCard

/-- THE TIED CARD OF 'bloomerylaw26.KeepCompact'. -/
def keepCompactCard : Claim7 := { stood := { row := keepCompactRow, standIns := [], harness := (true, "b28a4743922011ef464009d75fec34d7e94a2844de71651a6a42119f68d1491e"), looks := true }, kinds := [], alts := [], laidByText := true, laidKinds := [.data, .data, .data, .data, .sentinel, .sentinel, .pinned], laidTests := true, laidLooks := .later }
def KeepCompactCardSaid : Prop := Claim7.holds Tryz.pinned (.plain (OpenSpec.ofChange keepCompactSpec)) keepCompactCard

/-- THE SECOND FORM's CARD OF 'bloomerylaw26.KeepSure'. -/
def keepSureUptoCard : Claim7 := { stood := { row := keepSureUptoRow, standIns := [], harness := (true, "b28a4743922011ef464009d75fec34d7e94a2844de71651a6a42119f68d1491e"), looks := true }, kinds := [], alts := [], laidByText := true, laidKinds := [.data, .data, .data, .data, .sentinel, .sentinel, .pinned], laidTests := true, laidLooks := .later }
def KeepSureUptoCardSaid : Prop := Claim7.holds Tryz.pinned (.plain (OpenSpec.upto keepSureSpec)) keepSureUptoCard

/-- THE SECOND FORM's CARD OF 'bloomerylaw26.KeepDb'. -/
def keepDbUptoCard : Claim7 := { stood := { row := keepDbUptoRow, standIns := [], harness := (true, "b28a4743922011ef464009d75fec34d7e94a2844de71651a6a42119f68d1491e"), looks := true }, kinds := [], alts := [], laidByText := true, laidKinds := [.data, .data, .data, .data, .sentinel, .sentinel, .pinned], laidTests := true, laidLooks := .later }
def KeepDbUptoCardSaid : Prop := Claim7.holds Tryz.pinned (.plain (OpenSpec.upto keepDbSpec)) keepDbUptoCard

/-- THE SECOND FORM's CARD OF 'bloomerylaw26.KeepRuns'. -/
def keepRunsUptoCard : Claim7 := { stood := { row := keepRunsUptoRow, standIns := [], harness := (true, "b28a4743922011ef464009d75fec34d7e94a2844de71651a6a42119f68d1491e"), looks := true }, kinds := [], alts := [], laidByText := true, laidKinds := [.data, .data, .data, .data, .sentinel, .sentinel, .pinned], laidTests := true, laidLooks := .later }
def KeepRunsUptoCardSaid : Prop := Claim7.holds Tryz.pinned (.plain (OpenSpec.upto keepRunsSpec)) keepRunsUptoCard

/-- THE SECOND FORM's CARD OF 'bloomerylaw26.KeepCompact'. -/
def keepCompactUptoCard : Claim7 := { stood := { row := keepCompactUptoRow, standIns := [], harness := (true, "b28a4743922011ef464009d75fec34d7e94a2844de71651a6a42119f68d1491e"), looks := true }, kinds := [], alts := [], laidByText := true, laidKinds := [.data, .data, .data, .data, .sentinel, .sentinel, .pinned], laidTests := true, laidLooks := .later }
def KeepCompactUptoCardSaid : Prop := Claim7.holds Tryz.pinned (.plain (OpenSpec.upto keepCompactSpec)) keepCompactUptoCard
end Rows
end Go.Proofs.YtcioeonlclpacaaGreatDoor
