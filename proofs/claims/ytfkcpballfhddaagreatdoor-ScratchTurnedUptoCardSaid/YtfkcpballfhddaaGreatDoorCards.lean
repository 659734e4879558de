/-
  DERIVED. GIVEN WITH THE SEED: THE CARDS: each row of YtfkcpballfhddaaGreatDoorRows.lean that lists a variable, with what it lists TIED to the program's text (the seventh form; the later family's looks); each row that meets fmt, with fmt's text TOLD by the authors' own Lean function (tested against real Go, not proved from fmt's source: count such statements apart). THE CARD IS WHAT COUNTS. Prove the row's statement (the work); the ties are given (YtfkcpballfhddaaGreatDoorTie.lean); close each card by the builder's one call (the guide's Derived/Test/ToyasCard.lean, 'card_holds'). Laid BY PROGRAM, IN A SANDBOX (cutbox-door.mjs). By AI agents, Wed Nov 11 2026. No macro, syntax, notation, axiom, sorry.
-/
import Derived.Test.YtfkcpballfhddaaGreatDoorRows
import GoSem.ClaimSeven
namespace Go.Proofs.YtfkcpballfhddaaGreatDoor
namespace Rows

/-- THE TIED CARD OF 'bloomerylaw29.ScratchTurned'. -/
def scratchTurnedCard : Claim7 := { stood := { row := scratchTurnedRow, standIns := [], harness := (true, "c129c27c556509181e11e021861fe176b2f5a2f101529bac5ce0b1f12d45e829"), looks := false }, kinds := [], alts := [], laidByText := true, laidKinds := [.data, .data, .data, .data, .pinned], laidTests := true, laidLooks := .later }
def ScratchTurnedCardSaid : Prop := Claim7.holds Tryz.pinned (.plain (OpenSpec.ofChange scratchTurnedSpec)) scratchTurnedCard

/-- THE TIED CARD OF 'bloomerylaw29.ScratchRings'. -/
def scratchRingsCard : Claim7 := { stood := { row := scratchRingsRow, standIns := [], harness := (true, "c129c27c556509181e11e021861fe176b2f5a2f101529bac5ce0b1f12d45e829"), looks := false }, kinds := [], alts := [], laidByText := true, laidKinds := [.data, .data, .data, .data, .pinned], laidTests := true, laidLooks := .later }
def ScratchRingsCardSaid : Prop := Claim7.holds Tryz.pinned (.plain (OpenSpec.ofChange scratchRingsSpec)) scratchRingsCard

/-- THE TIED CARD OF 'bloomerylaw29.ScratchExtra'. -/
def scratchExtraCard : Claim7 := { stood := { row := scratchExtraRow, standIns := [], harness := (true, "c129c27c556509181e11e021861fe176b2f5a2f101529bac5ce0b1f12d45e829"), looks := false }, kinds := [], alts := [], laidByText := true, laidKinds := [.data, .data, .data, .data, .pinned], laidTests := true, laidLooks := .later }
def ScratchExtraCardSaid : Prop := Claim7.holds Tryz.pinned (.plain (OpenSpec.ofChange scratchExtraSpec)) scratchExtraCard

/-- THE TIED CARD OF 'bloomerylaw29.ScratchAsks'. -/
def scratchAsksCard : Claim7 := { stood := { row := scratchAsksRow, standIns := [], harness := (true, "c129c27c556509181e11e021861fe176b2f5a2f101529bac5ce0b1f12d45e829"), looks := false }, kinds := [], alts := [], laidByText := true, laidKinds := [.data, .data, .data, .data, .pinned], laidTests := true, laidLooks := .later }
def ScratchAsksCardSaid : Prop := Claim7.holds Tryz.pinned (.plain (OpenSpec.ofChange scratchAsksSpec)) scratchAsksCard

/-- THE SECOND FORM's CARD OF 'bloomerylaw29.ScratchTurned'. -/
def scratchTurnedUptoCard : Claim7 := { stood := { row := scratchTurnedUptoRow, standIns := [], harness := (true, "c129c27c556509181e11e021861fe176b2f5a2f101529bac5ce0b1f12d45e829"), looks := false }, kinds := [], alts := [], laidByText := true, laidKinds := [.data, .data, .data, .data, .pinned], laidTests := true, laidLooks := .later }
def ScratchTurnedUptoCardSaid : Prop := Claim7.holds Tryz.pinned (.plain (OpenSpec.upto scratchTurnedSpec)) scratchTurnedUptoCard

/-- THE SECOND FORM's CARD OF 'bloomerylaw29.ScratchRings'. -/
def scratchRingsUptoCard : Claim7 := { stood := { row := scratchRingsUptoRow, standIns := [], harness := (true, "c129c27c556509181e11e021861fe176b2f5a2f101529bac5ce0b1f12d45e829"), looks := false }, kinds := [], alts := [], laidByText := true, laidKinds := [.data, .data, .data, .data, .pinned], laidTests := true, laidLooks := .later }
def ScratchRingsUptoCardSaid : Prop := Claim7.holds Tryz.pinned (.plain (OpenSpec.upto scratchRingsSpec)) scratchRingsUptoCard

/-- THE SECOND FORM's CARD OF 'bloomerylaw29.ScratchExtra'. -/
def scratchExtraUptoCard : Claim7 := { stood := { row := scratchExtraUptoRow, standIns := [], harness := (true, "c129c27c556509181e11e021861fe176b2f5a2f101529bac5ce0b1f12d45e829"), looks := false }, kinds := [], alts := [], laidByText := true, laidKinds := [.data, .data, .data, .data, .pinned], laidTests := true, laidLooks := .later }
def ScratchExtraUptoCardSaid : Prop := Claim7.holds Tryz.pinned (.plain (OpenSpec.upto scratchExtraSpec)) scratchExtraUptoCard

/-- THE SECOND FORM's CARD OF 'bloomerylaw29.ScratchAsks'. -/
def scratchAsksUptoCard : Claim7 := { stood := { row := scratchAsksUptoRow, standIns := [], harness := (true, "c129c27c556509181e11e021861fe176b2f5a2f101529bac5ce0b1f12d45e829"), looks := false }, kinds := [], alts := [], laidByText := true, laidKinds := [.data, .data, .data, .data, .pinned], laidTests := true, laidLooks := .later }
def ScratchAsksUptoCardSaid : Prop := Claim7.holds Tryz.pinned (.plain (OpenSpec.upto scratchAsksSpec)) scratchAsksUptoCard
end Rows
end Go.Proofs.YtfkcpballfhddaaGreatDoor
