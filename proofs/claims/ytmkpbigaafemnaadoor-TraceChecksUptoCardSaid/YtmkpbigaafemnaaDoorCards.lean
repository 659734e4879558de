/-
  DERIVED. GIVEN WITH THE SEED: THE CARDS: each row of YtmkpbigaafemnaaDoorRows.lean that lists a variable, with what it lists TIED to the program's text (the seventh form; the later family's looks); each row that meets fmt, with fmt's text TOLD by the authors' own Lean function (tested against real Go, not proved from fmt's source: count such statements apart). THE CARD IS WHAT COUNTS. Prove the row's statement (the work); the ties are given (YtmkpbigaafemnaaDoorTie.lean); close each card by the builder's one call (the guide's Derived/Test/ToyasCard.lean, 'card_holds'). Laid BY PROGRAM, IN A SANDBOX (cutbox-door.mjs). By AI agents, Wed Nov 11 2026. No macro, syntax, notation, axiom, sorry.
-/
import Derived.Test.YtmkpbigaafemnaaDoorRows
import GoSem.ClaimSeven
namespace Go.Proofs.YtmkpbigaafemnaaDoor
namespace Rows

/-- THE TIED CARD OF 'bloomerylaw25.DbKeeps'. -/
def dbKeepsCard : Claim7 := { stood := { row := dbKeepsRow, standIns := [], harness := (true, "1bdab353b476b1fffca316d0fe505d907ef1b21df57252b9617a59db347beca8"), looks := true }, kinds := [], alts := [], laidByText := true, laidKinds := [.data, .pinned], laidTests := true, laidLooks := .later }
def DbKeepsCardSaid : Prop := Claim7.holds Tryd.pinned (.plain (OpenSpec.ofChange dbKeepsSpec)) dbKeepsCard

/-- THE TIED CARD OF 'bloomerylaw23.TraceLimits'. -/
def traceLimitsCard : Claim7 := { stood := { row := traceLimitsRow, standIns := [], harness := (true, "1bdab353b476b1fffca316d0fe505d907ef1b21df57252b9617a59db347beca8"), looks := true }, kinds := [], alts := [], laidByText := true, laidKinds := [.data, .data, .data, .data, .pinned], laidTests := true, laidLooks := .later }
def TraceLimitsCardSaid : Prop := Claim7.holds Tryd.pinned (.plain (OpenSpec.ofChange traceLimitsSpec)) traceLimitsCard

/-- THE TIED CARD OF 'bloomerylaw23.TraceHolds'. -/
def traceHoldsCard : Claim7 := { stood := { row := traceHoldsRow, standIns := [], harness := (true, "1bdab353b476b1fffca316d0fe505d907ef1b21df57252b9617a59db347beca8"), looks := true }, kinds := [], alts := [], laidByText := true, laidKinds := [.data, .data, .data, .data, .pinned], laidTests := true, laidLooks := .later }
def TraceHoldsCardSaid : Prop := Claim7.holds Tryd.pinned (.plain (OpenSpec.ofChange traceHoldsSpec)) traceHoldsCard

/-- THE TIED CARD OF 'bloomerylaw23.TraceWalks'. -/
def traceWalksCard : Claim7 := { stood := { row := traceWalksRow, standIns := [], harness := (true, "1bdab353b476b1fffca316d0fe505d907ef1b21df57252b9617a59db347beca8"), looks := true }, kinds := [], alts := [], laidByText := true, laidKinds := [.data, .data, .data, .data, .pinned], laidTests := true, laidLooks := .later }
def TraceWalksCardSaid : Prop := Claim7.holds Tryd.pinned (.plain (OpenSpec.ofChange traceWalksSpec)) traceWalksCard

/-- THE TIED CARD OF 'bloomerylaw23.TraceSame'. -/
def traceSameCard : Claim7 := { stood := { row := traceSameRow, standIns := [], harness := (true, "1bdab353b476b1fffca316d0fe505d907ef1b21df57252b9617a59db347beca8"), looks := true }, kinds := [], alts := [], laidByText := true, laidKinds := [.data, .data, .data, .data, .pinned], laidTests := true, laidLooks := .later }
def TraceSameCardSaid : Prop := Claim7.holds Tryd.pinned (.plain (OpenSpec.ofChange traceSameSpec)) traceSameCard

/-- THE TIED CARD OF 'bloomerylaw23.TraceOf'. -/
def traceOfCard : Claim7 := { stood := { row := traceOfRow, standIns := [], harness := (true, "1bdab353b476b1fffca316d0fe505d907ef1b21df57252b9617a59db347beca8"), looks := true }, kinds := [], alts := [], laidByText := true, laidKinds := [.data, .data, .data, .data, .pinned], laidTests := true, laidLooks := .later }
def TraceOfCardSaid : Prop := Claim7.holds Tryd.pinned (.plain (OpenSpec.ofChange traceOfSpec)) traceOfCard

/-- THE TIED CARD OF 'bloomerylaw23.TraceStored'. -/
def traceStoredCard : Claim7 := { stood := { row := traceStoredRow, standIns := [], harness := (true, "1bdab353b476b1fffca316d0fe505d907ef1b21df57252b9617a59db347beca8"), looks := true }, kinds := [], alts := [], laidByText := true, laidKinds := [.data, .data, .data, .data, .pinned], laidTests := true, laidLooks := .later }
def TraceStoredCardSaid : Prop := Claim7.holds Tryd.pinned (.plain (OpenSpec.ofChange traceStoredSpec)) traceStoredCard

/-- THE TIED CARD OF 'bloomerylaw23.TraceReads'. -/
def traceReadsCard : Claim7 := { stood := { row := traceReadsRow, standIns := [], harness := (true, "1bdab353b476b1fffca316d0fe505d907ef1b21df57252b9617a59db347beca8"), looks := true }, kinds := [], alts := [], laidByText := true, laidKinds := [.data, .data, .data, .data, .sentinel, .sentinel, .pinned], laidTests := true, laidLooks := .later }
def TraceReadsCardSaid : Prop := Claim7.holds Tryd.pinned (.plain (OpenSpec.ofChange traceReadsSpec)) traceReadsCard

/-- THE TIED CARD OF 'bloomerylaw23.TraceChecks'. -/
def traceChecksCard : Claim7 := { stood := { row := traceChecksRow, standIns := [], harness := (true, "1bdab353b476b1fffca316d0fe505d907ef1b21df57252b9617a59db347beca8"), looks := true }, kinds := [], alts := [], laidByText := true, laidKinds := [.data, .data, .data, .data, .sentinel, .sentinel, .pinned], laidTests := true, laidLooks := .later }
def TraceChecksCardSaid : Prop := Claim7.holds Tryd.pinned (.plain (OpenSpec.ofChange traceChecksSpec)) traceChecksCard

/-- THE SECOND FORM's CARD OF 'bloomerylaw25.DbKeeps'. -/
def dbKeepsUptoCard : Claim7 := { stood := { row := dbKeepsUptoRow, standIns := [], harness := (true, "1bdab353b476b1fffca316d0fe505d907ef1b21df57252b9617a59db347beca8"), looks := true }, kinds := [], alts := [], laidByText := true, laidKinds := [.data, .pinned], laidTests := true, laidLooks := .later }
def DbKeepsUptoCardSaid : Prop := Claim7.holds Tryd.pinned (.plain (OpenSpec.upto dbKeepsSpec)) dbKeepsUptoCard

/-- THE SECOND FORM's CARD OF 'bloomerylaw23.TraceLimits'. -/
def traceLimitsUptoCard : Claim7 := { stood := { row := traceLimitsUptoRow, standIns := [], harness := (true, "1bdab353b476b1fffca316d0fe505d907ef1b21df57252b9617a59db347beca8"), looks := true }, kinds := [], alts := [], laidByText := true, laidKinds := [.data, .data, .data, .data, .pinned], laidTests := true, laidLooks := .later }
def TraceLimitsUptoCardSaid : Prop := Claim7.holds Tryd.pinned (.plain (OpenSpec.upto traceLimitsSpec)) traceLimitsUptoCard

/-- THE SECOND FORM's CARD OF 'bloomerylaw23.TraceHolds'. -/
def traceHoldsUptoCard : Claim7 := { stood := { row := traceHoldsUptoRow, standIns := [], harness := (true, "1bdab353b476b1fffca316d0fe505d907ef1b21df57252b9617a59db347beca8"), looks := true }, kinds := [], alts := [], laidByText := true, laidKinds := [.data, .data, .data, .data, .pinned], laidTests := true, laidLooks := .later }
def TraceHoldsUptoCardSaid : Prop := Claim7.holds Tryd.pinned (.plain (OpenSpec.upto traceHoldsSpec)) traceHoldsUptoCard

/-- THE SECOND FORM's CARD OF 'bloomerylaw23.TraceWalks'. -/
def traceWalksUptoCard : Claim7 := { stood := { row := traceWalksUptoRow, standIns := [], harness := (true, "1bdab353b476b1fffca316d0fe505d907ef1b21df57252b9617a59db347beca8"), looks := true }, kinds := [], alts := [], laidByText := true, laidKinds := [.data, .data, .data, .data, .pinned], laidTests := true, laidLooks := .later }
def TraceWalksUptoCardSaid : Prop := Claim7.holds Tryd.pinned (.plain (OpenSpec.upto traceWalksSpec)) traceWalksUptoCard

/-- THE SECOND FORM's CARD OF 'bloomerylaw23.TraceSame'. -/
def traceSameUptoCard : Claim7 := { stood := { row := traceSameUptoRow, standIns := [], harness := (true, "1bdab353b476b1fffca316d0fe505d907ef1b21df57252b9617a59db347beca8"), looks := true }, kinds := [], alts := [], laidByText := true, laidKinds := [.data, .data, .data, .data, .pinned], laidTests := true, laidLooks := .later }
def TraceSameUptoCardSaid : Prop := Claim7.holds Tryd.pinned (.plain (OpenSpec.upto traceSameSpec)) traceSameUptoCard

/-- THE SECOND FORM's CARD OF 'bloomerylaw23.TraceOf'. -/
def traceOfUptoCard : Claim7 := { stood := { row := traceOfUptoRow, standIns := [], harness := (true, "1bdab353b476b1fffca316d0fe505d907ef1b21df57252b9617a59db347beca8"), looks := true }, kinds := [], alts := [], laidByText := true, laidKinds := [.data, .data, .data, .data, .pinned], laidTests := true, laidLooks := .later }
def TraceOfUptoCardSaid : Prop := Claim7.holds Tryd.pinned (.plain (OpenSpec.upto traceOfSpec)) traceOfUptoCard

/-- THE SECOND FORM's CARD OF 'bloomerylaw23.TraceStored'. -/
def traceStoredUptoCard : Claim7 := { stood := { row := traceStoredUptoRow, standIns := [], harness := (true, "1bdab353b476b1fffca316d0fe505d907ef1b21df57252b9617a59db347beca8"), looks := true }, kinds := [], alts := [], laidByText := true, laidKinds := [.data, .data, .data, .data, .pinned], laidTests := true, laidLooks := .later }
def TraceStoredUptoCardSaid : Prop := Claim7.holds Tryd.pinned (.plain (OpenSpec.upto traceStoredSpec)) traceStoredUptoCard

/-- THE SECOND FORM's CARD OF 'bloomerylaw23.TraceReads'. -/
def traceReadsUptoCard : Claim7 := { stood := { row := traceReadsUptoRow, standIns := [], harness := (true, "1bdab353b476b1fffca316d0fe505d907ef1b21df57252b9617a59db347beca8"), looks := true }, kinds := [], alts := [], laidByText := true, laidKinds := [.data, .data, .data, .data, .sentinel, .sentinel, .pinned], laidTests := true, laidLooks := .later }
def TraceReadsUptoCardSaid : Prop := Claim7.holds Tryd.pinned (.plain (OpenSpec.upto traceReadsSpec)) traceReadsUptoCard

/-- THE SECOND FORM's CARD OF 'bloomerylaw23.TraceChecks'. -/
def traceChecksUptoCard : Claim7 := { stood := { row := traceChecksUptoRow, standIns := [], harness := (true, "1bdab353b476b1fffca316d0fe505d907ef1b21df57252b9617a59db347beca8"), looks := true }, kinds := [], alts := [], laidByText := true, laidKinds := [.data, .data, .data, .data, .sentinel, .sentinel, .pinned], laidTests := true, laidLooks := .later }
def TraceChecksUptoCardSaid : Prop := Claim7.holds Tryd.pinned (.plain (OpenSpec.upto traceChecksSpec)) traceChecksUptoCard
end Rows
end Go.Proofs.YtmkpbigaafemnaaDoor
