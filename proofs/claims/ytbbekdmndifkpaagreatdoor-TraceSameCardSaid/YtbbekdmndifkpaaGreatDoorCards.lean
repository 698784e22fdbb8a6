/-
  DERIVED. GIVEN WITH THE SEED: THE CARDS: each row of YtbbekdmndifkpaaGreatDoorRows.lean that lists a variable, with what it lists TIED to the program's text (the seventh form; the later family's looks); each row that meets fmt, with fmt's text TOLD by the authors' own Lean function (tested against real Go, not proved from fmt's source: count such statements apart). THE CARD IS WHAT COUNTS. Prove the row's statement (the work); the ties are given (YtbbekdmndifkpaaGreatDoorTie.lean); close each card by the builder's one call (the guide's Derived/Test/ToyasCard.lean, 'card_holds'). Laid BY PROGRAM, IN A SANDBOX (cutbox-door.mjs). By AI agents, Wed Nov 11 2026. No macro, syntax, notation, axiom, sorry.
-/
import Derived.Test.YtbbekdmndifkpaaGreatDoorRows
import GoSem.ClaimSeven
namespace Go.Proofs.YtbbekdmndifkpaaGreatDoor
namespace Rows

/-- THE TIED CARD OF 'gangwaylaw28.TraceAhead'. -/
def traceAheadCard : Claim7 := { stood := { row := traceAheadRow, standIns := [], harness := (true, "25fef02dac3b44037c4c8bd6b1b287bc313cfe225bc95feca531ae8be2ba2018"), looks := true }, kinds := [], alts := [], laidByText := true, laidKinds := [.handle], laidTests := true, laidLooks := .later }
def TraceAheadCardSaid : Prop := Claim7.holds Tryz.pinned (.plain (OpenSpec.ofChange traceAheadSpec)) traceAheadCard

/-- THE TIED CARD OF 'gangwaylaw28.TraceTwice'. -/
def traceTwiceCard : Claim7 := { stood := { row := traceTwiceRow, standIns := [], harness := (true, "25fef02dac3b44037c4c8bd6b1b287bc313cfe225bc95feca531ae8be2ba2018"), looks := true }, kinds := [], alts := [], laidByText := true, laidKinds := [.handle], laidTests := true, laidLooks := .later }
def TraceTwiceCardSaid : Prop := Claim7.holds Tryz.pinned (.plain (OpenSpec.ofChange traceTwiceSpec)) traceTwiceCard

/-- THE TIED CARD OF 'gangwaylaw28.TraceSame'. -/
def traceSameCard : Claim7 := { stood := { row := traceSameRow, standIns := [], harness := (true, "25fef02dac3b44037c4c8bd6b1b287bc313cfe225bc95feca531ae8be2ba2018"), looks := true }, kinds := [], alts := [], laidByText := true, laidKinds := [.handle], laidTests := true, laidLooks := .later }
def TraceSameCardSaid : Prop := Claim7.holds Tryz.pinned (.plain (OpenSpec.ofChange traceSameSpec)) traceSameCard

/-- THE SECOND FORM's CARD OF 'gangwaylaw28.TraceAhead'. -/
def traceAheadUptoCard : Claim7 := { stood := { row := traceAheadUptoRow, standIns := [], harness := (true, "25fef02dac3b44037c4c8bd6b1b287bc313cfe225bc95feca531ae8be2ba2018"), looks := true }, kinds := [], alts := [], laidByText := true, laidKinds := [.handle], laidTests := true, laidLooks := .later }
def TraceAheadUptoCardSaid : Prop := Claim7.holds Tryz.pinned (.plain (OpenSpec.upto traceAheadSpec)) traceAheadUptoCard

/-- THE SECOND FORM's CARD OF 'gangwaylaw28.TraceTwice'. -/
def traceTwiceUptoCard : Claim7 := { stood := { row := traceTwiceUptoRow, standIns := [], harness := (true, "25fef02dac3b44037c4c8bd6b1b287bc313cfe225bc95feca531ae8be2ba2018"), looks := true }, kinds := [], alts := [], laidByText := true, laidKinds := [.handle], laidTests := true, laidLooks := .later }
def TraceTwiceUptoCardSaid : Prop := Claim7.holds Tryz.pinned (.plain (OpenSpec.upto traceTwiceSpec)) traceTwiceUptoCard

/-- THE SECOND FORM's CARD OF 'gangwaylaw28.TraceSame'. -/
def traceSameUptoCard : Claim7 := { stood := { row := traceSameUptoRow, standIns := [], harness := (true, "25fef02dac3b44037c4c8bd6b1b287bc313cfe225bc95feca531ae8be2ba2018"), looks := true }, kinds := [], alts := [], laidByText := true, laidKinds := [.handle], laidTests := true, laidLooks := .later }
def TraceSameUptoCardSaid : Prop := Claim7.holds Tryz.pinned (.plain (OpenSpec.upto traceSameSpec)) traceSameUptoCard
end Rows
end Go.Proofs.YtbbekdmndifkpaaGreatDoor
