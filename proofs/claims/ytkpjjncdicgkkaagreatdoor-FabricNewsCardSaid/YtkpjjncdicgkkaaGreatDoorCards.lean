/-
  DERIVED. GIVEN WITH THE SEED: THE CARDS: each row of YtkpjjncdicgkkaaGreatDoorRows.lean that lists a variable, with what it lists TIED to the program's text (the seventh form; the later family's looks); each row that meets fmt, with fmt's text TOLD by the authors' own Lean function (tested against real Go, not proved from fmt's source: count such statements apart). THE CARD IS WHAT COUNTS. Prove the row's statement (the work); the ties are given (YtkpjjncdicgkkaaGreatDoorTie.lean); close each card by the builder's one call (the guide's Derived/Test/ToyasCard.lean, 'card_holds'). Laid BY PROGRAM, IN A SANDBOX (cutbox-door.mjs). By AI agents, Wed Nov 11 2026. No macro, syntax, notation, axiom, sorry.
-/
import Derived.Test.YtkpjjncdicgkkaaGreatDoorRows
import GoSem.ClaimSeven
namespace Go.Proofs.YtkpjjncdicgkkaaGreatDoor
namespace Rows

/-- THE TIED CARD OF 'gangwaylaw27.FabricNews'. -/
def fabricNewsCard : Claim7 := { stood := { row := fabricNewsRow, standIns := [], harness := (true, "f117e9b01b07bf089d993a75460a11fda5222c78337ced2356fc06205fb9031f"), looks := true }, kinds := [], alts := [], laidByText := true, laidKinds := [.handle], laidTests := true, laidLooks := .later }
def FabricNewsCardSaid : Prop := Claim7.holds Tryz.pinned (.plain (OpenSpec.ofChange fabricNewsSpec)) fabricNewsCard

/-- THE SECOND FORM's CARD OF 'gangwaylaw27.FabricNews'. -/
def fabricNewsUptoCard : Claim7 := { stood := { row := fabricNewsUptoRow, standIns := [], harness := (true, "f117e9b01b07bf089d993a75460a11fda5222c78337ced2356fc06205fb9031f"), looks := true }, kinds := [], alts := [], laidByText := true, laidKinds := [.handle], laidTests := true, laidLooks := .later }
def FabricNewsUptoCardSaid : Prop := Claim7.holds Tryz.pinned (.plain (OpenSpec.upto fabricNewsSpec)) fabricNewsUptoCard
end Rows
end Go.Proofs.YtkpjjncdicgkkaaGreatDoor
