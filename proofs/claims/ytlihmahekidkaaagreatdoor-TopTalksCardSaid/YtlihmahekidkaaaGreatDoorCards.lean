/-
  DERIVED. GIVEN WITH THE SEED: THE CARDS: each row of YtlihmahekidkaaaGreatDoorRows.lean that lists a variable, with what it lists TIED to the program's text (the seventh form; the later family's looks); each row that meets fmt, with fmt's text TOLD by the authors' own Lean function (tested against real Go, not proved from fmt's source: count such statements apart). THE CARD IS WHAT COUNTS. Prove the row's statement (the work); the ties are given (YtlihmahekidkaaaGreatDoorTie.lean); close each card by the builder's one call (the guide's Derived/Test/ToyasCard.lean, 'card_holds'). Laid BY PROGRAM, IN A SANDBOX (cutbox-door.mjs). By AI agents, Wed Nov 11 2026. No macro, syntax, notation, axiom, sorry.
-/
import Derived.Test.YtlihmahekidkaaaGreatDoorRows
import GoSem.ClaimSeven
namespace Go.Proofs.YtlihmahekidkaaaGreatDoor
namespace Rows

/-- THE TIED CARD OF 'gangwaytop.TopTalks'. -/
def topTalksCard : Claim7 := { stood := { row := topTalksRow, standIns := [], harness := (true, "4b90dc99ce2ccc03608fefc23d98d73e49aa3196cd02d3b6ad199f02046a0883"), looks := true }, kinds := [], alts := [], laidByText := true, laidKinds := [.handle], laidTests := true, laidLooks := .later }
def TopTalksCardSaid : Prop := Claim7.holds Tryz.pinned (.plain (OpenSpec.ofChange topTalksSpec)) topTalksCard

/-- THE TIED CARD OF 'gangwaylaw24.VtepCarries'. -/
def vtepCarriesCard : Claim7 := { stood := { row := vtepCarriesRow, standIns := [], harness := (true, "4b90dc99ce2ccc03608fefc23d98d73e49aa3196cd02d3b6ad199f02046a0883"), looks := true }, kinds := [], alts := [], laidByText := true, laidKinds := [.handle], laidTests := true, laidLooks := .later }
def VtepCarriesCardSaid : Prop := Claim7.holds Tryz.pinned (.plain (OpenSpec.ofChange vtepCarriesSpec)) vtepCarriesCard

/-- THE SECOND FORM's CARD OF 'gangwaytop.TopTalks'. -/
def topTalksUptoCard : Claim7 := { stood := { row := topTalksUptoRow, standIns := [], harness := (true, "4b90dc99ce2ccc03608fefc23d98d73e49aa3196cd02d3b6ad199f02046a0883"), looks := true }, kinds := [], alts := [], laidByText := true, laidKinds := [.handle], laidTests := true, laidLooks := .later }
def TopTalksUptoCardSaid : Prop := Claim7.holds Tryz.pinned (.plain (OpenSpec.upto topTalksSpec)) topTalksUptoCard

/-- THE SECOND FORM's CARD OF 'gangwaylaw24.VtepCarries'. -/
def vtepCarriesUptoCard : Claim7 := { stood := { row := vtepCarriesUptoRow, standIns := [], harness := (true, "4b90dc99ce2ccc03608fefc23d98d73e49aa3196cd02d3b6ad199f02046a0883"), looks := true }, kinds := [], alts := [], laidByText := true, laidKinds := [.handle], laidTests := true, laidLooks := .later }
def VtepCarriesUptoCardSaid : Prop := Claim7.holds Tryz.pinned (.plain (OpenSpec.upto vtepCarriesSpec)) vtepCarriesUptoCard
end Rows
end Go.Proofs.YtlihmahekidkaaaGreatDoor
