/-
  DERIVED. GIVEN WITH THE SEED: THE CARDS: each row of YtbodofjnfmjbpaaGreatDoorRows.lean that lists a variable, with what it lists TIED to the program's text (the seventh form; the later family's looks); each row that meets fmt, with fmt's text TOLD by the authors' own Lean function (tested against real Go, not proved from fmt's source: count such statements apart). THE CARD IS WHAT COUNTS. Prove the row's statement (the work); the ties are given (YtbodofjnfmjbpaaGreatDoorTie.lean); close each card by the builder's one call (the guide's Derived/Test/ToyasCard.lean, 'card_holds'). Laid BY PROGRAM, IN A SANDBOX (cutbox-door.mjs). By AI agents, Wed Nov 11 2026. No macro, syntax, notation, axiom, sorry.
-/
import Derived.Test.YtbodofjnfmjbpaaGreatDoorRows
import GoSem.ClaimSeven
namespace Go.Proofs.YtbodofjnfmjbpaaGreatDoor
namespace Rows

/-- THE TIED CARD OF 'gangwaylaw22.TunnelWraps'. -/
def tunnelWrapsCard : Claim7 := { stood := { row := tunnelWrapsRow, standIns := [], harness := (true, "f5df218c9da7bd62c8a5d0a56536dceb6ae5f80aa717339b778d03be3fbb3b64"), looks := true }, kinds := [], alts := [], laidByText := true, laidKinds := [.handle], laidTests := true, laidLooks := .later }
def TunnelWrapsCardSaid : Prop := Claim7.holds Tryz.pinned (.plain (OpenSpec.ofChange tunnelWrapsSpec)) tunnelWrapsCard

/-- THE TIED CARD OF 'gangwaylaw22.TunnelUnwraps'. -/
def tunnelUnwrapsCard : Claim7 := { stood := { row := tunnelUnwrapsRow, standIns := [], harness := (true, "f5df218c9da7bd62c8a5d0a56536dceb6ae5f80aa717339b778d03be3fbb3b64"), looks := true }, kinds := [], alts := [], laidByText := true, laidKinds := [.handle], laidTests := true, laidLooks := .later }
def TunnelUnwrapsCardSaid : Prop := Claim7.holds Tryz.pinned (.plain (OpenSpec.ofChange tunnelUnwrapsSpec)) tunnelUnwrapsCard

/-- THE TIED CARD OF 'gangwaylaw22.TunnelBack'. -/
def tunnelBackCard : Claim7 := { stood := { row := tunnelBackRow, standIns := [], harness := (true, "f5df218c9da7bd62c8a5d0a56536dceb6ae5f80aa717339b778d03be3fbb3b64"), looks := true }, kinds := [], alts := [], laidByText := true, laidKinds := [.handle], laidTests := true, laidLooks := .later }
def TunnelBackCardSaid : Prop := Claim7.holds Tryz.pinned (.plain (OpenSpec.ofChange tunnelBackSpec)) tunnelBackCard

/-- THE TIED CARD OF 'gangwaylaw22.TunnelPorts'. -/
def tunnelPortsCard : Claim7 := { stood := { row := tunnelPortsRow, standIns := [], harness := (true, "f5df218c9da7bd62c8a5d0a56536dceb6ae5f80aa717339b778d03be3fbb3b64"), looks := true }, kinds := [], alts := [], laidByText := true, laidKinds := [.handle], laidTests := true, laidLooks := .later }
def TunnelPortsCardSaid : Prop := Claim7.holds Tryz.pinned (.plain (OpenSpec.ofChange tunnelPortsSpec)) tunnelPortsCard

/-- THE TIED CARD OF 'gangwaylaw22.TunnelStranger'. -/
def tunnelStrangerCard : Claim7 := { stood := { row := tunnelStrangerRow, standIns := [], harness := (true, "f5df218c9da7bd62c8a5d0a56536dceb6ae5f80aa717339b778d03be3fbb3b64"), looks := true }, kinds := [], alts := [], laidByText := true, laidKinds := [.handle], laidTests := true, laidLooks := .later }
def TunnelStrangerCardSaid : Prop := Claim7.holds Tryz.pinned (.plain (OpenSpec.ofChange tunnelStrangerSpec)) tunnelStrangerCard

/-- THE SECOND FORM's CARD OF 'gangwaylaw22.TunnelWraps'. -/
def tunnelWrapsUptoCard : Claim7 := { stood := { row := tunnelWrapsUptoRow, standIns := [], harness := (true, "f5df218c9da7bd62c8a5d0a56536dceb6ae5f80aa717339b778d03be3fbb3b64"), looks := true }, kinds := [], alts := [], laidByText := true, laidKinds := [.handle], laidTests := true, laidLooks := .later }
def TunnelWrapsUptoCardSaid : Prop := Claim7.holds Tryz.pinned (.plain (OpenSpec.upto tunnelWrapsSpec)) tunnelWrapsUptoCard

/-- THE SECOND FORM's CARD OF 'gangwaylaw22.TunnelUnwraps'. -/
def tunnelUnwrapsUptoCard : Claim7 := { stood := { row := tunnelUnwrapsUptoRow, standIns := [], harness := (true, "f5df218c9da7bd62c8a5d0a56536dceb6ae5f80aa717339b778d03be3fbb3b64"), looks := true }, kinds := [], alts := [], laidByText := true, laidKinds := [.handle], laidTests := true, laidLooks := .later }
def TunnelUnwrapsUptoCardSaid : Prop := Claim7.holds Tryz.pinned (.plain (OpenSpec.upto tunnelUnwrapsSpec)) tunnelUnwrapsUptoCard

/-- THE SECOND FORM's CARD OF 'gangwaylaw22.TunnelBack'. -/
def tunnelBackUptoCard : Claim7 := { stood := { row := tunnelBackUptoRow, standIns := [], harness := (true, "f5df218c9da7bd62c8a5d0a56536dceb6ae5f80aa717339b778d03be3fbb3b64"), looks := true }, kinds := [], alts := [], laidByText := true, laidKinds := [.handle], laidTests := true, laidLooks := .later }
def TunnelBackUptoCardSaid : Prop := Claim7.holds Tryz.pinned (.plain (OpenSpec.upto tunnelBackSpec)) tunnelBackUptoCard

/-- THE SECOND FORM's CARD OF 'gangwaylaw22.TunnelPorts'. -/
def tunnelPortsUptoCard : Claim7 := { stood := { row := tunnelPortsUptoRow, standIns := [], harness := (true, "f5df218c9da7bd62c8a5d0a56536dceb6ae5f80aa717339b778d03be3fbb3b64"), looks := true }, kinds := [], alts := [], laidByText := true, laidKinds := [.handle], laidTests := true, laidLooks := .later }
def TunnelPortsUptoCardSaid : Prop := Claim7.holds Tryz.pinned (.plain (OpenSpec.upto tunnelPortsSpec)) tunnelPortsUptoCard

/-- THE SECOND FORM's CARD OF 'gangwaylaw22.TunnelStranger'. -/
def tunnelStrangerUptoCard : Claim7 := { stood := { row := tunnelStrangerUptoRow, standIns := [], harness := (true, "f5df218c9da7bd62c8a5d0a56536dceb6ae5f80aa717339b778d03be3fbb3b64"), looks := true }, kinds := [], alts := [], laidByText := true, laidKinds := [.handle], laidTests := true, laidLooks := .later }
def TunnelStrangerUptoCardSaid : Prop := Claim7.holds Tryz.pinned (.plain (OpenSpec.upto tunnelStrangerSpec)) tunnelStrangerUptoCard
end Rows
end Go.Proofs.YtbodofjnfmjbpaaGreatDoor
