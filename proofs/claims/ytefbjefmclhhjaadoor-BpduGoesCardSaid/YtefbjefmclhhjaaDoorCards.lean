/-
  DERIVED. GIVEN WITH THE SEED: THE CARDS: each row of YtefbjefmclhhjaaDoorRows.lean that lists a variable, with what it lists TIED to the program's text (the seventh form; the later family's looks); each row that meets fmt, with fmt's text TOLD by the authors' own Lean function (tested against real Go, not proved from fmt's source: count such statements apart). THE CARD IS WHAT COUNTS. Prove the row's statement (the work); the ties are given (YtefbjefmclhhjaaDoorTie.lean); close each card by the builder's one call (the guide's Derived/Test/ToyasCard.lean, 'card_holds'). Laid BY PROGRAM, IN A SANDBOX (cutbox-door.mjs). By AI agents, Wed Nov 11 2026. No macro, syntax, notation, axiom, sorry.
-/
import Derived.Test.YtefbjefmclhhjaaDoorRows
import GoSem.ClaimSeven
namespace Go.Proofs.YtefbjefmclhhjaaDoor
namespace Rows

/-- THE TIED CARD OF 'gangwaylaw04.EtherParses'. -/
def etherParsesCard : Claim7 := { stood := { row := etherParsesRow, standIns := [], harness := (true, "61a527e199fb1d9030788200f951fc72dfb1bf8a629be732a5b387efafe22e7d"), looks := true }, kinds := [], alts := [], laidByText := true, laidKinds := [.handle], laidTests := true, laidLooks := .later }
def EtherParsesCardSaid : Prop := Claim7.holds Tryd.pinned (.plain (OpenSpec.ofChange etherParsesSpec)) etherParsesCard

/-- THE TIED CARD OF 'gangwaylaw04.EtherBack'. -/
def etherBackCard : Claim7 := { stood := { row := etherBackRow, standIns := [], harness := (true, "61a527e199fb1d9030788200f951fc72dfb1bf8a629be732a5b387efafe22e7d"), looks := true }, kinds := [], alts := [], laidByText := true, laidKinds := [.handle], laidTests := true, laidLooks := .later }
def EtherBackCardSaid : Prop := Claim7.holds Tryd.pinned (.plain (OpenSpec.ofChange etherBackSpec)) etherBackCard

/-- THE TIED CARD OF 'gangwaylaw04.EtherMore'. -/
def etherMoreCard : Claim7 := { stood := { row := etherMoreRow, standIns := [], harness := (true, "61a527e199fb1d9030788200f951fc72dfb1bf8a629be732a5b387efafe22e7d"), looks := true }, kinds := [], alts := [], laidByText := true, laidKinds := [.handle], laidTests := true, laidLooks := .later }
def EtherMoreCardSaid : Prop := Claim7.holds Tryd.pinned (.plain (OpenSpec.ofChange etherMoreSpec)) etherMoreCard

/-- THE TIED CARD OF 'gangwaylaw04.EtherBuilds'. -/
def etherBuildsCard : Claim7 := { stood := { row := etherBuildsRow, standIns := [], harness := (true, "61a527e199fb1d9030788200f951fc72dfb1bf8a629be732a5b387efafe22e7d"), looks := true }, kinds := [], alts := [], laidByText := true, laidKinds := [.handle], laidTests := true, laidLooks := .later }
def EtherBuildsCardSaid : Prop := Claim7.holds Tryd.pinned (.plain (OpenSpec.ofChange etherBuildsSpec)) etherBuildsCard

/-- THE TIED CARD OF 'gangwaylaw04.EtherTags'. -/
def etherTagsCard : Claim7 := { stood := { row := etherTagsRow, standIns := [], harness := (true, "61a527e199fb1d9030788200f951fc72dfb1bf8a629be732a5b387efafe22e7d"), looks := true }, kinds := [], alts := [], laidByText := true, laidKinds := [.handle], laidTests := true, laidLooks := .later }
def EtherTagsCardSaid : Prop := Claim7.holds Tryd.pinned (.plain (OpenSpec.ofChange etherTagsSpec)) etherTagsCard

/-- THE TIED CARD OF 'gangwaylaw09.BpduGoes'. -/
def bpduGoesCard : Claim7 := { stood := { row := bpduGoesRow, standIns := [], harness := (true, "61a527e199fb1d9030788200f951fc72dfb1bf8a629be732a5b387efafe22e7d"), looks := true }, kinds := [], alts := [], laidByText := true, laidKinds := [.handle], laidTests := true, laidLooks := .later }
def BpduGoesCardSaid : Prop := Claim7.holds Tryd.pinned (.plain (OpenSpec.ofChange bpduGoesSpec)) bpduGoesCard

/-- THE SECOND FORM's CARD OF 'gangwaylaw04.EtherParses'. -/
def etherParsesUptoCard : Claim7 := { stood := { row := etherParsesUptoRow, standIns := [], harness := (true, "61a527e199fb1d9030788200f951fc72dfb1bf8a629be732a5b387efafe22e7d"), looks := true }, kinds := [], alts := [], laidByText := true, laidKinds := [.handle], laidTests := true, laidLooks := .later }
def EtherParsesUptoCardSaid : Prop := Claim7.holds Tryd.pinned (.plain (OpenSpec.upto etherParsesSpec)) etherParsesUptoCard

/-- THE SECOND FORM's CARD OF 'gangwaylaw04.EtherBack'. -/
def etherBackUptoCard : Claim7 := { stood := { row := etherBackUptoRow, standIns := [], harness := (true, "61a527e199fb1d9030788200f951fc72dfb1bf8a629be732a5b387efafe22e7d"), looks := true }, kinds := [], alts := [], laidByText := true, laidKinds := [.handle], laidTests := true, laidLooks := .later }
def EtherBackUptoCardSaid : Prop := Claim7.holds Tryd.pinned (.plain (OpenSpec.upto etherBackSpec)) etherBackUptoCard

/-- THE SECOND FORM's CARD OF 'gangwaylaw04.EtherMore'. -/
def etherMoreUptoCard : Claim7 := { stood := { row := etherMoreUptoRow, standIns := [], harness := (true, "61a527e199fb1d9030788200f951fc72dfb1bf8a629be732a5b387efafe22e7d"), looks := true }, kinds := [], alts := [], laidByText := true, laidKinds := [.handle], laidTests := true, laidLooks := .later }
def EtherMoreUptoCardSaid : Prop := Claim7.holds Tryd.pinned (.plain (OpenSpec.upto etherMoreSpec)) etherMoreUptoCard

/-- THE SECOND FORM's CARD OF 'gangwaylaw04.EtherBuilds'. -/
def etherBuildsUptoCard : Claim7 := { stood := { row := etherBuildsUptoRow, standIns := [], harness := (true, "61a527e199fb1d9030788200f951fc72dfb1bf8a629be732a5b387efafe22e7d"), looks := true }, kinds := [], alts := [], laidByText := true, laidKinds := [.handle], laidTests := true, laidLooks := .later }
def EtherBuildsUptoCardSaid : Prop := Claim7.holds Tryd.pinned (.plain (OpenSpec.upto etherBuildsSpec)) etherBuildsUptoCard

/-- THE SECOND FORM's CARD OF 'gangwaylaw04.EtherTags'. -/
def etherTagsUptoCard : Claim7 := { stood := { row := etherTagsUptoRow, standIns := [], harness := (true, "61a527e199fb1d9030788200f951fc72dfb1bf8a629be732a5b387efafe22e7d"), looks := true }, kinds := [], alts := [], laidByText := true, laidKinds := [.handle], laidTests := true, laidLooks := .later }
def EtherTagsUptoCardSaid : Prop := Claim7.holds Tryd.pinned (.plain (OpenSpec.upto etherTagsSpec)) etherTagsUptoCard

/-- THE SECOND FORM's CARD OF 'gangwaylaw09.BpduGoes'. -/
def bpduGoesUptoCard : Claim7 := { stood := { row := bpduGoesUptoRow, standIns := [], harness := (true, "61a527e199fb1d9030788200f951fc72dfb1bf8a629be732a5b387efafe22e7d"), looks := true }, kinds := [], alts := [], laidByText := true, laidKinds := [.handle], laidTests := true, laidLooks := .later }
def BpduGoesUptoCardSaid : Prop := Claim7.holds Tryd.pinned (.plain (OpenSpec.upto bpduGoesSpec)) bpduGoesUptoCard
end Rows
end Go.Proofs.YtefbjefmclhhjaaDoor
