/-
  NARROWER THAN 'FOR EVERY INPUT', by the rows' own cells (each row's printed sentence says how): TunnelWraps: laid · TunnelUnwraps: laid · TunnelBack: laid · TunnelPorts: laid · TunnelStranger: laid.
  DERIVED. THE GIVEN ROWS OF THIS SEAT. 5 by the template 'for every input the law returns true; each argument reads behind the call as it read before'; 0 by the template 'total and deterministic' (their statements: YtbodofjnfmjbpaaGreatDoorTotals.lean).
  GIVEN WITH THE SEED: the statements are not yours to turn. If you find one false, say at which input.
  Laid BY PROGRAM, IN A SANDBOX (cutbox-rows.mjs): the forced cells as the released guide's own fill.sh prints them over the translation 667ff0b23479eb04… (all of the seat's roots in one cut). By AI agents, Wed Nov 11 2026. No macro, syntax, notation, axiom, sorry.
-/
import Derived.Test.YtbodofjnfmjbpaaGreatDoorChecked
import GoSem.Claim
import GoSem.ClaimJoined
import GoSem.ClaimMapViews
import Derived.JoinedTies
import Derived.KernelRfl
namespace Go.Proofs.YtbodofjnfmjbpaaGreatDoor
/- THE CELL 'sum', in the pinned program and in every row, IS THE sha256 OF THE DUMP (.gsa) THAT YtbodofjnfmjbpaaGreatDoorProg.lean LOADS. Nothing in Lean hashes anything: it is a label: what it is worth is what the hold of that sum in a sandbox is worth. -/
noncomputable def Tryz.pinned : Pinned := { name := "ytbodofjnfmjbpaagreatdoor", sum := "667ff0b23479eb04bf7b205b100a220ecefb1c14a4d49d9dfe4062b3c4eb95df", checked := Tryz.checked }
namespace Rows
def none {H : Type} : Left H := { results := [], args := [] }

/- WHAT THE LISTED PACKAGE-LEVEL VARIABLES READ AS WHEN THE CALL BEGINS. Each datum BY PROGRAM (the guide's laid-datum.mjs) off the statement by which the dump's own 'gosem.cut.vars' lays the variable. In a bare row this is a premise. The card (YtbodofjnfmjbpaaGreatDoorCards.lean) ties it to the program's text. -/
def laid_errors_errorType {H : Type} : DataW H := .iface "internal/reflectlite.rtype" (.agg [.ptr (.lit (.string [101, 114, 114, 111, 114]))])

/-- 'gangwaylaw22.TunnelWraps': WHATEVER THE INPUT: true; the input reads as it did. -/
def tunnelWrapsSpec : ChangeSpec := { name := "tunnelWraps", fn := fun _ => fun
  | [d1, d2, d3] => { results := [.lit (.bool true)], args := [d1, d2, d3] }
  | _ => none }
def tunnelWrapsRow : OpenClaim := { program := "ytbodofjnfmjbpaagreatdoor", sum := "667ff0b23479eb04bf7b205b100a220ecefb1c14a4d49d9dfe4062b3c4eb95df", func := "gangway/gangwaylaw22.TunnelWraps", spec := "tunnelWraps", inPlace := ["internal/abi.NoEscape", "internal/bytealg.MakeNoZero", "internal/reflectlite.ValueOf", "(internal/reflectlite.Value).Type", "(internal/reflectlite.Value).IsNil", "internal/reflectlite.TypeOf", "(internal/reflectlite.Value).Elem", "(internal/reflectlite.Value).Set"], unfollowed := true, recurses := true, named := ["errors.errorType"], apart := false, laid := [("errors.errorType", laid_errors_errorType)] }
def TunnelWrapsSaid : Prop := tunnelWrapsRow.holds Tryz.pinned (OpenSpec.ofChange tunnelWrapsSpec)

/-- ITS FALSE NEIGHBOUR: 'it returns false'. Refute it at one input. -/
def tunnelWrapsWrong : ChangeSpec := { name := "tunnelWraps", fn := fun _ => fun
  | [d1, d2, d3] => { results := [.lit (.bool false)], args := [d1, d2, d3] }
  | _ => none }
def TunnelWrapsWrongFalsely : Prop := tunnelWrapsRow.holds Tryz.pinned (OpenSpec.ofChange tunnelWrapsWrong)

/-- 'gangwaylaw22.TunnelUnwraps': WHATEVER THE INPUT: true; the input reads as it did. -/
def tunnelUnwrapsSpec : ChangeSpec := { name := "tunnelUnwraps", fn := fun _ => fun
  | [d1, d2, d3] => { results := [.lit (.bool true)], args := [d1, d2, d3] }
  | _ => none }
def tunnelUnwrapsRow : OpenClaim := { program := "ytbodofjnfmjbpaagreatdoor", sum := "667ff0b23479eb04bf7b205b100a220ecefb1c14a4d49d9dfe4062b3c4eb95df", func := "gangway/gangwaylaw22.TunnelUnwraps", spec := "tunnelUnwraps", inPlace := ["internal/reflectlite.ValueOf", "(internal/reflectlite.Value).Type", "(internal/reflectlite.Value).IsNil", "internal/reflectlite.TypeOf", "(internal/reflectlite.Value).Elem", "(internal/reflectlite.Value).Set", "internal/abi.NoEscape", "internal/bytealg.MakeNoZero"], unfollowed := true, recurses := true, named := ["errors.errorType"], apart := false, laid := [("errors.errorType", laid_errors_errorType)] }
def TunnelUnwrapsSaid : Prop := tunnelUnwrapsRow.holds Tryz.pinned (OpenSpec.ofChange tunnelUnwrapsSpec)

/-- ITS FALSE NEIGHBOUR: 'it returns false'. Refute it at one input. -/
def tunnelUnwrapsWrong : ChangeSpec := { name := "tunnelUnwraps", fn := fun _ => fun
  | [d1, d2, d3] => { results := [.lit (.bool false)], args := [d1, d2, d3] }
  | _ => none }
def TunnelUnwrapsWrongFalsely : Prop := tunnelUnwrapsRow.holds Tryz.pinned (OpenSpec.ofChange tunnelUnwrapsWrong)

/-- 'gangwaylaw22.TunnelBack': WHATEVER THE INPUT: true; the input reads as it did. -/
def tunnelBackSpec : ChangeSpec := { name := "tunnelBack", fn := fun _ => fun
  | [d1, d2, d3] => { results := [.lit (.bool true)], args := [d1, d2, d3] }
  | _ => none }
def tunnelBackRow : OpenClaim := { program := "ytbodofjnfmjbpaagreatdoor", sum := "667ff0b23479eb04bf7b205b100a220ecefb1c14a4d49d9dfe4062b3c4eb95df", func := "gangway/gangwaylaw22.TunnelBack", spec := "tunnelBack", inPlace := ["internal/abi.NoEscape", "internal/bytealg.MakeNoZero", "internal/reflectlite.ValueOf", "(internal/reflectlite.Value).Type", "(internal/reflectlite.Value).IsNil", "internal/reflectlite.TypeOf", "(internal/reflectlite.Value).Elem", "(internal/reflectlite.Value).Set"], unfollowed := true, recurses := true, named := ["errors.errorType"], apart := false, laid := [("errors.errorType", laid_errors_errorType)] }
def TunnelBackSaid : Prop := tunnelBackRow.holds Tryz.pinned (OpenSpec.ofChange tunnelBackSpec)

/-- ITS FALSE NEIGHBOUR: 'it returns false'. Refute it at one input. -/
def tunnelBackWrong : ChangeSpec := { name := "tunnelBack", fn := fun _ => fun
  | [d1, d2, d3] => { results := [.lit (.bool false)], args := [d1, d2, d3] }
  | _ => none }
def TunnelBackWrongFalsely : Prop := tunnelBackRow.holds Tryz.pinned (OpenSpec.ofChange tunnelBackWrong)

/-- 'gangwaylaw22.TunnelPorts': WHATEVER THE INPUT: true; the input reads as it did. -/
def tunnelPortsSpec : ChangeSpec := { name := "tunnelPorts", fn := fun _ => fun
  | [d1, d2, d3] => { results := [.lit (.bool true)], args := [d1, d2, d3] }
  | _ => none }
def tunnelPortsRow : OpenClaim := { program := "ytbodofjnfmjbpaagreatdoor", sum := "667ff0b23479eb04bf7b205b100a220ecefb1c14a4d49d9dfe4062b3c4eb95df", func := "gangway/gangwaylaw22.TunnelPorts", spec := "tunnelPorts", inPlace := ["internal/abi.NoEscape", "internal/bytealg.MakeNoZero", "internal/reflectlite.ValueOf", "(internal/reflectlite.Value).Type", "(internal/reflectlite.Value).IsNil", "internal/reflectlite.TypeOf", "(internal/reflectlite.Value).Elem", "(internal/reflectlite.Value).Set"], unfollowed := true, recurses := true, named := ["errors.errorType"], apart := false, laid := [("errors.errorType", laid_errors_errorType)] }
def TunnelPortsSaid : Prop := tunnelPortsRow.holds Tryz.pinned (OpenSpec.ofChange tunnelPortsSpec)

/-- ITS FALSE NEIGHBOUR: 'it returns false'. Refute it at one input. -/
def tunnelPortsWrong : ChangeSpec := { name := "tunnelPorts", fn := fun _ => fun
  | [d1, d2, d3] => { results := [.lit (.bool false)], args := [d1, d2, d3] }
  | _ => none }
def TunnelPortsWrongFalsely : Prop := tunnelPortsRow.holds Tryz.pinned (OpenSpec.ofChange tunnelPortsWrong)

/-- 'gangwaylaw22.TunnelStranger': WHATEVER THE INPUT: true; the input reads as it did. -/
def tunnelStrangerSpec : ChangeSpec := { name := "tunnelStranger", fn := fun _ => fun
  | [d1, d2, d3] => { results := [.lit (.bool true)], args := [d1, d2, d3] }
  | _ => none }
def tunnelStrangerRow : OpenClaim := { program := "ytbodofjnfmjbpaagreatdoor", sum := "667ff0b23479eb04bf7b205b100a220ecefb1c14a4d49d9dfe4062b3c4eb95df", func := "gangway/gangwaylaw22.TunnelStranger", spec := "tunnelStranger", inPlace := ["internal/reflectlite.ValueOf", "(internal/reflectlite.Value).Type", "(internal/reflectlite.Value).IsNil", "internal/reflectlite.TypeOf", "(internal/reflectlite.Value).Elem", "(internal/reflectlite.Value).Set", "internal/abi.NoEscape", "internal/bytealg.MakeNoZero"], unfollowed := true, recurses := true, named := ["errors.errorType"], apart := false, laid := [("errors.errorType", laid_errors_errorType)] }
def TunnelStrangerSaid : Prop := tunnelStrangerRow.holds Tryz.pinned (OpenSpec.ofChange tunnelStrangerSpec)

/-- ITS FALSE NEIGHBOUR: 'it returns false'. Refute it at one input. -/
def tunnelStrangerWrong : ChangeSpec := { name := "tunnelStranger", fn := fun _ => fun
  | [d1, d2, d3] => { results := [.lit (.bool false)], args := [d1, d2, d3] }
  | _ => none }
def TunnelStrangerWrongFalsely : Prop := tunnelStrangerRow.holds Tryz.pinned (OpenSpec.ofChange tunnelStrangerWrong)

/- THE SECOND FORM. 'bulk': how many values and letters a reading holds, each counted each time it is reached (what is shared counts as often as it is met; a slice's spare places count too). A statement '..UptoSaid' is the law's where the arguments, and the package variables that the reading takes, are together of bulk at most 1048576: NARROWER than '..Said'. Prove '..Said' where nothing that the law and all that it calls make is longer than what came in: it says more and counts as full. Else prove '..UptoSaid'. A law counts once. -/
mutual
def uptoBulk {H : Type} : DataW H → Nat
  | .lit (.string bytes) => bytes.length + 1
  | .lit _ => 1
  | .nil => 1
  | .ptr d => uptoBulk d + 1
  | .slice elems spare => uptoBulkAll elems + uptoBulkAll spare + 1
  | .agg parts => uptoBulkAll parts + 1
  | .iface _ d => uptoBulk d + 1
  | .map entries => uptoBulkEntries entries + 1
  | .held _ => 1
def uptoBulkAll {H : Type} : List (DataW H) → Nat
  | [] => 0
  | d :: r => uptoBulk d + uptoBulkAll r
def uptoBulkEntries {H : Type} : List (Lit × DataW H) → Nat
  | [] => 0
  | x :: r => uptoBulkEntry x + uptoBulkEntries r
def uptoBulkEntry {H : Type} : Lit × DataW H → Nat
  | (.string bytes, d) => bytes.length + uptoBulk d + 1
  | (_, d) => uptoBulk d + 1
 end
def uptoSmall : (H : Type) → List (DataW H) → Bool := fun _ ds => decide (uptoBulkAll ds ≤ 1048576)
def OpenSpec.upto (s : _root_.Go.ChangeSpec) : _root_.Go.OpenSpec := { _root_.Go.OpenSpec.ofChange s with cond := some uptoSmall }

/-- 'gangwaylaw22.TunnelWraps', WHERE WHAT IT READS IS OF BULK AT MOST 1048576: true; the input reads as it did. -/
def tunnelWrapsUptoRow : OpenClaim := { program := "ytbodofjnfmjbpaagreatdoor", sum := "667ff0b23479eb04bf7b205b100a220ecefb1c14a4d49d9dfe4062b3c4eb95df", func := "gangway/gangwaylaw22.TunnelWraps", spec := "tunnelWraps", inPlace := ["internal/abi.NoEscape", "internal/bytealg.MakeNoZero", "internal/reflectlite.ValueOf", "(internal/reflectlite.Value).Type", "(internal/reflectlite.Value).IsNil", "internal/reflectlite.TypeOf", "(internal/reflectlite.Value).Elem", "(internal/reflectlite.Value).Set"], unfollowed := true, recurses := true, named := ["errors.errorType"], apart := false, laid := [("errors.errorType", laid_errors_errorType)], narrowed := true }
def TunnelWrapsUptoSaid : Prop := tunnelWrapsUptoRow.holds Tryz.pinned (OpenSpec.upto tunnelWrapsSpec)

/-- 'gangwaylaw22.TunnelUnwraps', WHERE WHAT IT READS IS OF BULK AT MOST 1048576: true; the input reads as it did. -/
def tunnelUnwrapsUptoRow : OpenClaim := { program := "ytbodofjnfmjbpaagreatdoor", sum := "667ff0b23479eb04bf7b205b100a220ecefb1c14a4d49d9dfe4062b3c4eb95df", func := "gangway/gangwaylaw22.TunnelUnwraps", spec := "tunnelUnwraps", inPlace := ["internal/reflectlite.ValueOf", "(internal/reflectlite.Value).Type", "(internal/reflectlite.Value).IsNil", "internal/reflectlite.TypeOf", "(internal/reflectlite.Value).Elem", "(internal/reflectlite.Value).Set", "internal/abi.NoEscape", "internal/bytealg.MakeNoZero"], unfollowed := true, recurses := true, named := ["errors.errorType"], apart := false, laid := [("errors.errorType", laid_errors_errorType)], narrowed := true }
def TunnelUnwrapsUptoSaid : Prop := tunnelUnwrapsUptoRow.holds Tryz.pinned (OpenSpec.upto tunnelUnwrapsSpec)

/-- 'gangwaylaw22.TunnelBack', WHERE WHAT IT READS IS OF BULK AT MOST 1048576: true; the input reads as it did. -/
def tunnelBackUptoRow : OpenClaim := { program := "ytbodofjnfmjbpaagreatdoor", sum := "667ff0b23479eb04bf7b205b100a220ecefb1c14a4d49d9dfe4062b3c4eb95df", func := "gangway/gangwaylaw22.TunnelBack", spec := "tunnelBack", inPlace := ["internal/abi.NoEscape", "internal/bytealg.MakeNoZero", "internal/reflectlite.ValueOf", "(internal/reflectlite.Value).Type", "(internal/reflectlite.Value).IsNil", "internal/reflectlite.TypeOf", "(internal/reflectlite.Value).Elem", "(internal/reflectlite.Value).Set"], unfollowed := true, recurses := true, named := ["errors.errorType"], apart := false, laid := [("errors.errorType", laid_errors_errorType)], narrowed := true }
def TunnelBackUptoSaid : Prop := tunnelBackUptoRow.holds Tryz.pinned (OpenSpec.upto tunnelBackSpec)

/-- 'gangwaylaw22.TunnelPorts', WHERE WHAT IT READS IS OF BULK AT MOST 1048576: true; the input reads as it did. -/
def tunnelPortsUptoRow : OpenClaim := { program := "ytbodofjnfmjbpaagreatdoor", sum := "667ff0b23479eb04bf7b205b100a220ecefb1c14a4d49d9dfe4062b3c4eb95df", func := "gangway/gangwaylaw22.TunnelPorts", spec := "tunnelPorts", inPlace := ["internal/abi.NoEscape", "internal/bytealg.MakeNoZero", "internal/reflectlite.ValueOf", "(internal/reflectlite.Value).Type", "(internal/reflectlite.Value).IsNil", "internal/reflectlite.TypeOf", "(internal/reflectlite.Value).Elem", "(internal/reflectlite.Value).Set"], unfollowed := true, recurses := true, named := ["errors.errorType"], apart := false, laid := [("errors.errorType", laid_errors_errorType)], narrowed := true }
def TunnelPortsUptoSaid : Prop := tunnelPortsUptoRow.holds Tryz.pinned (OpenSpec.upto tunnelPortsSpec)

/-- 'gangwaylaw22.TunnelStranger', WHERE WHAT IT READS IS OF BULK AT MOST 1048576: true; the input reads as it did. -/
def tunnelStrangerUptoRow : OpenClaim := { program := "ytbodofjnfmjbpaagreatdoor", sum := "667ff0b23479eb04bf7b205b100a220ecefb1c14a4d49d9dfe4062b3c4eb95df", func := "gangway/gangwaylaw22.TunnelStranger", spec := "tunnelStranger", inPlace := ["internal/reflectlite.ValueOf", "(internal/reflectlite.Value).Type", "(internal/reflectlite.Value).IsNil", "internal/reflectlite.TypeOf", "(internal/reflectlite.Value).Elem", "(internal/reflectlite.Value).Set", "internal/abi.NoEscape", "internal/bytealg.MakeNoZero"], unfollowed := true, recurses := true, named := ["errors.errorType"], apart := false, laid := [("errors.errorType", laid_errors_errorType)], narrowed := true }
def TunnelStrangerUptoSaid : Prop := tunnelStrangerUptoRow.holds Tryz.pinned (OpenSpec.upto tunnelStrangerSpec)

end Rows
end Go.Proofs.YtbodofjnfmjbpaaGreatDoor
