/-
  NARROWER THAN 'FOR EVERY INPUT', by the rows' own cells (each row's printed sentence says how): EtherParses: laid · EtherBack: laid · EtherMore: laid · EtherBuilds: laid · EtherTags: laid · BpduGoes: laid.
  DERIVED. THE GIVEN ROWS OF THIS SEAT. 6 by the template 'for every input the law returns true; each argument reads behind the call as it read before'; 0 by the template 'total and deterministic' (their statements: YtefbjefmclhhjaaDoorTotals.lean).
  GIVEN WITH THE SEED: the statements are not yours to turn. If you find one false, say at which input.
  Laid BY PROGRAM, IN A SANDBOX (cutbox-rows.mjs): the forced cells as the released guide's own fill.sh prints them over the translation 9887572b95655851… (all of the seat's roots in one cut). By AI agents, Wed Nov 11 2026. No macro, syntax, notation, axiom, sorry.
-/
import Derived.Test.YtefbjefmclhhjaaDoorChecked
import GoSem.Claim
import GoSem.ClaimJoined
import GoSem.ClaimMapViews
import Derived.JoinedTies
import Derived.KernelRfl
namespace Go.Proofs.YtefbjefmclhhjaaDoor
/- THE CELL 'sum', in the pinned program and in every row, IS THE sha256 OF THE DUMP (.gsa) THAT YtefbjefmclhhjaaDoorProg.lean LOADS. Nothing in Lean hashes anything: it is a label: what it is worth is what the hold of that sum in a sandbox is worth. -/
noncomputable def Tryd.pinned : Pinned := { name := "ytefbjefmclhhjaadoor", sum := "9887572b9565585104cb3bf4588ada888a2083470c53da9844dfd1174b89d6b9", checked := Tryd.checked }
namespace Rows
def none {H : Type} : Left H := { results := [], args := [] }

/- WHAT THE LISTED PACKAGE-LEVEL VARIABLES READ AS WHEN THE CALL BEGINS. Each datum BY PROGRAM (the guide's laid-datum.mjs) off the statement by which the dump's own 'gosem.cut.vars' lays the variable. In a bare row this is a premise. The card (YtefbjefmclhhjaaDoorCards.lean) ties it to the program's text. -/
def laid_errors_errorType {H : Type} : DataW H := .iface "internal/reflectlite.rtype" (.agg [.ptr (.lit (.string [101, 114, 114, 111, 114]))])

/-- 'gangwaylaw04.EtherParses': WHATEVER THE INPUT: true; the input reads as it did. -/
def etherParsesSpec : ChangeSpec := { name := "etherParses", fn := fun _ => fun
  | [d] => { results := [.lit (.bool true)], args := [d] }
  | _ => none }
def etherParsesRow : OpenClaim := { program := "ytefbjefmclhhjaadoor", sum := "9887572b9565585104cb3bf4588ada888a2083470c53da9844dfd1174b89d6b9", func := "gangway/gangwaylaw04.EtherParses", spec := "etherParses", inPlace := ["internal/reflectlite.ValueOf", "(internal/reflectlite.Value).Type", "(internal/reflectlite.Value).IsNil", "internal/reflectlite.TypeOf", "(internal/reflectlite.Value).Elem", "(internal/reflectlite.Value).Set"], unfollowed := true, recurses := true, named := ["errors.errorType"], apart := false, laid := [("errors.errorType", laid_errors_errorType)] }
def EtherParsesSaid : Prop := etherParsesRow.holds Tryd.pinned (OpenSpec.ofChange etherParsesSpec)

/-- ITS FALSE NEIGHBOUR: 'it returns false'. Refute it at one input. -/
def etherParsesWrong : ChangeSpec := { name := "etherParses", fn := fun _ => fun
  | [d] => { results := [.lit (.bool false)], args := [d] }
  | _ => none }
def EtherParsesWrongFalsely : Prop := etherParsesRow.holds Tryd.pinned (OpenSpec.ofChange etherParsesWrong)

/-- 'gangwaylaw04.EtherBack': WHATEVER THE INPUT: true; the input reads as it did. -/
def etherBackSpec : ChangeSpec := { name := "etherBack", fn := fun _ => fun
  | [d1, d2] => { results := [.lit (.bool true)], args := [d1, d2] }
  | _ => none }
def etherBackRow : OpenClaim := { program := "ytefbjefmclhhjaadoor", sum := "9887572b9565585104cb3bf4588ada888a2083470c53da9844dfd1174b89d6b9", func := "gangway/gangwaylaw04.EtherBack", spec := "etherBack", inPlace := ["internal/reflectlite.ValueOf", "(internal/reflectlite.Value).Type", "(internal/reflectlite.Value).IsNil", "internal/reflectlite.TypeOf", "(internal/reflectlite.Value).Elem", "(internal/reflectlite.Value).Set"], unfollowed := true, recurses := true, named := ["errors.errorType"], apart := false, laid := [("errors.errorType", laid_errors_errorType)] }
def EtherBackSaid : Prop := etherBackRow.holds Tryd.pinned (OpenSpec.ofChange etherBackSpec)

/-- ITS FALSE NEIGHBOUR: 'it returns false'. Refute it at one input. -/
def etherBackWrong : ChangeSpec := { name := "etherBack", fn := fun _ => fun
  | [d1, d2] => { results := [.lit (.bool false)], args := [d1, d2] }
  | _ => none }
def EtherBackWrongFalsely : Prop := etherBackRow.holds Tryd.pinned (OpenSpec.ofChange etherBackWrong)

/-- 'gangwaylaw04.EtherMore': WHATEVER THE INPUT: true; the input reads as it did. -/
def etherMoreSpec : ChangeSpec := { name := "etherMore", fn := fun _ => fun
  | [d1, d2] => { results := [.lit (.bool true)], args := [d1, d2] }
  | _ => none }
def etherMoreRow : OpenClaim := { program := "ytefbjefmclhhjaadoor", sum := "9887572b9565585104cb3bf4588ada888a2083470c53da9844dfd1174b89d6b9", func := "gangway/gangwaylaw04.EtherMore", spec := "etherMore", inPlace := ["internal/reflectlite.ValueOf", "(internal/reflectlite.Value).Type", "(internal/reflectlite.Value).IsNil", "internal/reflectlite.TypeOf", "(internal/reflectlite.Value).Elem", "(internal/reflectlite.Value).Set"], unfollowed := true, recurses := true, named := ["errors.errorType"], apart := false, laid := [("errors.errorType", laid_errors_errorType)] }
def EtherMoreSaid : Prop := etherMoreRow.holds Tryd.pinned (OpenSpec.ofChange etherMoreSpec)

/-- ITS FALSE NEIGHBOUR: 'it returns false'. Refute it at one input. -/
def etherMoreWrong : ChangeSpec := { name := "etherMore", fn := fun _ => fun
  | [d1, d2] => { results := [.lit (.bool false)], args := [d1, d2] }
  | _ => none }
def EtherMoreWrongFalsely : Prop := etherMoreRow.holds Tryd.pinned (OpenSpec.ofChange etherMoreWrong)

/-- 'gangwaylaw04.EtherBuilds': WHATEVER THE INPUT: true; the input reads as it did. -/
def etherBuildsSpec : ChangeSpec := { name := "etherBuilds", fn := fun _ => fun
  | [d1, d2] => { results := [.lit (.bool true)], args := [d1, d2] }
  | _ => none }
def etherBuildsRow : OpenClaim := { program := "ytefbjefmclhhjaadoor", sum := "9887572b9565585104cb3bf4588ada888a2083470c53da9844dfd1174b89d6b9", func := "gangway/gangwaylaw04.EtherBuilds", spec := "etherBuilds", inPlace := ["internal/reflectlite.ValueOf", "(internal/reflectlite.Value).Type", "(internal/reflectlite.Value).IsNil", "internal/reflectlite.TypeOf", "(internal/reflectlite.Value).Elem", "(internal/reflectlite.Value).Set"], unfollowed := true, recurses := true, named := ["errors.errorType"], apart := false, laid := [("errors.errorType", laid_errors_errorType)] }
def EtherBuildsSaid : Prop := etherBuildsRow.holds Tryd.pinned (OpenSpec.ofChange etherBuildsSpec)

/-- ITS FALSE NEIGHBOUR: 'it returns false'. Refute it at one input. -/
def etherBuildsWrong : ChangeSpec := { name := "etherBuilds", fn := fun _ => fun
  | [d1, d2] => { results := [.lit (.bool false)], args := [d1, d2] }
  | _ => none }
def EtherBuildsWrongFalsely : Prop := etherBuildsRow.holds Tryd.pinned (OpenSpec.ofChange etherBuildsWrong)

/-- 'gangwaylaw04.EtherTags': WHATEVER THE INPUT: true; the input reads as it did. -/
def etherTagsSpec : ChangeSpec := { name := "etherTags", fn := fun _ => fun
  | [d1, d2] => { results := [.lit (.bool true)], args := [d1, d2] }
  | _ => none }
def etherTagsRow : OpenClaim := { program := "ytefbjefmclhhjaadoor", sum := "9887572b9565585104cb3bf4588ada888a2083470c53da9844dfd1174b89d6b9", func := "gangway/gangwaylaw04.EtherTags", spec := "etherTags", inPlace := ["internal/reflectlite.ValueOf", "(internal/reflectlite.Value).Type", "(internal/reflectlite.Value).IsNil", "internal/reflectlite.TypeOf", "(internal/reflectlite.Value).Elem", "(internal/reflectlite.Value).Set"], unfollowed := true, recurses := true, named := ["errors.errorType"], apart := false, laid := [("errors.errorType", laid_errors_errorType)] }
def EtherTagsSaid : Prop := etherTagsRow.holds Tryd.pinned (OpenSpec.ofChange etherTagsSpec)

/-- ITS FALSE NEIGHBOUR: 'it returns false'. Refute it at one input. -/
def etherTagsWrong : ChangeSpec := { name := "etherTags", fn := fun _ => fun
  | [d1, d2] => { results := [.lit (.bool false)], args := [d1, d2] }
  | _ => none }
def EtherTagsWrongFalsely : Prop := etherTagsRow.holds Tryd.pinned (OpenSpec.ofChange etherTagsWrong)

/-- 'gangwaylaw09.BpduGoes': WHATEVER THE INPUT: true; the input reads as it did. -/
def bpduGoesSpec : ChangeSpec := { name := "bpduGoes", fn := fun _ => fun
  | [d1, d2, d3] => { results := [.lit (.bool true)], args := [d1, d2, d3] }
  | _ => none }
def bpduGoesRow : OpenClaim := { program := "ytefbjefmclhhjaadoor", sum := "9887572b9565585104cb3bf4588ada888a2083470c53da9844dfd1174b89d6b9", func := "gangway/gangwaylaw09.BpduGoes", spec := "bpduGoes", inPlace := ["internal/reflectlite.ValueOf", "(internal/reflectlite.Value).Type", "(internal/reflectlite.Value).IsNil", "internal/reflectlite.TypeOf", "(internal/reflectlite.Value).Elem", "(internal/reflectlite.Value).Set"], unfollowed := true, recurses := true, named := ["errors.errorType"], apart := false, laid := [("errors.errorType", laid_errors_errorType)] }
def BpduGoesSaid : Prop := bpduGoesRow.holds Tryd.pinned (OpenSpec.ofChange bpduGoesSpec)

/-- ITS FALSE NEIGHBOUR: 'it returns false'. Refute it at one input. -/
def bpduGoesWrong : ChangeSpec := { name := "bpduGoes", fn := fun _ => fun
  | [d1, d2, d3] => { results := [.lit (.bool false)], args := [d1, d2, d3] }
  | _ => none }
def BpduGoesWrongFalsely : Prop := bpduGoesRow.holds Tryd.pinned (OpenSpec.ofChange bpduGoesWrong)

/- THE SECOND FORM. 'bulk': how many values and letters a reading holds, each counted each time it is reached (what is shared counts as often as it is met; a slice's spare places count too). A statement '..UptoSaid' is the law's where the arguments, and the package variables that the reading takes, are together of bulk at most 1048576: NARROWER than '..Said'. Prove '..Said' where nothing that the law and all that it calls make is longer than what came in: it says more and counts as full. Else prove '..UptoSaid'. A law counts once. -/
mutual
def uptoBulk {H : Type} : DataW H → Nat
  | .lit (.string bytes) => bytes.length + 1
  | .lit _ => 1
  | .nil => 1
  | .ptr d => uptoBulk d + 1
  | .slice elems spare => uptoBulkAll elems + uptoBulkAll spare + 1
  | .agg parts => uptoBulkAll parts + 1
  | .iface _ d => uptoBulk d + 1
  | .map entries => uptoBulkEntries entries + 1
  | .held _ => 1
def uptoBulkAll {H : Type} : List (DataW H) → Nat
  | [] => 0
  | d :: r => uptoBulk d + uptoBulkAll r
def uptoBulkEntries {H : Type} : List (Lit × DataW H) → Nat
  | [] => 0
  | x :: r => uptoBulkEntry x + uptoBulkEntries r
def uptoBulkEntry {H : Type} : Lit × DataW H → Nat
  | (.string bytes, d) => bytes.length + uptoBulk d + 1
  | (_, d) => uptoBulk d + 1
 end
def uptoSmall : (H : Type) → List (DataW H) → Bool := fun _ ds => decide (uptoBulkAll ds ≤ 1048576)
def OpenSpec.upto (s : _root_.Go.ChangeSpec) : _root_.Go.OpenSpec := { _root_.Go.OpenSpec.ofChange s with cond := some uptoSmall }

/-- 'gangwaylaw04.EtherParses', WHERE WHAT IT READS IS OF BULK AT MOST 1048576: true; the input reads as it did. -/
def etherParsesUptoRow : OpenClaim := { program := "ytefbjefmclhhjaadoor", sum := "9887572b9565585104cb3bf4588ada888a2083470c53da9844dfd1174b89d6b9", func := "gangway/gangwaylaw04.EtherParses", spec := "etherParses", inPlace := ["internal/reflectlite.ValueOf", "(internal/reflectlite.Value).Type", "(internal/reflectlite.Value).IsNil", "internal/reflectlite.TypeOf", "(internal/reflectlite.Value).Elem", "(internal/reflectlite.Value).Set"], unfollowed := true, recurses := true, named := ["errors.errorType"], apart := false, laid := [("errors.errorType", laid_errors_errorType)], narrowed := true }
def EtherParsesUptoSaid : Prop := etherParsesUptoRow.holds Tryd.pinned (OpenSpec.upto etherParsesSpec)

/-- 'gangwaylaw04.EtherBack', WHERE WHAT IT READS IS OF BULK AT MOST 1048576: true; the input reads as it did. -/
def etherBackUptoRow : OpenClaim := { program := "ytefbjefmclhhjaadoor", sum := "9887572b9565585104cb3bf4588ada888a2083470c53da9844dfd1174b89d6b9", func := "gangway/gangwaylaw04.EtherBack", spec := "etherBack", inPlace := ["internal/reflectlite.ValueOf", "(internal/reflectlite.Value).Type", "(internal/reflectlite.Value).IsNil", "internal/reflectlite.TypeOf", "(internal/reflectlite.Value).Elem", "(internal/reflectlite.Value).Set"], unfollowed := true, recurses := true, named := ["errors.errorType"], apart := false, laid := [("errors.errorType", laid_errors_errorType)], narrowed := true }
def EtherBackUptoSaid : Prop := etherBackUptoRow.holds Tryd.pinned (OpenSpec.upto etherBackSpec)

/-- 'gangwaylaw04.EtherMore', WHERE WHAT IT READS IS OF BULK AT MOST 1048576: true; the input reads as it did. -/
def etherMoreUptoRow : OpenClaim := { program := "ytefbjefmclhhjaadoor", sum := "9887572b9565585104cb3bf4588ada888a2083470c53da9844dfd1174b89d6b9", func := "gangway/gangwaylaw04.EtherMore", spec := "etherMore", inPlace := ["internal/reflectlite.ValueOf", "(internal/reflectlite.Value).Type", "(internal/reflectlite.Value).IsNil", "internal/reflectlite.TypeOf", "(internal/reflectlite.Value).Elem", "(internal/reflectlite.Value).Set"], unfollowed := true, recurses := true, named := ["errors.errorType"], apart := false, laid := [("errors.errorType", laid_errors_errorType)], narrowed := true }
def EtherMoreUptoSaid : Prop := etherMoreUptoRow.holds Tryd.pinned (OpenSpec.upto etherMoreSpec)

/-- 'gangwaylaw04.EtherBuilds', WHERE WHAT IT READS IS OF BULK AT MOST 1048576: true; the input reads as it did. -/
def etherBuildsUptoRow : OpenClaim := { program := "ytefbjefmclhhjaadoor", sum := "9887572b9565585104cb3bf4588ada888a2083470c53da9844dfd1174b89d6b9", func := "gangway/gangwaylaw04.EtherBuilds", spec := "etherBuilds", inPlace := ["internal/reflectlite.ValueOf", "(internal/reflectlite.Value).Type", "(internal/reflectlite.Value).IsNil", "internal/reflectlite.TypeOf", "(internal/reflectlite.Value).Elem", "(internal/reflectlite.Value).Set"], unfollowed := true, recurses := true, named := ["errors.errorType"], apart := false, laid := [("errors.errorType", laid_errors_errorType)], narrowed := true }
def EtherBuildsUptoSaid : Prop := etherBuildsUptoRow.holds Tryd.pinned (OpenSpec.upto etherBuildsSpec)

/-- 'gangwaylaw04.EtherTags', WHERE WHAT IT READS IS OF BULK AT MOST 1048576: true; the input reads as it did. -/
def etherTagsUptoRow : OpenClaim := { program := "ytefbjefmclhhjaadoor", sum := "9887572b9565585104cb3bf4588ada888a2083470c53da9844dfd1174b89d6b9", func := "gangway/gangwaylaw04.EtherTags", spec := "etherTags", inPlace := ["internal/reflectlite.ValueOf", "(internal/reflectlite.Value).Type", "(internal/reflectlite.Value).IsNil", "internal/reflectlite.TypeOf", "(internal/reflectlite.Value).Elem", "(internal/reflectlite.Value).Set"], unfollowed := true, recurses := true, named := ["errors.errorType"], apart := false, laid := [("errors.errorType", laid_errors_errorType)], narrowed := true }
def EtherTagsUptoSaid : Prop := etherTagsUptoRow.holds Tryd.pinned (OpenSpec.upto etherTagsSpec)

/-- 'gangwaylaw09.BpduGoes', WHERE WHAT IT READS IS OF BULK AT MOST 1048576: true; the input reads as it did. -/
def bpduGoesUptoRow : OpenClaim := { program := "ytefbjefmclhhjaadoor", sum := "9887572b9565585104cb3bf4588ada888a2083470c53da9844dfd1174b89d6b9", func := "gangway/gangwaylaw09.BpduGoes", spec := "bpduGoes", inPlace := ["internal/reflectlite.ValueOf", "(internal/reflectlite.Value).Type", "(internal/reflectlite.Value).IsNil", "internal/reflectlite.TypeOf", "(internal/reflectlite.Value).Elem", "(internal/reflectlite.Value).Set"], unfollowed := true, recurses := true, named := ["errors.errorType"], apart := false, laid := [("errors.errorType", laid_errors_errorType)], narrowed := true }
def BpduGoesUptoSaid : Prop := bpduGoesUptoRow.holds Tryd.pinned (OpenSpec.upto bpduGoesSpec)

end Rows
end Go.Proofs.YtefbjefmclhhjaaDoor
