/-
  NARROWER THAN 'FOR EVERY INPUT', by the rows' own cells (each row's printed sentence says how): TraceAhead: laid · TraceTwice: laid · TraceSame: laid.
  DERIVED. THE GIVEN ROWS OF THIS SEAT. 3 by the template 'for every input the law returns true; each argument reads behind the call as it read before'; 0 by the template 'total and deterministic' (their statements: YtbbekdmndifkpaaGreatDoorTotals.lean).
  GIVEN WITH THE SEED: the statements are not yours to turn. If you find one false, say at which input.
  Laid BY PROGRAM, IN A SANDBOX (cutbox-rows.mjs): the forced cells as the released guide's own fill.sh prints them over the translation 8178cce1fa9a9c6c… (all of the seat's roots in one cut). By AI agents, Wed Nov 11 2026. No macro, syntax, notation, axiom, sorry.
-/
import Derived.Test.YtbbekdmndifkpaaGreatDoorChecked
import GoSem.Claim
import GoSem.ClaimJoined
import GoSem.ClaimMapViews
import Derived.JoinedTies
import Derived.KernelRfl
namespace Go.Proofs.YtbbekdmndifkpaaGreatDoor
/- THE CELL 'sum', in the pinned program and in every row, IS THE sha256 OF THE DUMP (.gsa) THAT YtbbekdmndifkpaaGreatDoorProg.lean LOADS. Nothing in Lean hashes anything: it is a label: what it is worth is what the hold of that sum in a sandbox is worth. -/
noncomputable def Tryz.pinned : Pinned := { name := "ytbbekdmndifkpaagreatdoor", sum := "8178cce1fa9a9c6c93d710a1a101528aa6779a3d12a7db516b91bf524aae8f33", checked := Tryz.checked }
namespace Rows
def none {H : Type} : Left H := { results := [], args := [] }

/- WHAT THE LISTED PACKAGE-LEVEL VARIABLES READ AS WHEN THE CALL BEGINS. Each datum BY PROGRAM (the guide's laid-datum.mjs) off the statement by which the dump's own 'gosem.cut.vars' lays the variable. In a bare row this is a premise. The card (YtbbekdmndifkpaaGreatDoorCards.lean) ties it to the program's text. -/
def laid_errors_errorType {H : Type} : DataW H := .iface "internal/reflectlite.rtype" (.agg [.ptr (.lit (.string [101, 114, 114, 111, 114]))])

/-- 'gangwaylaw28.TraceAhead': WHATEVER THE INPUT: true; the input reads as it did. -/
def traceAheadSpec : ChangeSpec := { name := "traceAhead", fn := fun _ => fun
  | [d1, d2, d3] => { results := [.lit (.bool true)], args := [d1, d2, d3] }
  | _ => none }
def traceAheadRow : OpenClaim := { program := "ytbbekdmndifkpaagreatdoor", sum := "8178cce1fa9a9c6c93d710a1a101528aa6779a3d12a7db516b91bf524aae8f33", func := "gangway/gangwaylaw28.TraceAhead", spec := "traceAhead", inPlace := ["internal/reflectlite.ValueOf", "(internal/reflectlite.Value).Type", "(internal/reflectlite.Value).IsNil", "internal/reflectlite.TypeOf", "(internal/reflectlite.Value).Elem", "(internal/reflectlite.Value).Set", "internal/abi.NoEscape"], unfollowed := true, recurses := true, named := ["errors.errorType"], apart := false, laid := [("errors.errorType", laid_errors_errorType)] }
def TraceAheadSaid : Prop := traceAheadRow.holds Tryz.pinned (OpenSpec.ofChange traceAheadSpec)

/-- ITS FALSE NEIGHBOUR: 'it returns false'. Refute it at one input. -/
def traceAheadWrong : ChangeSpec := { name := "traceAhead", fn := fun _ => fun
  | [d1, d2, d3] => { results := [.lit (.bool false)], args := [d1, d2, d3] }
  | _ => none }
def TraceAheadWrongFalsely : Prop := traceAheadRow.holds Tryz.pinned (OpenSpec.ofChange traceAheadWrong)

/-- 'gangwaylaw28.TraceTwice': WHATEVER THE INPUT: true; the input reads as it did. -/
def traceTwiceSpec : ChangeSpec := { name := "traceTwice", fn := fun _ => fun
  | [d1, d2, d3] => { results := [.lit (.bool true)], args := [d1, d2, d3] }
  | _ => none }
def traceTwiceRow : OpenClaim := { program := "ytbbekdmndifkpaagreatdoor", sum := "8178cce1fa9a9c6c93d710a1a101528aa6779a3d12a7db516b91bf524aae8f33", func := "gangway/gangwaylaw28.TraceTwice", spec := "traceTwice", inPlace := ["internal/reflectlite.ValueOf", "(internal/reflectlite.Value).Type", "(internal/reflectlite.Value).IsNil", "internal/reflectlite.TypeOf", "(internal/reflectlite.Value).Elem", "(internal/reflectlite.Value).Set", "internal/abi.NoEscape"], unfollowed := true, recurses := true, named := ["errors.errorType"], apart := false, laid := [("errors.errorType", laid_errors_errorType)] }
def TraceTwiceSaid : Prop := traceTwiceRow.holds Tryz.pinned (OpenSpec.ofChange traceTwiceSpec)

/-- ITS FALSE NEIGHBOUR: 'it returns false'. Refute it at one input. -/
def traceTwiceWrong : ChangeSpec := { name := "traceTwice", fn := fun _ => fun
  | [d1, d2, d3] => { results := [.lit (.bool false)], args := [d1, d2, d3] }
  | _ => none }
def TraceTwiceWrongFalsely : Prop := traceTwiceRow.holds Tryz.pinned (OpenSpec.ofChange traceTwiceWrong)

/-- 'gangwaylaw28.TraceSame': WHATEVER THE INPUT: true; the input reads as it did. -/
def traceSameSpec : ChangeSpec := { name := "traceSame", fn := fun _ => fun
  | [d1, d2, d3] => { results := [.lit (.bool true)], args := [d1, d2, d3] }
  | _ => none }
def traceSameRow : OpenClaim := { program := "ytbbekdmndifkpaagreatdoor", sum := "8178cce1fa9a9c6c93d710a1a101528aa6779a3d12a7db516b91bf524aae8f33", func := "gangway/gangwaylaw28.TraceSame", spec := "traceSame", inPlace := ["internal/reflectlite.ValueOf", "(internal/reflectlite.Value).Type", "(internal/reflectlite.Value).IsNil", "internal/reflectlite.TypeOf", "(internal/reflectlite.Value).Elem", "(internal/reflectlite.Value).Set", "internal/abi.NoEscape"], unfollowed := true, recurses := true, named := ["errors.errorType"], apart := false, laid := [("errors.errorType", laid_errors_errorType)] }
def TraceSameSaid : Prop := traceSameRow.holds Tryz.pinned (OpenSpec.ofChange traceSameSpec)

/-- ITS FALSE NEIGHBOUR: 'it returns false'. Refute it at one input. -/
def traceSameWrong : ChangeSpec := { name := "traceSame", fn := fun _ => fun
  | [d1, d2, d3] => { results := [.lit (.bool false)], args := [d1, d2, d3] }
  | _ => none }
def TraceSameWrongFalsely : Prop := traceSameRow.holds Tryz.pinned (OpenSpec.ofChange traceSameWrong)

/- THE SECOND FORM. 'bulk': how many values and letters a reading holds, each counted each time it is reached (what is shared counts as often as it is met; a slice's spare places count too). A statement '..UptoSaid' is the law's where the arguments, and the package variables that the reading takes, are together of bulk at most 1048576: NARROWER than '..Said'. Prove '..Said' where nothing that the law and all that it calls make is longer than what came in: it says more and counts as full. Else prove '..UptoSaid'. A law counts once. -/
mutual
def uptoBulk {H : Type} : DataW H → Nat
  | .lit (.string bytes) => bytes.length + 1
  | .lit _ => 1
  | .nil => 1
  | .ptr d => uptoBulk d + 1
  | .slice elems spare => uptoBulkAll elems + uptoBulkAll spare + 1
  | .agg parts => uptoBulkAll parts + 1
  | .iface _ d => uptoBulk d + 1
  | .map entries => uptoBulkEntries entries + 1
  | .held _ => 1
def uptoBulkAll {H : Type} : List (DataW H) → Nat
  | [] => 0
  | d :: r => uptoBulk d + uptoBulkAll r
def uptoBulkEntries {H : Type} : List (Lit × DataW H) → Nat
  | [] => 0
  | x :: r => uptoBulkEntry x + uptoBulkEntries r
def uptoBulkEntry {H : Type} : Lit × DataW H → Nat
  | (.string bytes, d) => bytes.length + uptoBulk d + 1
  | (_, d) => uptoBulk d + 1
 end
def uptoSmall : (H : Type) → List (DataW H) → Bool := fun _ ds => decide (uptoBulkAll ds ≤ 1048576)
def OpenSpec.upto (s : _root_.Go.ChangeSpec) : _root_.Go.OpenSpec := { _root_.Go.OpenSpec.ofChange s with cond := some uptoSmall }

/-- 'gangwaylaw28.TraceAhead', WHERE WHAT IT READS IS OF BULK AT MOST 1048576: true; the input reads as it did. -/
def traceAheadUptoRow : OpenClaim := { program := "ytbbekdmndifkpaagreatdoor", sum := "8178cce1fa9a9c6c93d710a1a101528aa6779a3d12a7db516b91bf524aae8f33", func := "gangway/gangwaylaw28.TraceAhead", spec := "traceAhead", inPlace := ["internal/reflectlite.ValueOf", "(internal/reflectlite.Value).Type", "(internal/reflectlite.Value).IsNil", "internal/reflectlite.TypeOf", "(internal/reflectlite.Value).Elem", "(internal/reflectlite.Value).Set", "internal/abi.NoEscape"], unfollowed := true, recurses := true, named := ["errors.errorType"], apart := false, laid := [("errors.errorType", laid_errors_errorType)], narrowed := true }
def TraceAheadUptoSaid : Prop := traceAheadUptoRow.holds Tryz.pinned (OpenSpec.upto traceAheadSpec)

/-- 'gangwaylaw28.TraceTwice', WHERE WHAT IT READS IS OF BULK AT MOST 1048576: true; the input reads as it did. -/
def traceTwiceUptoRow : OpenClaim := { program := "ytbbekdmndifkpaagreatdoor", sum := "8178cce1fa9a9c6c93d710a1a101528aa6779a3d12a7db516b91bf524aae8f33", func := "gangway/gangwaylaw28.TraceTwice", spec := "traceTwice", inPlace := ["internal/reflectlite.ValueOf", "(internal/reflectlite.Value).Type", "(internal/reflectlite.Value).IsNil", "internal/reflectlite.TypeOf", "(internal/reflectlite.Value).Elem", "(internal/reflectlite.Value).Set", "internal/abi.NoEscape"], unfollowed := true, recurses := true, named := ["errors.errorType"], apart := false, laid := [("errors.errorType", laid_errors_errorType)], narrowed := true }
def TraceTwiceUptoSaid : Prop := traceTwiceUptoRow.holds Tryz.pinned (OpenSpec.upto traceTwiceSpec)

/-- 'gangwaylaw28.TraceSame', WHERE WHAT IT READS IS OF BULK AT MOST 1048576: true; the input reads as it did. -/
def traceSameUptoRow : OpenClaim := { program := "ytbbekdmndifkpaagreatdoor", sum := "8178cce1fa9a9c6c93d710a1a101528aa6779a3d12a7db516b91bf524aae8f33", func := "gangway/gangwaylaw28.TraceSame", spec := "traceSame", inPlace := ["internal/reflectlite.ValueOf", "(internal/reflectlite.Value).Type", "(internal/reflectlite.Value).IsNil", "internal/reflectlite.TypeOf", "(internal/reflectlite.Value).Elem", "(internal/reflectlite.Value).Set", "internal/abi.NoEscape"], unfollowed := true, recurses := true, named := ["errors.errorType"], apart := false, laid := [("errors.errorType", laid_errors_errorType)], narrowed := true }
def TraceSameUptoSaid : Prop := traceSameUptoRow.holds Tryz.pinned (OpenSpec.upto traceSameSpec)

end Rows
end Go.Proofs.YtbbekdmndifkpaaGreatDoor
