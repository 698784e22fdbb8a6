/- What every law's row needs of the listed variable: no conditions. -/
import Derived.Test.YtkpjjncdicgkkaaGreatDoorCards
import Derived.Test.YtkpjjncdicgkkaaGreatDoorTie
import Derived.Test.YtkpjjncdicgkkaaGreatDoorF1
import Derived.Test.YtkpjjncdicgkkaaGreatDoorE3

namespace Go.Proofs.YtkpjjncdicgkkaaGreatDoor
open Go Eng Go.RowKit
set_option linter.unusedVariables false
theorem Row.own : ownKnob Tryz.prog.godebug = none := by kernel_rfl
theorem Row.laidOut : laidOutB Tryz.prog = true := by kernel_rfl
def Row.laid {H : Type} : List (String × DataW H) := [("errors.errorType", Rows.laid_errors_errorType)]

noncomputable def Row.world (os : Os) : World :=
  let w0 := World.holding Tryz.prog os ⟨#[], #[], []⟩
  { w0 with heap := w0.heap.modify 0 fun
      | .cells _ t frozen => .cells #[.iface 436 (.agg #[.pointer (some ⟨2, 284, none⟩)])] t frozen
      | o => o }
theorem Row.met (os : Os) (args : Array Value) : laidMetH Tryz.prog (Row.laid (H := Unit)) ((Row.world os).forCall (fun _ _ => 0) ⟨#[], args, []⟩).memory :=
  laidMetH_of_parts (laidMet_nil _ _) (by kernel_rfl)
theorem Row.start {W : World} (h : laidMetH Tryz.prog (Row.laid (H := Unit)) W) : Sat W ⟨[], fun _ => True⟩ [] [] aI W := Sat.nil W _
end Go.Proofs.YtkpjjncdicgkkaaGreatDoor
