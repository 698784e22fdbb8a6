/- More closed facts of the row: no conditions. -/
import Derived.Test.YtkpjjncdicgkkaaGreatDoorRow

namespace Go.Proofs.YtkpjjncdicgkkaaGreatDoor
open Go Eng
set_option linter.unusedVariables false
set_option maxHeartbeats 40000000
theorem factQA : Rows.fabricNewsRow.wfByText (OpenSpec.ofChange Rows.fabricNewsSpec) = true := by kernel_rfl
theorem factQB : Tryz.pinned.checked.prog.mainIs = some (true, "f117e9b01b07bf089d993a75460a11fda5222c78337ced2356fc06205fb9031f".toList) := by kernel_rfl
theorem factQC : true = Tryz.pinned.checked.prog.looks [] := by kernel_rfl
theorem factQD : false = Rows.fabricNewsRow.goesBy Tryz.pinned.checked.prog := by kernel_rfl
theorem factQE : (Tryz.f3.params.toList.all fun t => !Tryz.pinned.checked.prog.wantsStandIn t) = true := by kernel_rfl
end Go.Proofs.YtkpjjncdicgkkaaGreatDoor
