/- The closed facts of the row: no conditions. -/
import Derived.Test.YtkpjjncdicgkkaaGreatDoorRow

namespace Go.Proofs.YtkpjjncdicgkkaaGreatDoor
open Go Eng
set_option linter.unusedVariables false
theorem Fe {a b : Bool} (h1 : a = true) (h2 : b = true) : (a && b) = true := by rw [h1, h2]; rfl
set_option maxHeartbeats 40000000 in
theorem oh : joinedFacts Tryz.prog 3 Tryz.f3 Rows.fabricNewsSpec Rows.fabricNewsRow = true := by
  unfold joinedFacts
  repeat' with_reducible apply Fe
  all_goals as_aux_lemma => kernel_rfl
end Go.Proofs.YtkpjjncdicgkkaaGreatDoor
