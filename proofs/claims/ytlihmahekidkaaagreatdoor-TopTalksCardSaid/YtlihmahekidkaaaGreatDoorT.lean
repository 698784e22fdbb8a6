/- The closed facts of the row: no conditions. -/
import Derived.Test.YtlihmahekidkaaaGreatDoorRow

namespace Go.Proofs.YtlihmahekidkaaaGreatDoor
open Go Eng
set_option linter.unusedVariables false
theorem and2_topTalks {a b : Bool} (h1 : a = true) (h2 : b = true) : (a && b) = true := by rw [h1, h2]; rfl
set_option maxHeartbeats 40000000 in
theorem topTalks_facts : joinedFacts Tryz.prog 3 Tryz.f3 Rows.topTalksSpec Rows.topTalksRow = true := by
  unfold joinedFacts
  repeat' with_reducible apply and2_topTalks
  all_goals as_aux_lemma => kernel_rfl
end Go.Proofs.YtlihmahekidkaaaGreatDoor
