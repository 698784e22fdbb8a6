/- The law FabricNews returns true for every input, and its arguments read as before: the tied card, with the condition that the listed variable errors.errorType is as the program's text lays it. -/
import Derived.Test.YtkpjjncdicgkkaaGreatDoorP2
import Derived.Test.YtkpjjncdicgkkaaGreatDoorT
import Derived.Test.YtkpjjncdicgkkaaGreatDoorP3

namespace Go.Proofs.YtkpjjncdicgkkaaGreatDoor
open Go Eng Go.RowKit
set_option linter.unusedVariables false
theorem o9 : Rows.FabricNewsSaid :=
  OpenClaim.holds_of_wide 3 Tryz.f3 rfl rfl rfl rfl rfl rfl rfl ⟨rfl, rfl, rfl, rfl, rfl⟩ rfl rfl rfl rfl rfl (by as_aux_lemma => kernel_rfl) Tryz.func3 oh
    (of_decide_eq_true (by as_aux_lemma => kernel_rfl)) (by unfold Func.isWrapper; rw [if_neg (of_decide_eq_false (by as_aux_lemma => kernel_rfl))]; exact ⟨rfl, rfl⟩)
    (fun os started H enc _ => na os started H enc)

/-- THE CARD. -/
theorem fabricNews_card : Rows.FabricNewsCardSaid :=
  Claim7.holds_tied_plain_at .later [] [.handle] true (true, "f117e9b01b07bf089d993a75460a11fda5222c78337ced2356fc06205fb9031f") true o9 (fun _ h => by cases h) factQA (fun _ h => by cases h) fabricNews_row_tie rfl ⟨rfl, rfl⟩ factQB rfl
    (fun f fn hf hfn => by
      obtain rfl : f = 3 := Option.some.inj ((show Tryz.prog.funcNamed "gangway/gangwaylaw27.FabricNews" = some 3 by kernel_rfl).symm.trans hf) |>.symm
      obtain rfl : fn = Tryz.f3 := (Option.some.inj (Tryz.func3.symm.trans hfn)).symm
      exact ⟨factQC, zW factQE⟩)
    factQD
#print axioms fabricNews_card
end Go.Proofs.YtkpjjncdicgkkaaGreatDoor
