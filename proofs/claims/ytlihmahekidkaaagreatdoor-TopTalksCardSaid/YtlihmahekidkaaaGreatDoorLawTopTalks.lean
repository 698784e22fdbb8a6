/- The law TopTalks returns true for every input, and its arguments read as before: the tied card, with the condition that the listed variable errors.errorType is as the program's text lays it. -/
import Derived.Test.YtlihmahekidkaaaGreatDoorT
import Derived.Test.YtlihmahekidkaaaGreatDoorZ

namespace Go.Proofs.YtlihmahekidkaaaGreatDoor
open Go Eng Go.RowKit
set_option linter.unusedVariables false

theorem top_wf_u32 {n : Int} (h : (Lit.int .u32 n).wf = true) : 0 ≤ n ∧ n ≤ 4294967295 := by
  simp [Lit.wf, IntKind.min, IntKind.max, IntKind.bits, IntKind.signed] at h; omega
/-- The law's walk, at whatever arguments the row gives. -/
theorem topTalks_walk (W : World) (args : Array Value) (hsz : args.size = Tryz.f3.params.size) (harg : ∀ (j : Nat) t v, Tryz.f3.params[j]? = some t → args[j]? = some v → Arg Tryz.prog W t v) (hx : laidMetH Tryz.prog (Row.laid (H := Unit)) W) :
    Calls Tryz.prog 3 args W fun e w' => e = .returned (.bool true) ∧ Below W.heap.size W w' := by
  rw [Tryz.params3] at hsz harg
  obtain ⟨v0, v1, v2, rfl⟩ := args_three hsz
  obtain ⟨cs0, rfl, h0⟩ := Arg.agg (L := [.int .u64, .int .u64, .bool, .int .i64, .bool, .int .i64, .int .i64, .str]) 6 Tryz.underlying26 (by kernel_rfl) (harg 0 26 v0 rfl rfl)
  obtain ⟨_, cs0_0, rfl, ⟨x0_0, rfl, wx0_0⟩, h0_0⟩ := LeafAll.cons h0
  obtain ⟨_, cs0_1, rfl, ⟨x0_1, rfl, wx0_1⟩, h0_1⟩ := LeafAll.cons h0_0
  obtain ⟨_, cs0_2, rfl, ⟨x0_2, rfl⟩, h0_2⟩ := LeafAll.cons h0_1
  obtain ⟨_, cs0_3, rfl, ⟨x0_3, rfl, wx0_3⟩, h0_3⟩ := LeafAll.cons h0_2
  obtain ⟨_, cs0_4, rfl, ⟨x0_4, rfl⟩, h0_4⟩ := LeafAll.cons h0_3
  obtain ⟨_, cs0_5, rfl, ⟨x0_5, rfl, wx0_5⟩, h0_5⟩ := LeafAll.cons h0_4
  obtain ⟨_, cs0_6, rfl, ⟨x0_6, rfl, wx0_6⟩, h0_6⟩ := LeafAll.cons h0_5
  obtain ⟨_, cs0_7, rfl, ⟨x0_7, rfl, wx0_7⟩, h0_7⟩ := LeafAll.cons h0_6
  obtain rfl := LeafAll.nil h0_7
  obtain ⟨cs1, rfl, h1⟩ := Arg.agg (L := [.int .u64, .int .u64, .bool, .int .i64, .bool, .int .i64, .int .i64, .str]) 6 Tryz.underlying26 (by kernel_rfl) (harg 1 26 v1 rfl rfl)
  obtain ⟨_, cs1_0, rfl, ⟨x1_0, rfl, wx1_0⟩, h1_0⟩ := LeafAll.cons h1
  obtain ⟨_, cs1_1, rfl, ⟨x1_1, rfl, wx1_1⟩, h1_1⟩ := LeafAll.cons h1_0
  obtain ⟨_, cs1_2, rfl, ⟨x1_2, rfl⟩, h1_2⟩ := LeafAll.cons h1_1
  obtain ⟨_, cs1_3, rfl, ⟨x1_3, rfl, wx1_3⟩, h1_3⟩ := LeafAll.cons h1_2
  obtain ⟨_, cs1_4, rfl, ⟨x1_4, rfl⟩, h1_4⟩ := LeafAll.cons h1_3
  obtain ⟨_, cs1_5, rfl, ⟨x1_5, rfl, wx1_5⟩, h1_5⟩ := LeafAll.cons h1_4
  obtain ⟨_, cs1_6, rfl, ⟨x1_6, rfl, wx1_6⟩, h1_6⟩ := LeafAll.cons h1_5
  obtain ⟨_, cs1_7, rfl, ⟨x1_7, rfl, wx1_7⟩, h1_7⟩ := LeafAll.cons h1_6
  obtain rfl := LeafAll.nil h1_7
  obtain ⟨x2, rfl, wx2⟩ := Arg.int Tryz.underlying27 (harg 2 27 v2 rfl rfl)
  exact (top_law (api_Frame.mk x0_0 x0_1 (api_Tag.mk x0_2 x0_3 x0_4 x0_5) x0_6 x0_7) (api_Frame.mk x1_0 x1_1 (api_Tag.mk x1_2 x1_3 x1_4 x1_5) x1_6 x1_7) x2 (Eng.wf_u64 wx0_0) (Eng.wf_u64 wx0_1) (Eng.wf_i64 wx0_3) (Eng.wf_i64 wx0_5) (Eng.wf_i64 wx0_6) wx0_7 (Eng.wf_u64 wx1_0) (Eng.wf_u64 wx1_1) (Eng.wf_i64 wx1_3) (Eng.wf_i64 wx1_5) (Eng.wf_i64 wx1_6) wx1_7 (top_wf_u32 wx2) W ⟨[], fun _ => True⟩ (Row.start hx)).mono fun e w' ⟨he, hs⟩ => ⟨he, hs.below⟩

set_option maxRecDepth 100000 in
theorem topTalks_lifted (os : Os) (started : os.Started) (H : Type) (enc : TypeId × Value → H) :
    ReturnsInHanded {} Tryz.checked os 3 .any (fun w args => (Rows.topTalksSpec.pre enc Tryz.prog Tryz.f3 [] false w args ∧ laidMetH Tryz.prog (Row.laid (H := Unit)) w) ∧ sizedMet enc Tryz.prog Tryz.f3 (OpenSpec.ofChange Rows.topTalksSpec) false w args)
      (Rows.topTalksSpec.post enc Tryz.prog Tryz.f3 false true false false) :=
  lift_law (C := Tryz.checked) (X := fun w => laidMetH Tryz.prog (Row.laid (H := Unit)) w) 4 (fun _ _ hh h => h.of_heap hh) Row.own started (by kernel_rfl) Tryz.func3 rfl
    (fun H ds hds => by
      rcases ds with _ | ⟨d0, ds⟩
      · cases hds
      ·
        rcases ds with _ | ⟨d1, ds⟩
        · cases hds
        ·
          rcases ds with _ | ⟨d2, ds⟩
          · cases hds
          ·
            rcases ds with _ | ⟨d3, ds⟩
            · rfl
            · cases hds)
    (by kernel_rfl) (by kernel_rfl) Row.laidOut (by kernel_rfl) H enc
    (ChangeSpec.witness_at (enc := enc) (C := Tryz.checked) (os := os) (X := fun w _ => laidMetH Tryz.prog (Row.laid (H := Unit)) w) false (Row.world os) #[.agg #[.int .u64 0, .int .u64 0, .bool false, .int .i64 0, .bool false, .int .i64 0, .int .i64 0, .string ByteArray.empty], .agg #[.int .u64 0, .int .u64 0, .bool false, .int .i64 0, .bool false, .int .i64 0, .int .i64 0, .string ByteArray.empty], .int .u32 0] 8 rfl (by kernel_rfl) (by kernel_rfl) (by kernel_rfl) (by kernel_rfl) (by kernel_rfl) (Row.met os _))
    topTalks_walk

theorem topTalks_said : Rows.TopTalksSaid :=
  OpenClaim.holds_of_wide 3 Tryz.f3 rfl rfl rfl rfl rfl rfl rfl ⟨rfl, rfl, rfl, rfl, rfl⟩ rfl rfl rfl rfl rfl (by as_aux_lemma => kernel_rfl) Tryz.func3 topTalks_facts
    (of_decide_eq_true (by as_aux_lemma => kernel_rfl)) (by unfold Func.isWrapper; rw [if_neg (of_decide_eq_false (by as_aux_lemma => kernel_rfl))]; exact ⟨rfl, rfl⟩)
    (fun os started H enc _ => topTalks_lifted os started H enc)

/-- THE CARD. -/
theorem topTalks_card : Rows.TopTalksCardSaid :=
  Claim7.holds_tied_plain_at .later [] [.handle] true (true, "4b90dc99ce2ccc03608fefc23d98d73e49aa3196cd02d3b6ad199f02046a0883") true topTalks_said (fun _ h => by cases h) (by as_aux_lemma => kernel_rfl) (fun _ h => by cases h) topTalks_row_tie rfl ⟨rfl, rfl⟩ (by as_aux_lemma => kernel_rfl) rfl
    (fun f fn hf hfn => by
      obtain rfl : f = 3 := Option.some.inj ((show Tryz.prog.funcNamed "gangway/gangwaytop.TopTalks" = some 3 by kernel_rfl).symm.trans hf) |>.symm
      obtain rfl : fn = Tryz.f3 := (Option.some.inj (Tryz.func3.symm.trans hfn)).symm
      exact ⟨by as_aux_lemma => kernel_rfl, noStand (by as_aux_lemma => kernel_rfl)⟩)
    (by as_aux_lemma => kernel_rfl)
#print axioms topTalks_card
end Go.Proofs.YtlihmahekidkaaaGreatDoor
