/- The law TraceSame returns true for every input, and its arguments read as before: the tied card, with the condition that the listed variable errors.errorType is as the program's text lays it. -/
import Derived.Test.YtbbekdmndifkpaaGreatDoorF5
import Derived.Test.YtbbekdmndifkpaaGreatDoorP1
import Derived.Test.YtbbekdmndifkpaaGreatDoorRow

namespace Go.Proofs.YtbbekdmndifkpaaGreatDoor
open Go Eng
set_option linter.unusedVariables false

/-- What is left of the law: plain Lean. -/
def gangwaylaw28_TraceSame.Pure : Prop := ∀ a0 : (List api_Gate), ∀ a1 : api_Event, ∀ a2 : api_Event, Ok22 a0 → (-9223372036854775808) ≤ a1.Gate ∧ a1.Gate ≤ 9223372036854775807 → (-9223372036854775808) ≤ a1.Port ∧ a1.Port ≤ 9223372036854775807 → a1.S.size ≤ 140737488351232 → (-9223372036854775808) ≤ a2.Gate ∧ a2.Gate ≤ 9223372036854775807 → (-9223372036854775808) ≤ a2.Port ∧ a2.Port ≤ 9223372036854775807 → a2.S.size ≤ 140737488351232 → ∃ k, gangwaylaw28_TraceSame.f k a0 a1 a2 = some true
end Go.Proofs.YtbbekdmndifkpaaGreatDoor

namespace Go.Proofs.YtbbekdmndifkpaaGreatDoor
open Go Eng
set_option linter.unusedVariables false
set_option linter.unusedSimpArgs false

theorem trace_Same_spec (g : List api_Gate) (hg : GatesOk g) (a b : api_Event) : trace_Same.f 2000 g a b = some (sameR g (seenR g a) (seenR g b)) := by
  unfold trace_Same.f
  rw [of_spec g hg, Option.bind_some, of_spec g hg, Option.bind_some, same_spec g hg]
  rfl
theorem sameR_comm (g : List api_Gate) (a b : trace_seen) : sameR g a b = sameR g b a := by
  have hc : ∀ x y : Int, (x == y) = (y == x) := fun x y => by
    by_cases h : x = y
    · subst h; rfl
    · rw [show (x == y) = false by simp [h], show (y == x) = false by simp [Ne.symm h]]
  unfold sameR
  rw [hc a.Event.Gate, hc a.vid, hc (segAt g a.Event.Gate a.vid).1.Vni, Bool.and_comm a.is_, Bool.and_comm (segAt g a.Event.Gate a.vid).2]
theorem sameR_self (g : List api_Gate) (a b : trace_seen) (h : sameR g a b = true) : sameR g a a = true := by
  unfold sameR at h ⊢
  rw [Bool.and_eq_true, Bool.and_eq_true] at h
  rw [h.1.1]
  simp
theorem getL2 {α : Type} {m : List α} (h : m.length = 2) : getL m.length m 0 = some (m[0]'(by omega)) ∧ getL m.length m 1 = some (m[1]'(by omega)) := by
  constructor
  · exact getL_at (i := 0) (by omega)
  · exact getL_at (i := 1) (by omega)

theorem gangwaylaw28_TraceSame_pure : gangwaylaw28_TraceSame.Pure := by
  intro a0 a1 a2 h0 _ _ _ _ _ _
  refine ⟨2000, ?_⟩
  unfold gangwaylaw28_TraceSame.f
  have h9 : IpsOk a0 := fun g hg x hx => by
    have h1 := (h0.1 g hg).2.2.2.2.2.2.2.2.2.1
    have h2 := (h1.1 x hx).1.1
    exact h2
  obtain ⟨g, m, h1, ⟨hg, hc⟩, hm, hS⟩ := bound28_spec a0 h9 [a1, a2] (by simp)
  have hm2 : m.length = 2 := hm
  obtain ⟨g0, g1⟩ := getL2 hm2
  rw [h1, Option.bind_some]
  dsimp only
  rw [g0, g1]
  simp only [Option.bind_some]
  generalize m[0]'(by omega) = e0
  generalize m[1]'(by omega) = e1
  have hk4 : gangwaylaw28_TraceSame.k4 2000 g true = some true := by
    have hcc : config_Check.f 2000 g = some 0 := by
      rcases hc with rfl | hc
      · kernel_rfl
      · exact config_ok g hg hc
    unfold gangwaylaw28_TraceSame.k4
    rw [cond_true, hcc, Option.bind_some]
    unfold gangwaylaw28_TraceSame.k3
    rw [show ((0 : Int) == 0) = true by rfl, cond_true, fixed28]
    rfl
  rw [trace_Same_spec g hg, Option.bind_some, trace_Same_spec g hg, Option.bind_some, sameR_comm g (seenR g e1)]
  rw [show (sameR g (seenR g e0) (seenR g e1) == sameR g (seenR g e0) (seenR g e1)) = true by simp, Bool.not_true, cond_false]
  cases hs : sameR g (seenR g e0) (seenR g e1)
  · exact hk4
  · rw [Bool.not_true, cond_false, trace_Same_spec g hg, Option.bind_some, sameR_self g _ _ hs, cond_true, trace_Same_spec g hg, Option.bind_some, sameR_self g _ (seenR g e0) (by rw [sameR_comm]; exact hs)]
    exact hk4
end Go.Proofs.YtbbekdmndifkpaaGreatDoor

namespace Go.Proofs.YtbbekdmndifkpaaGreatDoor
open Go Eng Go.RowKit
set_option linter.unusedVariables false

/-- The law's walk, at whatever arguments the row gives. -/
theorem traceSame_walk (W : World) (args : Array Value) (hsz : args.size = Tryz.f5.params.size) (harg : ∀ (j : Nat) t v, Tryz.f5.params[j]? = some t → args[j]? = some v → Arg Tryz.prog W t v) (hx : laidMetH Tryz.prog (Row.laid (H := Unit)) W) :
    Calls Tryz.prog 5 args W fun e w' => e = .returned (.bool true) ∧ Below W.heap.size W w' := by
  rw [Tryz.params5] at hsz harg
  obtain ⟨v0, v1, v2, rfl⟩ := args_three hsz
  obtain ⟨x0, s0, hv0, k0, q0⟩ := Arg.sl (e := 73) (by kernel_rfl) (dec22 W) (harg 0 22 v0 rfl rfl)
  obtain rfl := (List.cons.inj hv0).1
  obtain ⟨cs1, rfl, h1⟩ := Arg.agg (L := [.bool, .int .i64, .int .i64, .str]) 6 Tryz.underlying28 (by kernel_rfl) (harg 1 28 v1 rfl rfl)
  obtain ⟨_, cs1_0, rfl, ⟨x1_0, rfl⟩, h1_0⟩ := LeafAll.cons h1
  obtain ⟨_, cs1_1, rfl, ⟨x1_1, rfl, wx1_1⟩, h1_1⟩ := LeafAll.cons h1_0
  obtain ⟨_, cs1_2, rfl, ⟨x1_2, rfl, wx1_2⟩, h1_2⟩ := LeafAll.cons h1_1
  obtain ⟨_, cs1_3, rfl, ⟨x1_3, rfl, wx1_3⟩, h1_3⟩ := LeafAll.cons h1_2
  obtain rfl := LeafAll.nil h1_3
  obtain ⟨cs2, rfl, h2⟩ := Arg.agg (L := [.bool, .int .i64, .int .i64, .str]) 6 Tryz.underlying28 (by kernel_rfl) (harg 2 28 v2 rfl rfl)
  obtain ⟨_, cs2_0, rfl, ⟨x2_0, rfl⟩, h2_0⟩ := LeafAll.cons h2
  obtain ⟨_, cs2_1, rfl, ⟨x2_1, rfl, wx2_1⟩, h2_1⟩ := LeafAll.cons h2_0
  obtain ⟨_, cs2_2, rfl, ⟨x2_2, rfl, wx2_2⟩, h2_2⟩ := LeafAll.cons h2_1
  obtain ⟨_, cs2_3, rfl, ⟨x2_3, rfl, wx2_3⟩, h2_3⟩ := LeafAll.cons h2_2
  obtain rfl := LeafAll.nil h2_3
  obtain ⟨k, hk⟩ := gangwaylaw28_TraceSame_pure x0 (api_Event.mk x1_0 x1_1 x1_2 x1_3) (api_Event.mk x2_0 x2_1 x2_2 x2_3) q0 (Eng.wf_i64 wx1_1) (Eng.wf_i64 wx1_2) wx1_3 (Eng.wf_i64 wx2_1) (Eng.wf_i64 wx2_2) wx2_3
  exact (gangwaylaw28_TraceSame_calls k s0 x0 (api_Event.mk x1_0 x1_1 x1_2 x1_3) (api_Event.mk x2_0 x2_1 x2_2 x2_3) true hk W ⟨[], fun _ => True⟩ (Sat.add (Row.start hx) k0 (fun w' h => (Up.row up73) x0 s0 W w' h k0))).mono fun e w' ⟨he, hs⟩ => ⟨he, hs.below⟩

set_option maxRecDepth 100000 in
theorem traceSame_lifted (os : Os) (started : os.Started) (H : Type) (enc : TypeId × Value → H) :
    ReturnsInHanded {} Tryz.checked os 5 .any (fun w args => (Rows.traceSameSpec.pre enc Tryz.prog Tryz.f5 [] false w args ∧ laidMetH Tryz.prog (Row.laid (H := Unit)) w) ∧ sizedMet enc Tryz.prog Tryz.f5 (OpenSpec.ofChange Rows.traceSameSpec) false w args)
      (Rows.traceSameSpec.post enc Tryz.prog Tryz.f5 false true false false) :=
  lift_law (C := Tryz.checked) (X := fun w => laidMetH Tryz.prog (Row.laid (H := Unit)) w) 4 (fun _ _ hh h => h.of_heap hh) Row.own started (by kernel_rfl) Tryz.func5 rfl
    (fun H ds hds => by
      rcases ds with _ | ⟨d0, ds⟩
      · cases hds
      ·
        rcases ds with _ | ⟨d1, ds⟩
        · cases hds
        ·
          rcases ds with _ | ⟨d2, ds⟩
          · cases hds
          ·
            rcases ds with _ | ⟨d3, ds⟩
            · rfl
            · cases hds)
    (by kernel_rfl) (by kernel_rfl) Row.laidOut (by kernel_rfl) H enc
    (ChangeSpec.witness_at (enc := enc) (C := Tryz.checked) (os := os) (X := fun w _ => laidMetH Tryz.prog (Row.laid (H := Unit)) w) false (Row.world os) #[.slice none 0 0, .agg #[.bool false, .int .i64 0, .int .i64 0, .string ByteArray.empty], .agg #[.bool false, .int .i64 0, .int .i64 0, .string ByteArray.empty]] 8 rfl (by kernel_rfl) (by kernel_rfl) (by kernel_rfl) (by kernel_rfl) (by kernel_rfl) (Row.met os _))
    traceSame_walk

theorem traceSame_said : Rows.TraceSameSaid :=
  OpenClaim.holds_of_wide 5 Tryz.f5 rfl rfl rfl rfl rfl rfl rfl ⟨rfl, rfl, rfl, rfl, rfl⟩ rfl rfl rfl rfl rfl (by kernel_rfl) Tryz.func5 (by kernel_rfl)
    (of_decide_eq_true (by kernel_rfl)) (by unfold Func.isWrapper; rw [if_neg (of_decide_eq_false (by kernel_rfl))]; exact ⟨rfl, rfl⟩)
    (fun os started H enc _ => traceSame_lifted os started H enc)

/-- THE CARD. -/
theorem traceSame_card : Rows.TraceSameCardSaid :=
  Claim7.holds_tied_plain_at .later [] [.handle] true (true, "25fef02dac3b44037c4c8bd6b1b287bc313cfe225bc95feca531ae8be2ba2018") true traceSame_said (fun _ h => by cases h) (by kernel_rfl) (fun _ h => by cases h) traceSame_row_tie rfl ⟨rfl, rfl⟩ (by kernel_rfl) rfl
    (fun f fn hf hfn => by
      obtain rfl : f = 5 := Option.some.inj ((show Tryz.prog.funcNamed "gangway/gangwaylaw28.TraceSame" = some 5 by kernel_rfl).symm.trans hf) |>.symm
      obtain rfl : fn = Tryz.f5 := (Option.some.inj (Tryz.func5.symm.trans hfn)).symm
      exact ⟨by kernel_rfl, noStand (by kernel_rfl)⟩)
    (by kernel_rfl)
#print axioms traceSame_card
end Go.Proofs.YtbbekdmndifkpaaGreatDoor
