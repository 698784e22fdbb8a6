/- The law BpduGoes returns true for every input, and its arguments read as before: the tied card, with the condition that the listed variable errors.errorType is as the program's text lays it. -/
import Derived.Test.YtefbjefmclhhjaaDoorF4
import Derived.Test.YtefbjefmclhhjaaDoorP1
import Derived.Test.YtefbjefmclhhjaaDoorRow

namespace Go.Proofs.YtefbjefmclhhjaaDoor
open Go Eng
set_option linter.unusedVariables false

/-- What is left of the law: plain Lean. -/
def gangwaylaw09_BpduGoes.Pure : Prop := ∀ a0 : Int, ∀ a1 : api_Bpdu, ∀ a2 : Int, 0 ≤ a0 ∧ a0 ≤ 18446744073709551615 → (-9223372036854775808) ≤ a1.Kind ∧ a1.Kind ≤ 9223372036854775807 → (-9223372036854775808) ≤ a1.Role ∧ a1.Role ≤ 9223372036854775807 → 0 ≤ a1.Root ∧ a1.Root ≤ 18446744073709551615 → (-9223372036854775808) ≤ a1.Cost ∧ a1.Cost ≤ 9223372036854775807 → 0 ≤ a1.Bridge ∧ a1.Bridge ≤ 18446744073709551615 → (-9223372036854775808) ≤ a1.Port ∧ a1.Port ≤ 9223372036854775807 → (-9223372036854775808) ≤ a1.Age ∧ a1.Age ≤ 9223372036854775807 → (-9223372036854775808) ≤ a1.MaxAge ∧ a1.MaxAge ≤ 9223372036854775807 → (-9223372036854775808) ≤ a1.Hello ∧ a1.Hello ≤ 9223372036854775807 → (-9223372036854775808) ≤ a1.Delay ∧ a1.Delay ≤ 9223372036854775807 → (-9223372036854775808) ≤ a2 ∧ a2 ≤ 9223372036854775807 → ∃ k, gangwaylaw09_BpduGoes.f k a0 a1 a2 = some true
end Go.Proofs.YtefbjefmclhhjaaDoor

namespace Go.Proofs.YtefbjefmclhhjaaDoor
open Go Eng
set_option linter.unusedVariables false
set_option linter.unusedSimpArgs false

theorem same_bpdu (b : api_Bpdu) : ((b.Kind == b.Kind) && ((b.Change == b.Change) && ((b.Propose == b.Propose) && ((b.Learn == b.Learn) && ((b.Forward == b.Forward) && ((b.Agree == b.Agree) && ((b.Ack == b.Ack) && ((b.Role == b.Role) && ((b.Root == b.Root) && ((b.Cost == b.Cost) && ((b.Bridge == b.Bridge) && ((b.Port == b.Port) && ((b.Age == b.Age) && ((b.MaxAge == b.MaxAge) && ((b.Hello == b.Hello) && ((b.Delay == b.Delay) && true)))))))))))))))) = true := by
  simp

theorem frame_bad (k : Nat) (hk : k = 10) (x : Bool) (hx : x = true) : gangwaylaw09_BpduGoes.k3 k ⟨0, 0, ⟨false, 0, false, 0⟩, 0, ⟨#[]⟩⟩ x = some true := by
  subst hk; subst hx
  unfold gangwaylaw09_BpduGoes.k3 gangwaylaw09_BpduGoes.k2
  rw [cond_true]
  simp only [beq_self_eq_true, Bool.and_self, bytes_refl, cond_true]
  rw [bfixed_true]
  rfl

theorem gangwaylaw09_BpduGoes_pure : gangwaylaw09_BpduGoes.Pure := by
  intro a0 a1 a2 h0 hkind hrole hroot hcost hbridge hport hage hmost hhello hdelay hvid
  refine ⟨10, ?_⟩
  unfold gangwaylaw09_BpduGoes.f bpdu_Frame.f
  obtain ⟨c, hc, hgood⟩ := bcheck_spec a1
  obtain ⟨w, hw1, hw2, hw3⟩ := own_same a0 h0
  by_cases hc0 : c = 0
  · subst hc0
    obtain ⟨z, hb, hz, hp⟩ := build_parse a1 (hgood rfl) hroot hbridge hc
    rw [hb, Option.bind_some]
    simp only
    rw [show ((0 : Int) != 0) = false from rfl, cond_false, hw1, Option.bind_some]
    unfold bpdu_Frame.k1
    cases w
    · rw [show (!false) = true from rfl, cond_true, Option.bind_some]
      simp only
      rw [show ((91 : Int) != 0) = true from rfl, cond_true, hc, Option.bind_some, show ((0 : Int) != 0) = false from rfl, cond_false, hw2, Option.bind_some]
      exact frame_bad 10 rfl _ rfl
    · rw [show (!true) = false from rfl, cond_false, Option.bind_some]
      simp only
      rw [show ((0 : Int) != 0) = false from rfl, cond_false]
      have hg : Good ⟨1652522221568, a0, tag0, 0, z⟩ := ⟨by simp only; omega, ⟨h0.1, hw3 rfl⟩, fun _ => rfl, (fun h => by cases h), .inl ⟨rfl, by simp only; omega⟩, by simp [tag0]; omega⟩
      rw [show (⟨false, 0, false, 0⟩ : api_Tag) = tag0 from rfl, build_good _ hg, Option.bind_some]
      simp only
      have hl := frameL_len ⟨1652522221568, a0, tag0, 0, z⟩
      simp only [tag0, Bool.false_eq_true, if_false] at hl
      have hpar := parse_build ⟨1652522221568, a0, tag0, 0, z⟩ hg ⟨(frameL ⟨1652522221568, a0, tag0, 0, z⟩).toArray⟩ [] (by rw [L_mk, List.append_nil]) (by rw [mk_size]; simp only [tag0]; rw [hl]; omega)
      rw [parse_spec, hpar, more_nil, Option.bind_some]
      simp only
      have hof : bpdu_Of.f 10 ⟨1652522221568, a0, tag0, 0, z⟩ = some (a1, true) := by
        unfold bpdu_Of.f
        simp only [tag0]
        rw [show ((((1652522221568 : Int) != 1652522221568) || false) || ((0 : Int) != 0)) = false from rfl, cond_false, hp]
        rfl
      rw [hof, Option.bind_some]
      simp only
      unfold ether_Tagged.f
      rw [Option.bind_some]
      have hof2 : bpdu_Of.f 10 ⟨1652522221568, a0, ⟨true, 0, false, bAnd .i64 a2 4095⟩, 0, z⟩ = some (⟨0, false, false, false, false, false, false, 0, 0, 0, 0, 0, 0, 0, 0, 0⟩, false) := by
        unfold bpdu_Of.f
        simp only
        rw [show ((((1652522221568 : Int) != 1652522221568) || true) || ((0 : Int) != 0)) = true from rfl, cond_true]
      simp only
      rw [hof2, Option.bind_some]
      simp only
      rw [show (((0 : Int) == 0) && ((0 : Int) == 0)) = true from rfl, cond_true]
      simp only [beq_self_eq_true, Bool.and_self, bytes_refl]
      unfold gangwaylaw09_BpduGoes.k6
      rw [show (true && (true && (tag0.Has == false && (tag0.Pri == 0 && (tag0.Dei == false && (tag0.Vid == 0 && true))) && true)) && true) = true from rfl, cond_true]
      rw [same_bpdu]
      unfold gangwaylaw09_BpduGoes.k5
      rw [show (true && (!false)) = true from rfl, cond_true, bfixed_true]
      rfl
  · have hcn : (c != 0) = true := by simp [hc0]
    have hb : bpdu_Build.f 10 a1 = some (⟨#[]⟩, c) := by
      unfold bpdu_Build.f
      rw [hc, Option.bind_some, hcn, cond_true]
    rw [hb, Option.bind_some]
    simp only
    rw [hcn, cond_true]
    unfold bpdu_Frame.k1
    rw [cond_true, Option.bind_some]
    simp only
    rw [show ((91 : Int) != 0) = true from rfl, cond_true, hc, Option.bind_some, hcn, cond_true]
    exact frame_bad 10 rfl _ rfl
end Go.Proofs.YtefbjefmclhhjaaDoor

namespace Go.Proofs.YtefbjefmclhhjaaDoor
open Go Eng Go.RowKit
set_option linter.unusedVariables false

/-- The law's walk, at whatever arguments the row gives. -/
theorem bpduGoes_walk (W : World) (args : Array Value) (hsz : args.size = Tryd.f8.params.size) (harg : ∀ (j : Nat) t v, Tryd.f8.params[j]? = some t → args[j]? = some v → Arg Tryd.prog W t v) (hx : laidMetH Tryd.prog (Row.laid (H := Unit)) W) :
    Calls Tryd.prog 8 args W fun e w' => e = .returned (.bool true) ∧ Below W.heap.size W w' := by
  rw [Tryd.params8] at hsz harg
  obtain ⟨v0, v1, v2, rfl⟩ := args_three hsz
  obtain ⟨x0, rfl, wx0⟩ := Arg.int Tryd.underlying22 (harg 0 22 v0 rfl rfl)
  obtain ⟨cs1, rfl, h1⟩ := Arg.agg (L := [.int .i64, .bool, .bool, .bool, .bool, .bool, .bool, .int .i64, .int .u64, .int .i64, .int .u64, .int .i64, .int .i64, .int .i64, .int .i64, .int .i64]) 6 Tryd.underlying41 (by kernel_rfl) (harg 1 41 v1 rfl rfl)
  obtain ⟨_, cs1_0, rfl, ⟨x1_0, rfl, wx1_0⟩, h1_0⟩ := LeafAll.cons h1
  obtain ⟨_, cs1_1, rfl, ⟨x1_1, rfl⟩, h1_1⟩ := LeafAll.cons h1_0
  obtain ⟨_, cs1_2, rfl, ⟨x1_2, rfl⟩, h1_2⟩ := LeafAll.cons h1_1
  obtain ⟨_, cs1_3, rfl, ⟨x1_3, rfl⟩, h1_3⟩ := LeafAll.cons h1_2
  obtain ⟨_, cs1_4, rfl, ⟨x1_4, rfl⟩, h1_4⟩ := LeafAll.cons h1_3
  obtain ⟨_, cs1_5, rfl, ⟨x1_5, rfl⟩, h1_5⟩ := LeafAll.cons h1_4
  obtain ⟨_, cs1_6, rfl, ⟨x1_6, rfl⟩, h1_6⟩ := LeafAll.cons h1_5
  obtain ⟨_, cs1_7, rfl, ⟨x1_7, rfl, wx1_7⟩, h1_7⟩ := LeafAll.cons h1_6
  obtain ⟨_, cs1_8, rfl, ⟨x1_8, rfl, wx1_8⟩, h1_8⟩ := LeafAll.cons h1_7
  obtain ⟨_, cs1_9, rfl, ⟨x1_9, rfl, wx1_9⟩, h1_9⟩ := LeafAll.cons h1_8
  obtain ⟨_, cs1_10, rfl, ⟨x1_10, rfl, wx1_10⟩, h1_10⟩ := LeafAll.cons h1_9
  obtain ⟨_, cs1_11, rfl, ⟨x1_11, rfl, wx1_11⟩, h1_11⟩ := LeafAll.cons h1_10
  obtain ⟨_, cs1_12, rfl, ⟨x1_12, rfl, wx1_12⟩, h1_12⟩ := LeafAll.cons h1_11
  obtain ⟨_, cs1_13, rfl, ⟨x1_13, rfl, wx1_13⟩, h1_13⟩ := LeafAll.cons h1_12
  obtain ⟨_, cs1_14, rfl, ⟨x1_14, rfl, wx1_14⟩, h1_14⟩ := LeafAll.cons h1_13
  obtain ⟨_, cs1_15, rfl, ⟨x1_15, rfl, wx1_15⟩, h1_15⟩ := LeafAll.cons h1_14
  obtain rfl := LeafAll.nil h1_15
  obtain ⟨x2, rfl, wx2⟩ := Arg.int Tryd.underlying3 (harg 2 3 v2 rfl rfl)
  obtain ⟨k, hk⟩ := gangwaylaw09_BpduGoes_pure x0 (api_Bpdu.mk x1_0 x1_1 x1_2 x1_3 x1_4 x1_5 x1_6 x1_7 x1_8 x1_9 x1_10 x1_11 x1_12 x1_13 x1_14 x1_15) x2 (Eng.wf_u64 wx0) (Eng.wf_i64 wx1_0) (Eng.wf_i64 wx1_7) (Eng.wf_u64 wx1_8) (Eng.wf_i64 wx1_9) (Eng.wf_u64 wx1_10) (Eng.wf_i64 wx1_11) (Eng.wf_i64 wx1_12) (Eng.wf_i64 wx1_13) (Eng.wf_i64 wx1_14) (Eng.wf_i64 wx1_15) (Eng.wf_i64 wx2)
  exact (gangwaylaw09_BpduGoes_calls k x0 (api_Bpdu.mk x1_0 x1_1 x1_2 x1_3 x1_4 x1_5 x1_6 x1_7 x1_8 x1_9 x1_10 x1_11 x1_12 x1_13 x1_14 x1_15) x2 true hk W ⟨[], fun _ => True⟩ (Row.start hx)).mono fun e w' ⟨he, hs⟩ => ⟨he, hs.below⟩

set_option maxRecDepth 100000 in
theorem bpduGoes_lifted (os : Os) (started : os.Started) (H : Type) (enc : TypeId × Value → H) :
    ReturnsInHanded {} Tryd.checked os 8 .any (fun w args => (Rows.bpduGoesSpec.pre enc Tryd.prog Tryd.f8 [] false w args ∧ laidMetH Tryd.prog (Row.laid (H := Unit)) w) ∧ sizedMet enc Tryd.prog Tryd.f8 (OpenSpec.ofChange Rows.bpduGoesSpec) false w args)
      (Rows.bpduGoesSpec.post enc Tryd.prog Tryd.f8 false true false false) :=
  lift_law (C := Tryd.checked) (X := fun w => laidMetH Tryd.prog (Row.laid (H := Unit)) w) 4 (fun _ _ hh h => h.of_heap hh) Row.own started (by kernel_rfl) Tryd.func8 rfl
    (fun H ds hds => by
      rcases ds with _ | ⟨d0, ds⟩
      · cases hds
      ·
        rcases ds with _ | ⟨d1, ds⟩
        · cases hds
        ·
          rcases ds with _ | ⟨d2, ds⟩
          · cases hds
          ·
            rcases ds with _ | ⟨d3, ds⟩
            · rfl
            · cases hds)
    (by kernel_rfl) (by kernel_rfl) Row.laidOut (by kernel_rfl) H enc
    (ChangeSpec.witness_at (enc := enc) (C := Tryd.checked) (os := os) (X := fun w _ => laidMetH Tryd.prog (Row.laid (H := Unit)) w) false (Row.world os) #[.int .u64 0, .agg #[.int .i64 0, .bool false, .bool false, .bool false, .bool false, .bool false, .bool false, .int .i64 0, .int .u64 0, .int .i64 0, .int .u64 0, .int .i64 0, .int .i64 0, .int .i64 0, .int .i64 0, .int .i64 0], .int .i64 0] 8 rfl (by kernel_rfl) (by kernel_rfl) (by kernel_rfl) (by kernel_rfl) (by kernel_rfl) (Row.met os _))
    bpduGoes_walk

theorem bpduGoes_said : Rows.BpduGoesSaid :=
  OpenClaim.holds_of_wide 8 Tryd.f8 rfl rfl rfl rfl rfl rfl rfl ⟨rfl, rfl, rfl, rfl, rfl⟩ rfl rfl rfl rfl rfl (by kernel_rfl) Tryd.func8 (by kernel_rfl)
    (of_decide_eq_true (by kernel_rfl)) (by unfold Func.isWrapper; rw [if_neg (of_decide_eq_false (by kernel_rfl))]; exact ⟨rfl, rfl⟩)
    (fun os started H enc _ => bpduGoes_lifted os started H enc)

/-- THE CARD. -/
theorem bpduGoes_card : Rows.BpduGoesCardSaid :=
  Claim7.holds_tied_plain_at .later [] [.handle] true (true, "61a527e199fb1d9030788200f951fc72dfb1bf8a629be732a5b387efafe22e7d") true bpduGoes_said (fun _ h => by cases h) (by kernel_rfl) (fun _ h => by cases h) bpduGoes_row_tie rfl ⟨rfl, rfl⟩ (by kernel_rfl) rfl
    (fun f fn hf hfn => by
      obtain rfl : f = 8 := Option.some.inj ((show Tryd.prog.funcNamed "gangway/gangwaylaw09.BpduGoes" = some 8 by kernel_rfl).symm.trans hf) |>.symm
      obtain rfl : fn = Tryd.f8 := (Option.some.inj (Tryd.func8.symm.trans hfn)).symm
      exact ⟨by kernel_rfl, noStand (by kernel_rfl)⟩)
    (by kernel_rfl)
#print axioms bpduGoes_card
end Go.Proofs.YtefbjefmclhhjaaDoor
