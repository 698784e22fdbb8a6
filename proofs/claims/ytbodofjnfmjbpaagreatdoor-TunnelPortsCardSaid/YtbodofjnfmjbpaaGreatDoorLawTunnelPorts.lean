/- The law TunnelPorts returns true for every input, and its arguments read as before: the tied card, with the condition that the listed variable errors.errorType is as the program's text lays it. -/
import Derived.Test.YtbodofjnfmjbpaaGreatDoorF4
import Derived.Test.YtbodofjnfmjbpaaGreatDoorP1
import Derived.Test.YtbodofjnfmjbpaaGreatDoorRow

namespace Go.Proofs.YtbodofjnfmjbpaaGreatDoor
open Go Eng
set_option linter.unusedVariables false

/-- What is left of the law: plain Lean. -/
def gangwaylaw22_TunnelPorts.Pure : Prop := ∀ a0 : gangwaylaw22_Way, ∀ a1 : gangwaylaw22_Way, ∀ a2 : api_Frame, 0 ≤ a0.Src ∧ a0.Src ≤ 4294967295 → 0 ≤ a0.Dst ∧ a0.Dst ≤ 4294967295 → (-9223372036854775808) ≤ a0.Id ∧ a0.Id ≤ 9223372036854775807 → (-9223372036854775808) ≤ a0.Most ∧ a0.Most ≤ 9223372036854775807 → 0 ≤ a1.Src ∧ a1.Src ≤ 4294967295 → 0 ≤ a1.Dst ∧ a1.Dst ≤ 4294967295 → (-9223372036854775808) ≤ a1.Id ∧ a1.Id ≤ 9223372036854775807 → (-9223372036854775808) ≤ a1.Most ∧ a1.Most ≤ 9223372036854775807 → 0 ≤ a2.Dst ∧ a2.Dst ≤ 18446744073709551615 → 0 ≤ a2.Src ∧ a2.Src ≤ 18446744073709551615 → (-9223372036854775808) ≤ a2.Tag.Pri ∧ a2.Tag.Pri ≤ 9223372036854775807 → (-9223372036854775808) ≤ a2.Tag.Vid ∧ a2.Tag.Vid ≤ 9223372036854775807 → (-9223372036854775808) ≤ a2.Type_ ∧ a2.Type_ ≤ 9223372036854775807 → a2.Body.size ≤ 140737488351232 → ∃ k, gangwaylaw22_TunnelPorts.f k a0 a1 a2 = some true
end Go.Proofs.YtbodofjnfmjbpaaGreatDoor

namespace Go.Proofs.YtbodofjnfmjbpaaGreatDoor
open Go Eng
set_option linter.unusedVariables false
set_option linter.unusedSimpArgs false

theorem pkt_size (src dst id p vni : Nat) (f : api_Frame) (z : ByteArray) (h : L z = pktL src dst id p vni f) : z.size = 50 + f.Body.size := by
  rw [← L_length, h]
  unfold pktL
  rw [ipL_length, udpL_length, vxL_length, frameL_len]
  simp [bare, tag0]; omega

theorem gangwaylaw22_TunnelPorts_pure : gangwaylaw22_TunnelPorts.Pure := by
  intro a0 a1 a2 h1 h2 h3 h4 h5 h6 h7 h8 h9 h10 h11 h12 h13 h14
  refine ⟨2000, ?_⟩
  unfold gangwaylaw22_TunnelPorts.f
  obtain ⟨t, e, z⟩ := cut_spec a2.Body 1400
  rw [show ((1400 : Nat) : Int) = 1400 from rfl] at e
  rw [e, Option.bind_some]
  obtain ⟨s0, d0, i0, m0⟩ := a0
  obtain ⟨s1, d1, i1, m1⟩ := a1
  simp only at h1 h2 h5 h6
  obtain ⟨s0, rfl⟩ : ∃ n : Nat, s0 = n := ⟨s0.toNat, by omega⟩
  obtain ⟨d0, rfl⟩ : ∃ n : Nat, d0 = n := ⟨d0.toNat, by omega⟩
  obtain ⟨s1, rfl⟩ : ∃ n : Nat, s1 = n := ⟨s1.toNat, by omega⟩
  obtain ⟨d1, rfl⟩ : ∃ n : Nat, d1 = n := ⟨d1.toNat, by omega⟩
  by_cases hg : Good (bare ⟨a2.Dst, a2.Src, a2.Tag, a2.Type_, t⟩)
  · obtain ⟨p, ⟨hp1, hp2⟩, hw⟩ := wrap_good _ hg
    obtain ⟨id0, z0, hi0, hz0, e0⟩ := hw s0 d0 5 0 [] i0 1700 (by omega) (by omega) (by omega)
    obtain ⟨id1, z1, hi1, hz1, e1⟩ := hw s1 d1 6 0 [] i1 1700 (by omega) (by omega) (by omega)
    have q0 := pkt_size _ _ _ _ _ _ _ hz0
    have q1 := pkt_size _ _ _ _ _ _ _ hz1
    simp only at q0 q1
    rw [if_neg (by omega)] at e0 e1
    rw [show ((5 : Nat) : Int) = 5 from rfl] at e0
    rw [show ((6 : Nat) : Int) = 6 from rfl] at e1
    have hlen : (vxL 5 (frameL (bare ⟨a2.Dst, a2.Src, a2.Tag, a2.Type_, t⟩))).length ≤ 9000 := by rw [vxL_length, frameL_len]; simp [bare, tag0]; omega
    have hlen1 : (vxL 6 (frameL (bare ⟨a2.Dst, a2.Src, a2.Tag, a2.Type_, t⟩))).length ≤ 9000 := by rw [vxL_length, frameL_len]; simp [bare, tag0]; omega
    obtain ⟨b0, _, t0⟩ := take_spec id0 s0 d0 p hi0 (by omega) (by omega) hp2 _ hlen z0 hz0
    obtain ⟨b1, _, t1⟩ := take_spec id1 s1 d1 p hi1 (by omega) (by omega) hp2 _ hlen1 z1 hz1
    rw [e0, Option.bind_some]
    simp only
    rw [e1, Option.bind_some]
    simp only
    rw [show (((0 : Int) != 0) || ((0 : Int) != 0)) = false from rfl, cond_false, t0, Option.bind_some]
    simp only
    rw [t1, Option.bind_some]
    simp only
    rw [show ((0 : Int) == 0) = true from rfl, beq_self_eq_true, decide_eq_true (by omega : (p : Int) ≥ 49152)]
    simp only [Bool.and_self, cond_true]
    rw [fixed_true]
    rfl
  · have w0 := wrap_bad ⟨a2.Dst, a2.Src, a2.Tag, a2.Type_, t⟩ h9.1 h10.1 (by simp only; omega) hg s0 d0 5 0 [] i0 1700
    have w1 := wrap_bad ⟨a2.Dst, a2.Src, a2.Tag, a2.Type_, t⟩ h9.1 h10.1 (by simp only; omega) hg s1 d1 6 0 [] i1 1700
    rw [w0, Option.bind_some]
    simp only
    rw [w1, Option.bind_some]
    simp only
    rw [show (((220 : Int) != 0) || ((220 : Int) != 0)) = true from rfl, cond_true, show ((220 : Int) == 220) = true from rfl, cond_true, fixed_true]
    rfl
end Go.Proofs.YtbodofjnfmjbpaaGreatDoor

namespace Go.Proofs.YtbodofjnfmjbpaaGreatDoor
open Go Eng Go.RowKit
set_option linter.unusedVariables false

/-- The law's walk, at whatever arguments the row gives. -/
theorem tunnelPorts_walk (W : World) (args : Array Value) (hsz : args.size = Tryz.f6.params.size) (harg : ∀ (j : Nat) t v, Tryz.f6.params[j]? = some t → args[j]? = some v → Arg Tryz.prog W t v) (hx : laidMetH Tryz.prog (Row.laid (H := Unit)) W) :
    Calls Tryz.prog 6 args W fun e w' => e = .returned (.bool true) ∧ Below W.heap.size W w' := by
  rw [Tryz.params6] at hsz harg
  obtain ⟨v0, v1, v2, rfl⟩ := args_three hsz
  obtain ⟨cs0, rfl, h0⟩ := Arg.agg (L := [.int .u32, .int .u32, .int .i64, .int .i64]) 6 Tryz.underlying24 (by kernel_rfl) (harg 0 24 v0 rfl rfl)
  obtain ⟨_, cs0_0, rfl, ⟨x0_0, rfl, wx0_0⟩, h0_0⟩ := LeafAll.cons h0
  obtain ⟨_, cs0_1, rfl, ⟨x0_1, rfl, wx0_1⟩, h0_1⟩ := LeafAll.cons h0_0
  obtain ⟨_, cs0_2, rfl, ⟨x0_2, rfl, wx0_2⟩, h0_2⟩ := LeafAll.cons h0_1
  obtain ⟨_, cs0_3, rfl, ⟨x0_3, rfl, wx0_3⟩, h0_3⟩ := LeafAll.cons h0_2
  obtain rfl := LeafAll.nil h0_3
  obtain ⟨cs1, rfl, h1⟩ := Arg.agg (L := [.int .u32, .int .u32, .int .i64, .int .i64]) 6 Tryz.underlying24 (by kernel_rfl) (harg 1 24 v1 rfl rfl)
  obtain ⟨_, cs1_0, rfl, ⟨x1_0, rfl, wx1_0⟩, h1_0⟩ := LeafAll.cons h1
  obtain ⟨_, cs1_1, rfl, ⟨x1_1, rfl, wx1_1⟩, h1_1⟩ := LeafAll.cons h1_0
  obtain ⟨_, cs1_2, rfl, ⟨x1_2, rfl, wx1_2⟩, h1_2⟩ := LeafAll.cons h1_1
  obtain ⟨_, cs1_3, rfl, ⟨x1_3, rfl, wx1_3⟩, h1_3⟩ := LeafAll.cons h1_2
  obtain rfl := LeafAll.nil h1_3
  obtain ⟨cs2, rfl, h2⟩ := Arg.agg (L := [.int .u64, .int .u64, .bool, .int .i64, .bool, .int .i64, .int .i64, .str]) 6 Tryz.underlying29 (by kernel_rfl) (harg 2 29 v2 rfl rfl)
  obtain ⟨_, cs2_0, rfl, ⟨x2_0, rfl, wx2_0⟩, h2_0⟩ := LeafAll.cons h2
  obtain ⟨_, cs2_1, rfl, ⟨x2_1, rfl, wx2_1⟩, h2_1⟩ := LeafAll.cons h2_0
  obtain ⟨_, cs2_2, rfl, ⟨x2_2, rfl⟩, h2_2⟩ := LeafAll.cons h2_1
  obtain ⟨_, cs2_3, rfl, ⟨x2_3, rfl, wx2_3⟩, h2_3⟩ := LeafAll.cons h2_2
  obtain ⟨_, cs2_4, rfl, ⟨x2_4, rfl⟩, h2_4⟩ := LeafAll.cons h2_3
  obtain ⟨_, cs2_5, rfl, ⟨x2_5, rfl, wx2_5⟩, h2_5⟩ := LeafAll.cons h2_4
  obtain ⟨_, cs2_6, rfl, ⟨x2_6, rfl, wx2_6⟩, h2_6⟩ := LeafAll.cons h2_5
  obtain ⟨_, cs2_7, rfl, ⟨x2_7, rfl, wx2_7⟩, h2_7⟩ := LeafAll.cons h2_6
  obtain rfl := LeafAll.nil h2_7
  obtain ⟨k, hk⟩ := gangwaylaw22_TunnelPorts_pure (gangwaylaw22_Way.mk x0_0 x0_1 x0_2 x0_3) (gangwaylaw22_Way.mk x1_0 x1_1 x1_2 x1_3) (api_Frame.mk x2_0 x2_1 (api_Tag.mk x2_2 x2_3 x2_4 x2_5) x2_6 x2_7) (Eng.wf_u32 wx0_0) (Eng.wf_u32 wx0_1) (Eng.wf_i64 wx0_2) (Eng.wf_i64 wx0_3) (Eng.wf_u32 wx1_0) (Eng.wf_u32 wx1_1) (Eng.wf_i64 wx1_2) (Eng.wf_i64 wx1_3) (Eng.wf_u64 wx2_0) (Eng.wf_u64 wx2_1) (Eng.wf_i64 wx2_3) (Eng.wf_i64 wx2_5) (Eng.wf_i64 wx2_6) wx2_7
  exact (gangwaylaw22_TunnelPorts_calls k (gangwaylaw22_Way.mk x0_0 x0_1 x0_2 x0_3) (gangwaylaw22_Way.mk x1_0 x1_1 x1_2 x1_3) (api_Frame.mk x2_0 x2_1 (api_Tag.mk x2_2 x2_3 x2_4 x2_5) x2_6 x2_7) true hk W ⟨[], fun _ => True⟩ (Row.start hx)).mono fun e w' ⟨he, hs⟩ => ⟨he, hs.below⟩

set_option maxRecDepth 100000 in
theorem tunnelPorts_lifted (os : Os) (started : os.Started) (H : Type) (enc : TypeId × Value → H) :
    ReturnsInHanded {} Tryz.checked os 6 .any (fun w args => (Rows.tunnelPortsSpec.pre enc Tryz.prog Tryz.f6 [] false w args ∧ laidMetH Tryz.prog (Row.laid (H := Unit)) w) ∧ sizedMet enc Tryz.prog Tryz.f6 (OpenSpec.ofChange Rows.tunnelPortsSpec) false w args)
      (Rows.tunnelPortsSpec.post enc Tryz.prog Tryz.f6 false true false false) :=
  lift_law (C := Tryz.checked) (X := fun w => laidMetH Tryz.prog (Row.laid (H := Unit)) w) 4 (fun _ _ hh h => h.of_heap hh) Row.own started (by kernel_rfl) Tryz.func6 rfl
    (fun H ds hds => by
      rcases ds with _ | ⟨d0, ds⟩
      · cases hds
      ·
        rcases ds with _ | ⟨d1, ds⟩
        · cases hds
        ·
          rcases ds with _ | ⟨d2, ds⟩
          · cases hds
          ·
            rcases ds with _ | ⟨d3, ds⟩
            · rfl
            · cases hds)
    (by kernel_rfl) (by kernel_rfl) Row.laidOut (by kernel_rfl) H enc
    (ChangeSpec.witness_at (enc := enc) (C := Tryz.checked) (os := os) (X := fun w _ => laidMetH Tryz.prog (Row.laid (H := Unit)) w) false (Row.world os) #[.agg #[.int .u32 0, .int .u32 0, .int .i64 0, .int .i64 0], .agg #[.int .u32 0, .int .u32 0, .int .i64 0, .int .i64 0], .agg #[.int .u64 0, .int .u64 0, .bool false, .int .i64 0, .bool false, .int .i64 0, .int .i64 0, .string ByteArray.empty]] 8 rfl (by kernel_rfl) (by kernel_rfl) (by kernel_rfl) (by kernel_rfl) (by kernel_rfl) (Row.met os _))
    tunnelPorts_walk

theorem tunnelPorts_said : Rows.TunnelPortsSaid :=
  OpenClaim.holds_of_wide 6 Tryz.f6 rfl rfl rfl rfl rfl rfl rfl ⟨rfl, rfl, rfl, rfl, rfl⟩ rfl rfl rfl rfl rfl (by kernel_rfl) Tryz.func6 (by kernel_rfl)
    (of_decide_eq_true (by kernel_rfl)) (by unfold Func.isWrapper; rw [if_neg (of_decide_eq_false (by kernel_rfl))]; exact ⟨rfl, rfl⟩)
    (fun os started H enc _ => tunnelPorts_lifted os started H enc)

/-- THE CARD. -/
theorem tunnelPorts_card : Rows.TunnelPortsCardSaid :=
  Claim7.holds_tied_plain_at .later [] [.handle] true (true, "f5df218c9da7bd62c8a5d0a56536dceb6ae5f80aa717339b778d03be3fbb3b64") true tunnelPorts_said (fun _ h => by cases h) (by kernel_rfl) (fun _ h => by cases h) tunnelPorts_row_tie rfl ⟨rfl, rfl⟩ (by kernel_rfl) rfl
    (fun f fn hf hfn => by
      obtain rfl : f = 6 := Option.some.inj ((show Tryz.prog.funcNamed "gangway/gangwaylaw22.TunnelPorts" = some 6 by kernel_rfl).symm.trans hf) |>.symm
      obtain rfl : fn = Tryz.f6 := (Option.some.inj (Tryz.func6.symm.trans hfn)).symm
      exact ⟨by kernel_rfl, noStand (by kernel_rfl)⟩)
    (by kernel_rfl)
#print axioms tunnelPorts_card
end Go.Proofs.YtbodofjnfmjbpaaGreatDoor
