/- The law TunnelUnwraps returns true for every input, and its arguments read as before: the tied card, with the condition that the listed variable errors.errorType is as the program's text lays it. -/
import Derived.Test.YtbodofjnfmjbpaaGreatDoorF5
import Derived.Test.YtbodofjnfmjbpaaGreatDoorP1
import Derived.Test.YtbodofjnfmjbpaaGreatDoorRow

namespace Go.Proofs.YtbodofjnfmjbpaaGreatDoor
open Go Eng
set_option linter.unusedVariables false

/-- What is left of the law: plain Lean. -/
def gangwaylaw22_TunnelUnwraps.Pure : Prop := ∀ a0 : (List api_Seg), ∀ a1 : Int, ∀ a2 : api_Udp, Ok38 a0 → 0 ≤ a1 ∧ a1 ≤ 4294967295 → (-9223372036854775808) ≤ a2.Src ∧ a2.Src ≤ 9223372036854775807 → (-9223372036854775808) ≤ a2.Dst ∧ a2.Dst ≤ 9223372036854775807 → a2.Body.size ≤ 140737488351232 → ∃ k, gangwaylaw22_TunnelUnwraps.f k a0 a1 a2 = some true
end Go.Proofs.YtbodofjnfmjbpaaGreatDoor

namespace Go.Proofs.YtbodofjnfmjbpaaGreatDoor
open Go Eng
set_option linter.unusedVariables false
set_option linter.unusedSimpArgs false

theorem gangwaylaw22_TunnelUnwraps_pure : gangwaylaw22_TunnelUnwraps.Pure := by
  intro a0 a1 a2 h0 h1 h2 h3 h4
  refine ⟨2000, ?_⟩
  unfold gangwaylaw22_TunnelUnwraps.f
  obtain ⟨l, el, hl, hp⟩ := bound_spec a0
  obtain ⟨t, e, z⟩ := cut_spec a2.Body 1700
  rw [show ((1700 : Nat) : Int) = 1700 from rfl] at e
  have hp' : ∀ s ∈ l, s.Peers.length ≤ 1000 := fun s hs => Nat.le_trans (hp s hs) (by decide)
  rw [el, Option.bind_some, e, Option.bind_some, unwrap_spec l a1 _ (by omega) hp' (by simp only; omega), Option.bind_some]
  simp only
  rw [runwrap_spec l a1 _ (by omega) hp', Option.bind_some]
  simp only
  rw [fixed_true, Option.bind_some, cond_true]
  have hpl : (unwR l a1 t).1.Peers.length ≤ 1000 := by
    have hby : ∀ n, (byR l n).1.Peers.length ≤ 1000 := fun n => by
      unfold byR
      cases hf : l.find? (fun s => s.Vni == n) with
      | none => simp [seg0]
      | some s => exact hp' s (List.mem_of_find?_eq_some hf)
    unfold unwR
    split
    · simp [seg0]
    · split
      · simp [seg0]
      · split
        · simp [seg0]
        · split
          · exact hby _
          · simp [seg0]
  generalize unwR l a1 t = y at hpl
  obtain ⟨g, f, c⟩ := y
  simp only at hpl ⊢
  rw [same_spec _ _ _ hpl, Option.bind_some]
  unfold gangwaylaw22_TunnelUnwraps.k2
  rw [cond_true, same_frame]
  unfold gangwaylaw22_TunnelUnwraps.k1
  simp
end Go.Proofs.YtbodofjnfmjbpaaGreatDoor

namespace Go.Proofs.YtbodofjnfmjbpaaGreatDoor
open Go Eng Go.RowKit
set_option linter.unusedVariables false

/-- The law's walk, at whatever arguments the row gives. -/
theorem tunnelUnwraps_walk (W : World) (args : Array Value) (hsz : args.size = Tryz.f4.params.size) (harg : ∀ (j : Nat) t v, Tryz.f4.params[j]? = some t → args[j]? = some v → Arg Tryz.prog W t v) (hx : laidMetH Tryz.prog (Row.laid (H := Unit)) W) :
    Calls Tryz.prog 4 args W fun e w' => e = .returned (.bool true) ∧ Below W.heap.size W w' := by
  rw [Tryz.params4] at hsz harg
  obtain ⟨v0, v1, v2, rfl⟩ := args_three hsz
  obtain ⟨x0, s0, hv0, k0, q0⟩ := Arg.sl (e := 35) (by kernel_rfl) (dec38 W) (harg 0 38 v0 rfl rfl)
  obtain rfl := (List.cons.inj hv0).1
  obtain ⟨x1, rfl, wx1⟩ := Arg.int Tryz.underlying22 (harg 1 22 v1 rfl rfl)
  obtain ⟨cs2, rfl, h2⟩ := Arg.agg (L := [.int .i64, .int .i64, .bool, .str]) 6 Tryz.underlying40 (by kernel_rfl) (harg 2 40 v2 rfl rfl)
  obtain ⟨_, cs2_0, rfl, ⟨x2_0, rfl, wx2_0⟩, h2_0⟩ := LeafAll.cons h2
  obtain ⟨_, cs2_1, rfl, ⟨x2_1, rfl, wx2_1⟩, h2_1⟩ := LeafAll.cons h2_0
  obtain ⟨_, cs2_2, rfl, ⟨x2_2, rfl⟩, h2_2⟩ := LeafAll.cons h2_1
  obtain ⟨_, cs2_3, rfl, ⟨x2_3, rfl, wx2_3⟩, h2_3⟩ := LeafAll.cons h2_2
  obtain rfl := LeafAll.nil h2_3
  obtain ⟨k, hk⟩ := gangwaylaw22_TunnelUnwraps_pure x0 x1 (api_Udp.mk x2_0 x2_1 x2_2 x2_3) q0 (Eng.wf_u32 wx1) (Eng.wf_i64 wx2_0) (Eng.wf_i64 wx2_1) wx2_3
  exact (gangwaylaw22_TunnelUnwraps_calls k s0 x0 x1 (api_Udp.mk x2_0 x2_1 x2_2 x2_3) true hk W ⟨[], fun _ => True⟩ (Sat.add (Row.start hx) k0 (fun w' h => (Up.row up35) x0 s0 W w' h k0))).mono fun e w' ⟨he, hs⟩ => ⟨he, hs.below⟩

set_option maxRecDepth 100000 in
theorem tunnelUnwraps_lifted (os : Os) (started : os.Started) (H : Type) (enc : TypeId × Value → H) :
    ReturnsInHanded {} Tryz.checked os 4 .any (fun w args => (Rows.tunnelUnwrapsSpec.pre enc Tryz.prog Tryz.f4 [] false w args ∧ laidMetH Tryz.prog (Row.laid (H := Unit)) w) ∧ sizedMet enc Tryz.prog Tryz.f4 (OpenSpec.ofChange Rows.tunnelUnwrapsSpec) false w args)
      (Rows.tunnelUnwrapsSpec.post enc Tryz.prog Tryz.f4 false true false false) :=
  lift_law (C := Tryz.checked) (X := fun w => laidMetH Tryz.prog (Row.laid (H := Unit)) w) 4 (fun _ _ hh h => h.of_heap hh) Row.own started (by kernel_rfl) Tryz.func4 rfl
    (fun H ds hds => by
      rcases ds with _ | ⟨d0, ds⟩
      · cases hds
      ·
        rcases ds with _ | ⟨d1, ds⟩
        · cases hds
        ·
          rcases ds with _ | ⟨d2, ds⟩
          · cases hds
          ·
            rcases ds with _ | ⟨d3, ds⟩
            · rfl
            · cases hds)
    (by kernel_rfl) (by kernel_rfl) Row.laidOut (by kernel_rfl) H enc
    (ChangeSpec.witness_at (enc := enc) (C := Tryz.checked) (os := os) (X := fun w _ => laidMetH Tryz.prog (Row.laid (H := Unit)) w) false (Row.world os) #[.slice none 0 0, .int .u32 0, .agg #[.int .i64 0, .int .i64 0, .bool false, .string ByteArray.empty]] 8 rfl (by kernel_rfl) (by kernel_rfl) (by kernel_rfl) (by kernel_rfl) (by kernel_rfl) (Row.met os _))
    tunnelUnwraps_walk

theorem tunnelUnwraps_said : Rows.TunnelUnwrapsSaid :=
  OpenClaim.holds_of_wide 4 Tryz.f4 rfl rfl rfl rfl rfl rfl rfl ⟨rfl, rfl, rfl, rfl, rfl⟩ rfl rfl rfl rfl rfl (by kernel_rfl) Tryz.func4 (by kernel_rfl)
    (of_decide_eq_true (by kernel_rfl)) (by unfold Func.isWrapper; rw [if_neg (of_decide_eq_false (by kernel_rfl))]; exact ⟨rfl, rfl⟩)
    (fun os started H enc _ => tunnelUnwraps_lifted os started H enc)

/-- THE CARD. -/
theorem tunnelUnwraps_card : Rows.TunnelUnwrapsCardSaid :=
  Claim7.holds_tied_plain_at .later [] [.handle] true (true, "f5df218c9da7bd62c8a5d0a56536dceb6ae5f80aa717339b778d03be3fbb3b64") true tunnelUnwraps_said (fun _ h => by cases h) (by kernel_rfl) (fun _ h => by cases h) tunnelUnwraps_row_tie rfl ⟨rfl, rfl⟩ (by kernel_rfl) rfl
    (fun f fn hf hfn => by
      obtain rfl : f = 4 := Option.some.inj ((show Tryz.prog.funcNamed "gangway/gangwaylaw22.TunnelUnwraps" = some 4 by kernel_rfl).symm.trans hf) |>.symm
      obtain rfl : fn = Tryz.f4 := (Option.some.inj (Tryz.func4.symm.trans hfn)).symm
      exact ⟨by kernel_rfl, noStand (by kernel_rfl)⟩)
    (by kernel_rfl)
#print axioms tunnelUnwraps_card
end Go.Proofs.YtbodofjnfmjbpaaGreatDoor
