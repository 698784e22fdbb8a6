/- The law TunnelStranger returns true for every input, and its arguments read as before: the tied card, with the condition that the listed variable errors.errorType is as the program's text lays it. -/
import Derived.Test.YtbodofjnfmjbpaaGreatDoorF5
import Derived.Test.YtbodofjnfmjbpaaGreatDoorP1
import Derived.Test.YtbodofjnfmjbpaaGreatDoorRow

namespace Go.Proofs.YtbodofjnfmjbpaaGreatDoor
open Go Eng
set_option linter.unusedVariables false

/-- What is left of the law: plain Lean. -/
def gangwaylaw22_TunnelStranger.Pure : Prop := ∀ a0 : Int, ∀ a1 : Int, ∀ a2 : api_Udp, 0 ≤ a0 ∧ a0 ≤ 4294967295 → (-9223372036854775808) ≤ a1 ∧ a1 ≤ 9223372036854775807 → (-9223372036854775808) ≤ a2.Src ∧ a2.Src ≤ 9223372036854775807 → (-9223372036854775808) ≤ a2.Dst ∧ a2.Dst ≤ 9223372036854775807 → a2.Body.size ≤ 140737488351232 → ∃ k, gangwaylaw22_TunnelStranger.f k a0 a1 a2 = some true
end Go.Proofs.YtbodofjnfmjbpaaGreatDoor

namespace Go.Proofs.YtbodofjnfmjbpaaGreatDoor
open Go Eng
set_option linter.unusedVariables false
set_option linter.unusedSimpArgs false

theorem u32_range (n : Int) : 0 ≤ u32 n ∧ u32 n < 4294967296 := by
  simp [u32, IntKind.wrap, IntKind.bits, IntKind.signed]; omega
theorem u32_id {n : Int} (h : 0 ≤ n ∧ n < 4294967296) : u32 n = n := by
  simp [u32, IntKind.wrap, IntKind.bits, IntKind.signed]; omega

theorem xor2_ne (p : Int) (h : 0 ≤ p ∧ p < 4294967296) : bXor .u32 p 2 ≠ p := by
  intro e
  obtain ⟨n, rfl⟩ : ∃ n : Nat, p = n := ⟨p.toNat, by omega⟩
  have h1 : bXor .u32 (n : Int) 2 = (((BitVec.ofNat 32 n ^^^ 2#32).toNat : Nat) : Int) := by
    show IntKind.u32.wrap ((BitVec.ofInt 32 n ^^^ BitVec.ofInt 32 2).toNat : Int) = _
    rw [BitVec.ofInt_natCast]
    have hlt := (BitVec.ofNat 32 n ^^^ BitVec.ofInt 32 2).isLt
    exact u32_id ⟨by omega, by omega⟩
  rw [h1] at e
  have e2 : (BitVec.ofNat 32 n ^^^ 2#32).toNat = n := by omega
  have e3 : BitVec.ofNat 32 n ^^^ 2#32 = BitVec.ofNat 32 n := BitVec.eq_of_toNat_eq (by rw [e2, BitVec.toNat_ofNat, Nat.mod_eq_of_lt (by omega)])
  have e4 : BitVec.ofNat 32 n ^^^ (BitVec.ofNat 32 n ^^^ 2#32) = BitVec.ofNat 32 n ^^^ BitVec.ofNat 32 n := by rw [e3]
  rw [← BitVec.xor_assoc, BitVec.xor_self, BitVec.zero_xor] at e4
  exact absurd e4 (by decide)

theorem same_zero : (((frame0.Dst == 0) && ((frame0.Src == 0) && (((frame0.Tag.Has == false) && ((frame0.Tag.Pri == 0) && ((frame0.Tag.Dei == false) && ((frame0.Tag.Vid == 0) && true)))) && ((frame0.Type_ == 0) && ((frame0.Body == (⟨#[]⟩ : ByteArray)) && true)))))) = true := by
  simp [frame0, tag0, bytes_refl]

theorem gangwaylaw22_TunnelStranger_pure : gangwaylaw22_TunnelStranger.Pure := by
  intro a0 a1 a2 h0 h1 h2 h3 h4
  refine ⟨2000, ?_⟩
  unfold gangwaylaw22_TunnelStranger.f
  obtain ⟨t, e, z⟩ := cut_spec a2.Body 1700
  rw [show ((1700 : Nat) : Int) = 1700 from rfl] at e
  rw [e, Option.bind_some]
  have hp : 0 ≤ bOr .u32 a0 1 ∧ bOr .u32 a0 1 < 4294967296 := u32_range _
  generalize bOr .u32 a0 1 = p at hp
  have hq := xor2_ne p hp
  generalize bXor .u32 p 2 = q at hq
  generalize bAnd .i64 a1 16777215 = n
  rw [unwrap_spec _ _ _ (by simp) (by simp) (by simp only; omega), Option.bind_some]
  simp only
  rw [unwrap_spec _ _ _ (by simp) (by simp) (by simp only; omega), Option.bind_some]
  simp only
  rw [unwrap_spec _ _ _ (by simp) (by simp) (by simp only; omega), Option.bind_some]
  simp only [unwR]
  generalize vxR t = x
  obtain ⟨v, s, c⟩ := x
  simp only
  have hby0 : byR [] v = (seg0, false) := rfl
  have hby : byR [⟨5, n, [p]⟩] v = if n = v then (⟨5, n, [p]⟩, true) else (seg0, false) := by
    unfold byR
    simp only [List.find?_cons, List.find?_nil]
    by_cases hn : n = v
    · rw [show (n == v) = true by simp [hn], if_pos hn]
    · rw [show (n == v) = false by simp [hn], if_neg hn]
  have k2 : ∀ x, x = true → gangwaylaw22_TunnelStranger.k2 2000 x = some true := fun x hx => by
    subst hx
    unfold gangwaylaw22_TunnelStranger.k2
    rw [cond_true, fixed_true]; rfl
  have k3 : ∀ x, x = true → gangwaylaw22_TunnelStranger.k3 2000 frame0 x = some true := fun x hx => by
    subst hx
    unfold gangwaylaw22_TunnelStranger.k3
    rw [cond_true]
    exact k2 _ same_zero
  have k5 : ∀ x, x = true → gangwaylaw22_TunnelStranger.k5 2000 x = some true := fun x hx => by
    subst hx
    unfold gangwaylaw22_TunnelStranger.k5
    rw [cond_true, fixed_true]; rfl
  have k7 : ∀ (b x : Int) (y : Bool), y = true → (b = 1 ∨ b = 2) → gangwaylaw22_TunnelStranger.k7 b b 2000 b frame0 y = some true := fun b x y hy hb => by
    subst hy
    unfold gangwaylaw22_TunnelStranger.k7
    rw [cond_true, same_zero]
    unfold gangwaylaw22_TunnelStranger.k6
    rw [show (true && (b == b)) = true by simp, cond_true]
    exact k5 _ (by rcases hb with rfl | rfl <;> rfl)
  by_cases hc : c = 0
  · subst hc
    rw [hby0, hby]
    simp only [ne_eq, not_true_eq_false, if_false]
    by_cases hn : n = v
    · rw [if_pos hn]
      subst hn
      have hpp : peerR [⟨5, n, [p]⟩] n p = true := by unfold peerR; rw [hby, if_pos rfl]; simp
      have hpq : peerR [⟨5, n, [p]⟩] n q = false := by unfold peerR; rw [hby, if_pos rfl]; simp [hq]
      rw [hpp, hpq]
      simp only [Bool.true_eq_false, if_false, if_true]
      by_cases hz : (parseR s).2 = 0 ∧ (parseR s).1.Tag.Has = false
      · rw [if_pos hz]
        simp only
        rw [show (((0 : Int) == 0) || ((0 : Int) == 4)) = true from rfl, cond_true, show (((3 : Int) == 3) && ((2 : Int) == 2)) = true from rfl, cond_true]
        exact k3 _ same_zero
      · rw [if_neg hz]
        simp only
        rw [show (((4 : Int) == 0) || ((4 : Int) == 4)) = true from rfl, cond_true, show (((3 : Int) == 3) && ((2 : Int) == 2)) = true from rfl, cond_true]
        exact k3 _ same_zero
    · rw [if_neg hn]
      simp only [if_true]
      rw [show (((2 : Int) == 0) || ((2 : Int) == 4)) = false from rfl, cond_false, same_zero, cond_true]
      exact k7 2 2 _ rfl (.inr rfl)
  · simp only [ne_eq, hc, not_false_eq_true, if_true]
    rw [show (((1 : Int) == 0) || ((1 : Int) == 4)) = false from rfl, cond_false, same_zero, cond_true]
    exact k7 1 1 _ rfl (.inl rfl)
end Go.Proofs.YtbodofjnfmjbpaaGreatDoor

namespace Go.Proofs.YtbodofjnfmjbpaaGreatDoor
open Go Eng Go.RowKit
set_option linter.unusedVariables false

/-- The law's walk, at whatever arguments the row gives. -/
theorem tunnelStranger_walk (W : World) (args : Array Value) (hsz : args.size = Tryz.f7.params.size) (harg : ∀ (j : Nat) t v, Tryz.f7.params[j]? = some t → args[j]? = some v → Arg Tryz.prog W t v) (hx : laidMetH Tryz.prog (Row.laid (H := Unit)) W) :
    Calls Tryz.prog 7 args W fun e w' => e = .returned (.bool true) ∧ Below W.heap.size W w' := by
  rw [Tryz.params7] at hsz harg
  obtain ⟨v0, v1, v2, rfl⟩ := args_three hsz
  obtain ⟨x0, rfl, wx0⟩ := Arg.int Tryz.underlying22 (harg 0 22 v0 rfl rfl)
  obtain ⟨x1, rfl, wx1⟩ := Arg.int Tryz.underlying3 (harg 1 3 v1 rfl rfl)
  obtain ⟨cs2, rfl, h2⟩ := Arg.agg (L := [.int .i64, .int .i64, .bool, .str]) 6 Tryz.underlying40 (by kernel_rfl) (harg 2 40 v2 rfl rfl)
  obtain ⟨_, cs2_0, rfl, ⟨x2_0, rfl, wx2_0⟩, h2_0⟩ := LeafAll.cons h2
  obtain ⟨_, cs2_1, rfl, ⟨x2_1, rfl, wx2_1⟩, h2_1⟩ := LeafAll.cons h2_0
  obtain ⟨_, cs2_2, rfl, ⟨x2_2, rfl⟩, h2_2⟩ := LeafAll.cons h2_1
  obtain ⟨_, cs2_3, rfl, ⟨x2_3, rfl, wx2_3⟩, h2_3⟩ := LeafAll.cons h2_2
  obtain rfl := LeafAll.nil h2_3
  obtain ⟨k, hk⟩ := gangwaylaw22_TunnelStranger_pure x0 x1 (api_Udp.mk x2_0 x2_1 x2_2 x2_3) (Eng.wf_u32 wx0) (Eng.wf_i64 wx1) (Eng.wf_i64 wx2_0) (Eng.wf_i64 wx2_1) wx2_3
  exact (gangwaylaw22_TunnelStranger_calls k x0 x1 (api_Udp.mk x2_0 x2_1 x2_2 x2_3) true hk W ⟨[], fun _ => True⟩ (Row.start hx)).mono fun e w' ⟨he, hs⟩ => ⟨he, hs.below⟩

set_option maxRecDepth 100000 in
theorem tunnelStranger_lifted (os : Os) (started : os.Started) (H : Type) (enc : TypeId × Value → H) :
    ReturnsInHanded {} Tryz.checked os 7 .any (fun w args => (Rows.tunnelStrangerSpec.pre enc Tryz.prog Tryz.f7 [] false w args ∧ laidMetH Tryz.prog (Row.laid (H := Unit)) w) ∧ sizedMet enc Tryz.prog Tryz.f7 (OpenSpec.ofChange Rows.tunnelStrangerSpec) false w args)
      (Rows.tunnelStrangerSpec.post enc Tryz.prog Tryz.f7 false true false false) :=
  lift_law (C := Tryz.checked) (X := fun w => laidMetH Tryz.prog (Row.laid (H := Unit)) w) 4 (fun _ _ hh h => h.of_heap hh) Row.own started (by kernel_rfl) Tryz.func7 rfl
    (fun H ds hds => by
      rcases ds with _ | ⟨d0, ds⟩
      · cases hds
      ·
        rcases ds with _ | ⟨d1, ds⟩
        · cases hds
        ·
          rcases ds with _ | ⟨d2, ds⟩
          · cases hds
          ·
            rcases ds with _ | ⟨d3, ds⟩
            · rfl
            · cases hds)
    (by kernel_rfl) (by kernel_rfl) Row.laidOut (by kernel_rfl) H enc
    (ChangeSpec.witness_at (enc := enc) (C := Tryz.checked) (os := os) (X := fun w _ => laidMetH Tryz.prog (Row.laid (H := Unit)) w) false (Row.world os) #[.int .u32 0, .int .i64 0, .agg #[.int .i64 0, .int .i64 0, .bool false, .string ByteArray.empty]] 8 rfl (by kernel_rfl) (by kernel_rfl) (by kernel_rfl) (by kernel_rfl) (by kernel_rfl) (Row.met os _))
    tunnelStranger_walk

theorem tunnelStranger_said : Rows.TunnelStrangerSaid :=
  OpenClaim.holds_of_wide 7 Tryz.f7 rfl rfl rfl rfl rfl rfl rfl ⟨rfl, rfl, rfl, rfl, rfl⟩ rfl rfl rfl rfl rfl (by kernel_rfl) Tryz.func7 (by kernel_rfl)
    (of_decide_eq_true (by kernel_rfl)) (by unfold Func.isWrapper; rw [if_neg (of_decide_eq_false (by kernel_rfl))]; exact ⟨rfl, rfl⟩)
    (fun os started H enc _ => tunnelStranger_lifted os started H enc)

/-- THE CARD. -/
theorem tunnelStranger_card : Rows.TunnelStrangerCardSaid :=
  Claim7.holds_tied_plain_at .later [] [.handle] true (true, "f5df218c9da7bd62c8a5d0a56536dceb6ae5f80aa717339b778d03be3fbb3b64") true tunnelStranger_said (fun _ h => by cases h) (by kernel_rfl) (fun _ h => by cases h) tunnelStranger_row_tie rfl ⟨rfl, rfl⟩ (by kernel_rfl) rfl
    (fun f fn hf hfn => by
      obtain rfl : f = 7 := Option.some.inj ((show Tryz.prog.funcNamed "gangway/gangwaylaw22.TunnelStranger" = some 7 by kernel_rfl).symm.trans hf) |>.symm
      obtain rfl : fn = Tryz.f7 := (Option.some.inj (Tryz.func7.symm.trans hfn)).symm
      exact ⟨by kernel_rfl, noStand (by kernel_rfl)⟩)
    (by kernel_rfl)
#print axioms tunnelStranger_card
end Go.Proofs.YtbodofjnfmjbpaaGreatDoor
