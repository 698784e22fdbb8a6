/- The law TunnelWraps returns true for every input, and its arguments read as before: the tied card, with the condition that the listed variable errors.errorType is as the program's text lays it. -/
import Derived.Test.YtbodofjnfmjbpaaGreatDoorF5
import Derived.Test.YtbodofjnfmjbpaaGreatDoorP1
import Derived.Test.YtbodofjnfmjbpaaGreatDoorRow

namespace Go.Proofs.YtbodofjnfmjbpaaGreatDoor
open Go Eng
set_option linter.unusedVariables false

/-- What is left of the law: plain Lean. -/
def gangwaylaw22_TunnelWraps.Pure : Prop := ∀ a0 : gangwaylaw22_Way, ∀ a1 : Int, ∀ a2 : api_Frame, 0 ≤ a0.Src ∧ a0.Src ≤ 4294967295 → 0 ≤ a0.Dst ∧ a0.Dst ≤ 4294967295 → (-9223372036854775808) ≤ a0.Id ∧ a0.Id ≤ 9223372036854775807 → (-9223372036854775808) ≤ a0.Most ∧ a0.Most ≤ 9223372036854775807 → (-9223372036854775808) ≤ a1 ∧ a1 ≤ 9223372036854775807 → 0 ≤ a2.Dst ∧ a2.Dst ≤ 18446744073709551615 → 0 ≤ a2.Src ∧ a2.Src ≤ 18446744073709551615 → (-9223372036854775808) ≤ a2.Tag.Pri ∧ a2.Tag.Pri ≤ 9223372036854775807 → (-9223372036854775808) ≤ a2.Tag.Vid ∧ a2.Tag.Vid ≤ 9223372036854775807 → (-9223372036854775808) ≤ a2.Type_ ∧ a2.Type_ ≤ 9223372036854775807 → a2.Body.size ≤ 140737488351232 → ∃ k, gangwaylaw22_TunnelWraps.f k a0 a1 a2 = some true
end Go.Proofs.YtbodofjnfmjbpaaGreatDoor

namespace Go.Proofs.YtbodofjnfmjbpaaGreatDoor
open Go Eng
set_option linter.unusedVariables false
set_option linter.unusedSimpArgs false

/-- The program's answer is the document's. -/
theorem wrap_ref (f : api_Frame) (h1 : 0 ≤ f.Dst ∧ f.Dst ≤ 18446744073709551615) (h2 : 0 ≤ f.Src ∧ f.Src ≤ 18446744073709551615) (hb : f.Body.size ≤ 140737488351232) (src dst : Nat) (hs : src < 4294967296) (hd : dst < 4294967296) (vid vni : Int) (ps : List Int) (id most : Int) :
    ∃ x, tunnel_Wrap.f 2000 src dst vid vni ps f id most = some x ∧ gangwayref22_Wrap.f 2000 src dst vid vni ps f id most = some x := by
  by_cases hg : Good (bare f)
  · have hfl := frameL_len (bare f)
    have hsz := hg.size
    simp only [bare, tag0, Bool.false_eq_true, if_false] at hfl hsz
    have hz : (⟨(frameL (bare f)).toArray⟩ : ByteArray).size = 14 + f.Body.size := by rw [mk_size]; simp only [bare, tag0]; exact hfl
    have hbr : ether_Bare.f f = some (bare f) := rfl
    have hr : gangwayref04_Build.f 2000 ⟨f.Dst, f.Src, ⟨false, 0, false, 0⟩, f.Type_, f.Body⟩ = some (⟨(frameL (bare f)).toArray⟩, 0) := ref_build_good (bare f) hg
    unfold tunnel_Wrap.f gangwayref22_Wrap.f
    rw [hbr, Option.bind_some, build_good _ hg, Option.bind_some, hr, Option.bind_some]
    simp only
    rw [show ((0 : Int) != 0) = false from rfl, cond_false, cond_false]
    by_cases hv : 0 ≤ vni ∧ vni ≤ 16777215
    · obtain ⟨n, rfl⟩ : ∃ n : Nat, vni = n := ⟨vni.toNat, by omega⟩
      obtain ⟨v, ev, lv⟩ := vbuild_good (n : Int) n rfl (by omega) ⟨(frameL (bare f)).toArray⟩ (by omega)
      obtain ⟨v', ev', lv'⟩ := rvx_good (n : Int) n rfl (by omega) ⟨(frameL (bare f)).toArray⟩ (by omega)
      obtain rfl : v' = v := L_inj (lv'.trans lv.symm)
      have hvz : v'.size = 22 + f.Body.size := by
        rw [← L_length, lv, vxL_length]
        have := mk_size (frameL (bare f))
        rw [L_length]
        omega
      obtain ⟨p, hp, _, hp2⟩ := port_spec ⟨(frameL (bare f)).toArray⟩
      rw [ev, Option.bind_some, ev', Option.bind_some]
      simp only
      rw [show ((0 : Int) != 0) = false from rfl, cond_false, cond_false, hp, Option.bind_some, rport, hp, Option.bind_some]
      obtain ⟨u, eu, lu⟩ := ubuild_good (src : Int) (dst : Int) p hp2 v' (by omega)
      obtain ⟨u', eu', lu'⟩ := rudp_good src dst hs hd p hp2 v' (by omega)
      obtain rfl : u' = u := L_inj (lu'.trans lu.symm)
      have huz : u'.size = 30 + f.Body.size := by rw [← L_length, lu, udpL_length, L_length]; omega
      obtain ⟨idN, hid, hidl⟩ := id_range id
      obtain ⟨z, ez, lz⟩ := ibuild_good idN src dst hidl hs hd u' (by omega)
      obtain ⟨z', ez', lz'⟩ := rip_good idN src dst hidl hs hd u' (by omega)
      obtain rfl : z' = z := L_inj (lz'.trans lz.symm)
      have hzz : z'.size = 20 + u'.size := by rw [← L_length, lz, ipL_length, L_length]
      unfold station_Make.f gangwayref20_Make.f
      rw [eu, Option.bind_some, eu', Option.bind_some]
      simp only
      rw [show ((0 : Int) != 0) = false from rfl, cond_false, cond_false, hid, ez, Option.bind_some, ez', Option.bind_some]
      simp only
      rw [show ((0 : Int) != 0) = false from rfl, Bool.false_or, i64_id (by omega), show (20 + (u'.size : Int)) = (z'.size : Int) by omega]
      by_cases hm : (z'.size : Int) > most
      · rw [decide_eq_true hm]; exact ⟨_, rfl, rfl⟩
      · rw [decide_eq_false hm]; exact ⟨_, rfl, rfl⟩
    · have hc : ((decide (vni < 0)) || (decide (vni > 16777215))) = true := by simp; omega
      unfold vxlan_Build.f gangwayref08_Build.f
      rw [hc, cond_true, Option.bind_some, cond_true, Option.bind_some]
      exact ⟨_, rfl, rfl⟩
  · refine ⟨_, wrap_bad f h1.1 h2.1 hb hg _ _ _ _ _ _ _, ?_⟩
    obtain ⟨c, hc, hk, _⟩ := build_bad (bare f) h1.1 h2.1 hb hg
    have hr : gangwayref04_Build.f 2000 ⟨f.Dst, f.Src, ⟨false, 0, false, 0⟩, f.Type_, f.Body⟩ = some (⟨#[]⟩, c) := by
      show gangwayref04_Build.f 2000 (bare f) = _
      unfold gangwayref04_Build.f
      rw [ref_check (bare f) h1 h2, hk, Option.bind_some, show (c != 0) = true by simp [hc]]
      rfl
    unfold gangwayref22_Wrap.f
    rw [hr, Option.bind_some]
    simp only
    rw [show (c != 0) = true by simp [hc], cond_true]

theorem gangwaylaw22_TunnelWraps_pure : gangwaylaw22_TunnelWraps.Pure := by
  intro a0 a1 a2 h1 h2 h3 h4 h5 h6 h7 h8 h9 h10 h11
  refine ⟨2000, ?_⟩
  unfold gangwaylaw22_TunnelWraps.f
  obtain ⟨t, e, z⟩ := cut_spec a2.Body 1700
  rw [show ((1700 : Nat) : Int) = 1700 from rfl] at e
  rw [e, Option.bind_some]
  obtain ⟨s0, d0, i0, m0⟩ := a0
  simp only at h1 h2 ⊢
  obtain ⟨s0, rfl⟩ : ∃ n : Nat, s0 = n := ⟨s0.toNat, by omega⟩
  obtain ⟨d0, rfl⟩ : ∃ n : Nat, d0 = n := ⟨d0.toNat, by omega⟩
  obtain ⟨⟨x, c⟩, hx, hy⟩ := wrap_ref ⟨a2.Dst, a2.Src, a2.Tag, a2.Type_, t⟩ h6 h7 (by simp only; omega) s0 d0 (by omega) (by omega) 0 a1 [] i0 m0
  rw [hx, Option.bind_some, hy, Option.bind_some, fixed_true, Option.bind_some]
  simp
end Go.Proofs.YtbodofjnfmjbpaaGreatDoor

namespace Go.Proofs.YtbodofjnfmjbpaaGreatDoor
open Go Eng Go.RowKit
set_option linter.unusedVariables false

/-- The law's walk, at whatever arguments the row gives. -/
theorem tunnelWraps_walk (W : World) (args : Array Value) (hsz : args.size = Tryz.f3.params.size) (harg : ∀ (j : Nat) t v, Tryz.f3.params[j]? = some t → args[j]? = some v → Arg Tryz.prog W t v) (hx : laidMetH Tryz.prog (Row.laid (H := Unit)) W) :
    Calls Tryz.prog 3 args W fun e w' => e = .returned (.bool true) ∧ Below W.heap.size W w' := by
  rw [Tryz.params3] at hsz harg
  obtain ⟨v0, v1, v2, rfl⟩ := args_three hsz
  obtain ⟨cs0, rfl, h0⟩ := Arg.agg (L := [.int .u32, .int .u32, .int .i64, .int .i64]) 6 Tryz.underlying24 (by kernel_rfl) (harg 0 24 v0 rfl rfl)
  obtain ⟨_, cs0_0, rfl, ⟨x0_0, rfl, wx0_0⟩, h0_0⟩ := LeafAll.cons h0
  obtain ⟨_, cs0_1, rfl, ⟨x0_1, rfl, wx0_1⟩, h0_1⟩ := LeafAll.cons h0_0
  obtain ⟨_, cs0_2, rfl, ⟨x0_2, rfl, wx0_2⟩, h0_2⟩ := LeafAll.cons h0_1
  obtain ⟨_, cs0_3, rfl, ⟨x0_3, rfl, wx0_3⟩, h0_3⟩ := LeafAll.cons h0_2
  obtain rfl := LeafAll.nil h0_3
  obtain ⟨x1, rfl, wx1⟩ := Arg.int Tryz.underlying3 (harg 1 3 v1 rfl rfl)
  obtain ⟨cs2, rfl, h2⟩ := Arg.agg (L := [.int .u64, .int .u64, .bool, .int .i64, .bool, .int .i64, .int .i64, .str]) 6 Tryz.underlying29 (by kernel_rfl) (harg 2 29 v2 rfl rfl)
  obtain ⟨_, cs2_0, rfl, ⟨x2_0, rfl, wx2_0⟩, h2_0⟩ := LeafAll.cons h2
  obtain ⟨_, cs2_1, rfl, ⟨x2_1, rfl, wx2_1⟩, h2_1⟩ := LeafAll.cons h2_0
  obtain ⟨_, cs2_2, rfl, ⟨x2_2, rfl⟩, h2_2⟩ := LeafAll.cons h2_1
  obtain ⟨_, cs2_3, rfl, ⟨x2_3, rfl, wx2_3⟩, h2_3⟩ := LeafAll.cons h2_2
  obtain ⟨_, cs2_4, rfl, ⟨x2_4, rfl⟩, h2_4⟩ := LeafAll.cons h2_3
  obtain ⟨_, cs2_5, rfl, ⟨x2_5, rfl, wx2_5⟩, h2_5⟩ := LeafAll.cons h2_4
  obtain ⟨_, cs2_6, rfl, ⟨x2_6, rfl, wx2_6⟩, h2_6⟩ := LeafAll.cons h2_5
  obtain ⟨_, cs2_7, rfl, ⟨x2_7, rfl, wx2_7⟩, h2_7⟩ := LeafAll.cons h2_6
  obtain rfl := LeafAll.nil h2_7
  obtain ⟨k, hk⟩ := gangwaylaw22_TunnelWraps_pure (gangwaylaw22_Way.mk x0_0 x0_1 x0_2 x0_3) x1 (api_Frame.mk x2_0 x2_1 (api_Tag.mk x2_2 x2_3 x2_4 x2_5) x2_6 x2_7) (Eng.wf_u32 wx0_0) (Eng.wf_u32 wx0_1) (Eng.wf_i64 wx0_2) (Eng.wf_i64 wx0_3) (Eng.wf_i64 wx1) (Eng.wf_u64 wx2_0) (Eng.wf_u64 wx2_1) (Eng.wf_i64 wx2_3) (Eng.wf_i64 wx2_5) (Eng.wf_i64 wx2_6) wx2_7
  exact (gangwaylaw22_TunnelWraps_calls k (gangwaylaw22_Way.mk x0_0 x0_1 x0_2 x0_3) x1 (api_Frame.mk x2_0 x2_1 (api_Tag.mk x2_2 x2_3 x2_4 x2_5) x2_6 x2_7) true hk W ⟨[], fun _ => True⟩ (Row.start hx)).mono fun e w' ⟨he, hs⟩ => ⟨he, hs.below⟩

set_option maxRecDepth 100000 in
theorem tunnelWraps_lifted (os : Os) (started : os.Started) (H : Type) (enc : TypeId × Value → H) :
    ReturnsInHanded {} Tryz.checked os 3 .any (fun w args => (Rows.tunnelWrapsSpec.pre enc Tryz.prog Tryz.f3 [] false w args ∧ laidMetH Tryz.prog (Row.laid (H := Unit)) w) ∧ sizedMet enc Tryz.prog Tryz.f3 (OpenSpec.ofChange Rows.tunnelWrapsSpec) false w args)
      (Rows.tunnelWrapsSpec.post enc Tryz.prog Tryz.f3 false true false false) :=
  lift_law (C := Tryz.checked) (X := fun w => laidMetH Tryz.prog (Row.laid (H := Unit)) w) 4 (fun _ _ hh h => h.of_heap hh) Row.own started (by kernel_rfl) Tryz.func3 rfl
    (fun H ds hds => by
      rcases ds with _ | ⟨d0, ds⟩
      · cases hds
      ·
        rcases ds with _ | ⟨d1, ds⟩
        · cases hds
        ·
          rcases ds with _ | ⟨d2, ds⟩
          · cases hds
          ·
            rcases ds with _ | ⟨d3, ds⟩
            · rfl
            · cases hds)
    (by kernel_rfl) (by kernel_rfl) Row.laidOut (by kernel_rfl) H enc
    (ChangeSpec.witness_at (enc := enc) (C := Tryz.checked) (os := os) (X := fun w _ => laidMetH Tryz.prog (Row.laid (H := Unit)) w) false (Row.world os) #[.agg #[.int .u32 0, .int .u32 0, .int .i64 0, .int .i64 0], .int .i64 0, .agg #[.int .u64 0, .int .u64 0, .bool false, .int .i64 0, .bool false, .int .i64 0, .int .i64 0, .string ByteArray.empty]] 8 rfl (by kernel_rfl) (by kernel_rfl) (by kernel_rfl) (by kernel_rfl) (by kernel_rfl) (Row.met os _))
    tunnelWraps_walk

theorem tunnelWraps_said : Rows.TunnelWrapsSaid :=
  OpenClaim.holds_of_wide 3 Tryz.f3 rfl rfl rfl rfl rfl rfl rfl ⟨rfl, rfl, rfl, rfl, rfl⟩ rfl rfl rfl rfl rfl (by kernel_rfl) Tryz.func3 (by kernel_rfl)
    (of_decide_eq_true (by kernel_rfl)) (by unfold Func.isWrapper; rw [if_neg (of_decide_eq_false (by kernel_rfl))]; exact ⟨rfl, rfl⟩)
    (fun os started H enc _ => tunnelWraps_lifted os started H enc)

/-- THE CARD. -/
theorem tunnelWraps_card : Rows.TunnelWrapsCardSaid :=
  Claim7.holds_tied_plain_at .later [] [.handle] true (true, "f5df218c9da7bd62c8a5d0a56536dceb6ae5f80aa717339b778d03be3fbb3b64") true tunnelWraps_said (fun _ h => by cases h) (by kernel_rfl) (fun _ h => by cases h) tunnelWraps_row_tie rfl ⟨rfl, rfl⟩ (by kernel_rfl) rfl
    (fun f fn hf hfn => by
      obtain rfl : f = 3 := Option.some.inj ((show Tryz.prog.funcNamed "gangway/gangwaylaw22.TunnelWraps" = some 3 by kernel_rfl).symm.trans hf) |>.symm
      obtain rfl : fn = Tryz.f3 := (Option.some.inj (Tryz.func3.symm.trans hfn)).symm
      exact ⟨by kernel_rfl, noStand (by kernel_rfl)⟩)
    (by kernel_rfl)
#print axioms tunnelWraps_card
end Go.Proofs.YtbodofjnfmjbpaaGreatDoor
