/- The law TunnelBack returns true for every input, and its arguments read as before: the tied card, with the condition that the listed variable errors.errorType is as the program's text lays it. -/
import Derived.Test.YtbodofjnfmjbpaaGreatDoorF4
import Derived.Test.YtbodofjnfmjbpaaGreatDoorP1
import Derived.Test.YtbodofjnfmjbpaaGreatDoorRow

namespace Go.Proofs.YtbodofjnfmjbpaaGreatDoor
open Go Eng
set_option linter.unusedVariables false

/-- What is left of the law: plain Lean. -/
def gangwaylaw22_TunnelBack.Pure : Prop := ∀ a0 : gangwaylaw22_Way, ∀ a1 : Int, ∀ a2 : api_Frame, 0 ≤ a0.Src ∧ a0.Src ≤ 4294967295 → 0 ≤ a0.Dst ∧ a0.Dst ≤ 4294967295 → (-9223372036854775808) ≤ a0.Id ∧ a0.Id ≤ 9223372036854775807 → (-9223372036854775808) ≤ a0.Most ∧ a0.Most ≤ 9223372036854775807 → (-9223372036854775808) ≤ a1 ∧ a1 ≤ 9223372036854775807 → 0 ≤ a2.Dst ∧ a2.Dst ≤ 18446744073709551615 → 0 ≤ a2.Src ∧ a2.Src ≤ 18446744073709551615 → (-9223372036854775808) ≤ a2.Tag.Pri ∧ a2.Tag.Pri ≤ 9223372036854775807 → (-9223372036854775808) ≤ a2.Tag.Vid ∧ a2.Tag.Vid ≤ 9223372036854775807 → (-9223372036854775808) ≤ a2.Type_ ∧ a2.Type_ ≤ 9223372036854775807 → a2.Body.size ≤ 140737488351232 → ∃ k, gangwaylaw22_TunnelBack.f k a0 a1 a2 = some true
end Go.Proofs.YtbodofjnfmjbpaaGreatDoor

namespace Go.Proofs.YtbodofjnfmjbpaaGreatDoor
open Go Eng
set_option linter.unusedVariables false
set_option linter.unusedSimpArgs false

theorem pkt_size' (src dst id p vni : Nat) (f : api_Frame) (z : ByteArray) (h : L z = pktL src dst id p vni f) : z.size = 50 + f.Body.size := by
  rw [← L_length, h]
  unfold pktL
  rw [ipL_length, udpL_length, vxL_length, frameL_len]
  simp [bare, tag0]; omega

theorem vx_back (n : Nat) (hn : n ≤ 16777215) (fr : List UInt8) (b : ByteArray) (h : L b = vxL n fr) : ∃ s, vxR b = ((n : Int), s, 0) ∧ L s = fr := by
  have hs : b.size = 8 + fr.length := by rw [← L_length, h, vxL_length]
  refine ⟨b.extract 8 b.size, ?_, ?_⟩
  · unfold vxR
    have hh : ((L b).headD 0).toNat = 8 := by rw [h]; rfl
    rw [if_neg (by omega), hh, if_neg (by omega)]
    have : at2 b 4 3 = n := at2_app b 4 3 n [8, 0, 0, 0] ([0] ++ fr) (by rw [h]; rfl) rfl (by rw [show (256 : Nat) ^ 3 = 16777216 from rfl]; omega)
    rw [this]
  · rw [L_drop, h]
    have e : vxL n fr = ([8, 0, 0, 0] ++ beL 3 n ++ [0]) ++ fr := by simp [vxL]
    rw [e, List.drop_left' (by simp [beL_length])]

theorem low24 (a : Int) : ∃ n : Nat, bAnd .i64 a 16777215 = (n : Int) ∧ n ≤ 16777215 := by
  have h : (BitVec.ofInt 64 a).toNat &&& 16777215 ≤ 16777215 := Nat.and_le_right
  refine ⟨(BitVec.ofInt 64 a).toNat &&& 16777215, ?_, h⟩
  show IntKind.i64.wrap ((BitVec.ofInt 64 a &&& BitVec.ofInt 64 16777215).toNat : Int) = _
  rw [BitVec.toNat_and]
  have e : (BitVec.ofInt 64 16777215).toNat = 16777215 := by decide
  rw [e]
  exact i64_id (by omega)

theorem xor1_ne (n : Nat) (h : n ≤ 16777215) : bXor .i64 (n : Int) 1 ≠ n := by
  intro e
  have h1 : bXor .i64 (n : Int) 1 = (((BitVec.ofNat 64 n ^^^ 1#64).toNat : Nat) : Int) := by
    show IntKind.i64.wrap ((BitVec.ofInt 64 n ^^^ BitVec.ofInt 64 1).toNat : Int) = _
    rw [BitVec.ofInt_natCast]
    have hx : (BitVec.ofNat 64 n ^^^ BitVec.ofInt 64 1).toNat < 2 ^ 25 := by
      rw [BitVec.toNat_xor]
      refine Nat.xor_lt_two_pow ?_ (by decide)
      rw [BitVec.toNat_ofNat]
      omega
    exact i64_id ⟨by omega, by omega⟩
  rw [h1] at e
  have e2 : (BitVec.ofNat 64 n ^^^ 1#64).toNat = n := by omega
  have e3 : BitVec.ofNat 64 n ^^^ 1#64 = BitVec.ofNat 64 n := BitVec.eq_of_toNat_eq (by rw [e2, BitVec.toNat_ofNat, Nat.mod_eq_of_lt (by omega)])
  have e4 : BitVec.ofNat 64 n ^^^ (BitVec.ofNat 64 n ^^^ 1#64) = BitVec.ofNat 64 n ^^^ BitVec.ofNat 64 n := by rw [e3]
  rw [← BitVec.xor_assoc, BitVec.xor_self, BitVec.zero_xor] at e4
  exact absurd e4 (by decide)

theorem gangwaylaw22_TunnelBack_pure : gangwaylaw22_TunnelBack.Pure := by
  intro a0 a1 a2 h1 h2 h3 h4 h5 h9 h10 h11 h12 h13 h14
  refine ⟨2000, ?_⟩
  unfold gangwaylaw22_TunnelBack.f
  obtain ⟨t, e, z⟩ := cut_spec a2.Body 1400
  rw [show ((1400 : Nat) : Int) = 1400 from rfl] at e
  rw [e, Option.bind_some]
  obtain ⟨s0, d0, i0, m0⟩ := a0
  simp only at h1 h2 ⊢
  have hs0 : 0 ≤ bOr .u32 s0 1 ∧ bOr .u32 s0 1 < 4294967296 := u32_range _
  generalize bOr .u32 s0 1 = q at hs0
  obtain ⟨q, rfl⟩ : ∃ n : Nat, q = n := ⟨q.toNat, by omega⟩
  obtain ⟨d0, rfl⟩ : ∃ n : Nat, d0 = n := ⟨d0.toNat, by omega⟩
  obtain ⟨n, hn, hnl⟩ := low24 a1
  rw [hn]
  have hx := xor1_ne n hnl
  generalize bXor .i64 (n : Int) 1 = n' at hx
  by_cases hg : Good (bare ⟨a2.Dst, a2.Src, a2.Tag, a2.Type_, t⟩)
  · obtain ⟨p, ⟨hp1, hp2⟩, hw⟩ := wrap_good _ hg
    obtain ⟨id0, z0, hi0, hz0, e0⟩ := hw q d0 n 9 [] i0 1700 (by omega) (by omega) hnl
    have q0 := pkt_size' _ _ _ _ _ _ _ hz0
    simp only at q0
    rw [if_neg (by omega)] at e0
    have hlen : (vxL n (frameL (bare ⟨a2.Dst, a2.Src, a2.Tag, a2.Type_, t⟩))).length ≤ 9000 := by rw [vxL_length, frameL_len]; simp [bare, tag0]; omega
    obtain ⟨b, hb, t0⟩ := take_spec id0 q d0 p hi0 (by omega) (by omega) hp2 _ hlen z0 hz0
    obtain ⟨s, hv, hsL⟩ := vx_back n hnl _ b hb
    have hbs : b.size ≤ 9000 := by rw [← L_length, hb]; exact hlen
    have hss : s.size ≤ 1600 := by rw [← L_length, hsL, frameL_len]; simp [bare, tag0]; omega
    have hpar : parseR s = (bare ⟨a2.Dst, a2.Src, a2.Tag, a2.Type_, t⟩, 0) := by
      rw [parse_build _ hg s [] (by rw [hsL, List.append_nil]) hss, more_nil]
    have hby : byR [⟨5, (n : Int), [(q : Int)]⟩] (n : Int) = (⟨5, n, [(q : Int)]⟩, true) := by
      unfold byR
      simp only [List.find?_cons]
      rw [show ((n : Int) == (n : Int)) = true by simp]
    have hby' : byR [⟨5, n', [(q : Int)]⟩] (n : Int) = (seg0, false) := by
      unfold byR
      simp only [List.find?_cons, List.find?_nil]
      rw [show (n' == (n : Int)) = false by simp [hx]]
    have hpr : peerR [⟨5, (n : Int), [(q : Int)]⟩] (n : Int) (q : Int) = true := by unfold peerR; rw [hby]; simp
    have hu : unwR [⟨5, (n : Int), [(q : Int)]⟩] (q : Int) b = (⟨5, n, [(q : Int)]⟩, bare ⟨a2.Dst, a2.Src, a2.Tag, a2.Type_, t⟩, 0) := by
      unfold unwR
      rw [hv]
      simp only
      rw [hby, hpr, hpar]
      simp [bare, tag0]
    have hu' : unwR [⟨5, n', [(q : Int)]⟩] (q : Int) b = (seg0, frame0, 2) := by
      unfold unwR
      rw [hv]
      simp only
      rw [hby']
      simp
    rw [e0, Option.bind_some]
    simp only
    rw [show ((0 : Int) != 0) = false from rfl, cond_false, t0, Option.bind_some]
    simp only
    rw [unwrap_spec _ _ _ (by simp) (by simp) (by simp only; omega), Option.bind_some]
    simp only
    rw [unwrap_spec _ _ _ (by simp) (by simp) (by simp only; omega), Option.bind_some]
    simp only
    rw [hu, hu']
    simp only
    rw [show ((((0 : Int) == 0) && ((q : Int) == (q : Int))) && ((0 : Int) == 0)) = true by simp, cond_true]
    unfold gangwaylaw22_TunnelBack.k3
    simp only [bare, tag0, beq_self_eq_true, bytes_refl, Bool.and_self, cond_true]
    rw [fixed_true]
    rfl
  · have w0 := wrap_bad ⟨a2.Dst, a2.Src, a2.Tag, a2.Type_, t⟩ h9.1 h10.1 (by simp only; omega) hg q d0 n 9 [] i0 1700
    rw [w0, Option.bind_some]
    simp only
    rw [show ((220 : Int) != 0) = true from rfl, cond_true, beq_self_eq_true, cond_true, fixed_true]
    rfl
end Go.Proofs.YtbodofjnfmjbpaaGreatDoor

namespace Go.Proofs.YtbodofjnfmjbpaaGreatDoor
open Go Eng Go.RowKit
set_option linter.unusedVariables false

/-- The law's walk, at whatever arguments the row gives. -/
theorem tunnelBack_walk (W : World) (args : Array Value) (hsz : args.size = Tryz.f5.params.size) (harg : ∀ (j : Nat) t v, Tryz.f5.params[j]? = some t → args[j]? = some v → Arg Tryz.prog W t v) (hx : laidMetH Tryz.prog (Row.laid (H := Unit)) W) :
    Calls Tryz.prog 5 args W fun e w' => e = .returned (.bool true) ∧ Below W.heap.size W w' := by
  rw [Tryz.params5] at hsz harg
  obtain ⟨v0, v1, v2, rfl⟩ := args_three hsz
  obtain ⟨cs0, rfl, h0⟩ := Arg.agg (L := [.int .u32, .int .u32, .int .i64, .int .i64]) 6 Tryz.underlying24 (by kernel_rfl) (harg 0 24 v0 rfl rfl)
  obtain ⟨_, cs0_0, rfl, ⟨x0_0, rfl, wx0_0⟩, h0_0⟩ := LeafAll.cons h0
  obtain ⟨_, cs0_1, rfl, ⟨x0_1, rfl, wx0_1⟩, h0_1⟩ := LeafAll.cons h0_0
  obtain ⟨_, cs0_2, rfl, ⟨x0_2, rfl, wx0_2⟩, h0_2⟩ := LeafAll.cons h0_1
  obtain ⟨_, cs0_3, rfl, ⟨x0_3, rfl, wx0_3⟩, h0_3⟩ := LeafAll.cons h0_2
  obtain rfl := LeafAll.nil h0_3
  obtain ⟨x1, rfl, wx1⟩ := Arg.int Tryz.underlying3 (harg 1 3 v1 rfl rfl)
  obtain ⟨cs2, rfl, h2⟩ := Arg.agg (L := [.int .u64, .int .u64, .bool, .int .i64, .bool, .int .i64, .int .i64, .str]) 6 Tryz.underlying29 (by kernel_rfl) (harg 2 29 v2 rfl rfl)
  obtain ⟨_, cs2_0, rfl, ⟨x2_0, rfl, wx2_0⟩, h2_0⟩ := LeafAll.cons h2
  obtain ⟨_, cs2_1, rfl, ⟨x2_1, rfl, wx2_1⟩, h2_1⟩ := LeafAll.cons h2_0
  obtain ⟨_, cs2_2, rfl, ⟨x2_2, rfl⟩, h2_2⟩ := LeafAll.cons h2_1
  obtain ⟨_, cs2_3, rfl, ⟨x2_3, rfl, wx2_3⟩, h2_3⟩ := LeafAll.cons h2_2
  obtain ⟨_, cs2_4, rfl, ⟨x2_4, rfl⟩, h2_4⟩ := LeafAll.cons h2_3
  obtain ⟨_, cs2_5, rfl, ⟨x2_5, rfl, wx2_5⟩, h2_5⟩ := LeafAll.cons h2_4
  obtain ⟨_, cs2_6, rfl, ⟨x2_6, rfl, wx2_6⟩, h2_6⟩ := LeafAll.cons h2_5
  obtain ⟨_, cs2_7, rfl, ⟨x2_7, rfl, wx2_7⟩, h2_7⟩ := LeafAll.cons h2_6
  obtain rfl := LeafAll.nil h2_7
  obtain ⟨k, hk⟩ := gangwaylaw22_TunnelBack_pure (gangwaylaw22_Way.mk x0_0 x0_1 x0_2 x0_3) x1 (api_Frame.mk x2_0 x2_1 (api_Tag.mk x2_2 x2_3 x2_4 x2_5) x2_6 x2_7) (Eng.wf_u32 wx0_0) (Eng.wf_u32 wx0_1) (Eng.wf_i64 wx0_2) (Eng.wf_i64 wx0_3) (Eng.wf_i64 wx1) (Eng.wf_u64 wx2_0) (Eng.wf_u64 wx2_1) (Eng.wf_i64 wx2_3) (Eng.wf_i64 wx2_5) (Eng.wf_i64 wx2_6) wx2_7
  exact (gangwaylaw22_TunnelBack_calls k (gangwaylaw22_Way.mk x0_0 x0_1 x0_2 x0_3) x1 (api_Frame.mk x2_0 x2_1 (api_Tag.mk x2_2 x2_3 x2_4 x2_5) x2_6 x2_7) true hk W ⟨[], fun _ => True⟩ (Row.start hx)).mono fun e w' ⟨he, hs⟩ => ⟨he, hs.below⟩

set_option maxRecDepth 100000 in
theorem tunnelBack_lifted (os : Os) (started : os.Started) (H : Type) (enc : TypeId × Value → H) :
    ReturnsInHanded {} Tryz.checked os 5 .any (fun w args => (Rows.tunnelBackSpec.pre enc Tryz.prog Tryz.f5 [] false w args ∧ laidMetH Tryz.prog (Row.laid (H := Unit)) w) ∧ sizedMet enc Tryz.prog Tryz.f5 (OpenSpec.ofChange Rows.tunnelBackSpec) false w args)
      (Rows.tunnelBackSpec.post enc Tryz.prog Tryz.f5 false true false false) :=
  lift_law (C := Tryz.checked) (X := fun w => laidMetH Tryz.prog (Row.laid (H := Unit)) w) 4 (fun _ _ hh h => h.of_heap hh) Row.own started (by kernel_rfl) Tryz.func5 rfl
    (fun H ds hds => by
      rcases ds with _ | ⟨d0, ds⟩
      · cases hds
      ·
        rcases ds with _ | ⟨d1, ds⟩
        · cases hds
        ·
          rcases ds with _ | ⟨d2, ds⟩
          · cases hds
          ·
            rcases ds with _ | ⟨d3, ds⟩
            · rfl
            · cases hds)
    (by kernel_rfl) (by kernel_rfl) Row.laidOut (by kernel_rfl) H enc
    (ChangeSpec.witness_at (enc := enc) (C := Tryz.checked) (os := os) (X := fun w _ => laidMetH Tryz.prog (Row.laid (H := Unit)) w) false (Row.world os) #[.agg #[.int .u32 0, .int .u32 0, .int .i64 0, .int .i64 0], .int .i64 0, .agg #[.int .u64 0, .int .u64 0, .bool false, .int .i64 0, .bool false, .int .i64 0, .int .i64 0, .string ByteArray.empty]] 8 rfl (by kernel_rfl) (by kernel_rfl) (by kernel_rfl) (by kernel_rfl) (by kernel_rfl) (Row.met os _))
    tunnelBack_walk

theorem tunnelBack_said : Rows.TunnelBackSaid :=
  OpenClaim.holds_of_wide 5 Tryz.f5 rfl rfl rfl rfl rfl rfl rfl ⟨rfl, rfl, rfl, rfl, rfl⟩ rfl rfl rfl rfl rfl (by kernel_rfl) Tryz.func5 (by kernel_rfl)
    (of_decide_eq_true (by kernel_rfl)) (by unfold Func.isWrapper; rw [if_neg (of_decide_eq_false (by kernel_rfl))]; exact ⟨rfl, rfl⟩)
    (fun os started H enc _ => tunnelBack_lifted os started H enc)

/-- THE CARD. -/
theorem tunnelBack_card : Rows.TunnelBackCardSaid :=
  Claim7.holds_tied_plain_at .later [] [.handle] true (true, "f5df218c9da7bd62c8a5d0a56536dceb6ae5f80aa717339b778d03be3fbb3b64") true tunnelBack_said (fun _ h => by cases h) (by kernel_rfl) (fun _ h => by cases h) tunnelBack_row_tie rfl ⟨rfl, rfl⟩ (by kernel_rfl) rfl
    (fun f fn hf hfn => by
      obtain rfl : f = 5 := Option.some.inj ((show Tryz.prog.funcNamed "gangway/gangwaylaw22.TunnelBack" = some 5 by kernel_rfl).symm.trans hf) |>.symm
      obtain rfl : fn = Tryz.f5 := (Option.some.inj (Tryz.func5.symm.trans hfn)).symm
      exact ⟨by kernel_rfl, noStand (by kernel_rfl)⟩)
    (by kernel_rfl)
#print axioms tunnelBack_card
end Go.Proofs.YtbodofjnfmjbpaaGreatDoor
