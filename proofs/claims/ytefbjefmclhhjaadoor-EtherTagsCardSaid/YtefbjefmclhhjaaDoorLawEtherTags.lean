/- The law EtherTags returns true for every input, and its arguments read as before: the tied card, with the condition that the listed variable errors.errorType is as the program's text lays it. -/
import Derived.Test.YtefbjefmclhhjaaDoorF2
import Derived.Test.YtefbjefmclhhjaaDoorP1
import Derived.Test.YtefbjefmclhhjaaDoorRow

namespace Go.Proofs.YtefbjefmclhhjaaDoor
open Go Eng
set_option linter.unusedVariables false

/-- What is left of the law: plain Lean. -/
def gangwaylaw04_EtherTags.Pure : Prop := ∀ a0 : api_Frame, ∀ a1 : Int, 0 ≤ a0.Dst ∧ a0.Dst ≤ 18446744073709551615 → 0 ≤ a0.Src ∧ a0.Src ≤ 18446744073709551615 → (-9223372036854775808) ≤ a0.Tag.Pri ∧ a0.Tag.Pri ≤ 9223372036854775807 → (-9223372036854775808) ≤ a0.Tag.Vid ∧ a0.Tag.Vid ≤ 9223372036854775807 → (-9223372036854775808) ≤ a0.Type_ ∧ a0.Type_ ≤ 9223372036854775807 → a0.Body.size ≤ 140737488351232 → (-9223372036854775808) ≤ a1 ∧ a1 ≤ 9223372036854775807 → ∃ k, gangwaylaw04_EtherTags.f k a0 a1 = some true
end Go.Proofs.YtefbjefmclhhjaaDoor

namespace Go.Proofs.YtefbjefmclhhjaaDoor
open Go Eng
set_option linter.unusedVariables false
set_option linter.unusedSimpArgs false

theorem ext_L (s : ByteArray) (l h : Nat) (pre mid post : List UInt8) (hs : L s = pre ++ (mid ++ post)) (hp : pre.length = l) (hm : mid.length = h - l) : L (s.extract l h) = mid := by
  rw [L_extract, hs, ← hp, List.drop_left, hp, ← hm, List.take_left]

/-- Where the body is short, there is one reason alone. -/
theorem check_small (a : api_Frame) (h1 : 0 ≤ a.Dst) (h2 : 0 ≤ a.Src) (hb : a.Body.size ≤ 1400) (c : Int) (h : ether_Check.f a = some c) (hc : c ≠ 0) : c = 41 := by
  unfold ether_Check.f at h
  have k1 : ∀ b, ether_Check.k1 a b = some c → c = 41 := fun b hk => by
    unfold ether_Check.k1 at hk
    cases b
    · rw [cond_false, show ((a.Type_ == 0) && (decide ((a.Body.size : Int) > 1500))) = false by simp; omega, cond_false, size_spec a (by omega), Option.bind_some] at hk
      have hif : (if a.Tag.Has then 4 else 0) ≤ 4 := by split <;> omega
      rw [show decide ((((14 + a.Body.size + (if a.Tag.Has then 4 else 0) : Nat) : Int)) > 1600) = false by simp only [decide_eq_false_iff_not]; omega, cond_false] at hk
      exact absurd (Option.some.inj hk).symm hc
    · exact (Option.some.inj hk).symm
  have k2 : ∀ b, ether_Check.k2 a b = some c → c = 41 := fun b hk => by
    unfold ether_Check.k2 at hk
    cases b
    · rw [cond_false] at hk
      exact k1 _ hk
    · rw [cond_true] at hk
      exact k1 _ hk
  cases hd : ((decide (a.Dst ≥ 281474976710656)) || (decide (a.Src ≥ 281474976710656)))
  · rw [hd, cond_false] at h
    obtain ⟨b, hb1, _⟩ := tag_spec a.Tag
    rw [hb1, Option.bind_some] at h
    exact k2 _ h
  · rw [hd, cond_true] at h
    exact k2 _ h

theorem tags_k3 : gangwaylaw04_EtherTags.k3 10 true = some true := by
  unfold gangwaylaw04_EtherTags.k3
  rw [cond_true, fixed_true]
  rfl

theorem gangwaylaw04_EtherTags_pure : gangwaylaw04_EtherTags.Pure := by
  intro a0 a1 h1 h2 h3 h4 h5 h6 h7
  refine ⟨10, ?_⟩
  unfold gangwaylaw04_EtherTags.f
  obtain ⟨t2, e2, z2⟩ := cut_spec a0.Body 1400
  rw [show ((1400 : Nat) : Int) = 1400 from rfl] at e2
  rw [e2, Option.bind_some]
  obtain ⟨v1, v2⟩ := bAnd_4095 a1
  generalize bAnd .i64 a1 4095 = vid at v1 v2
  simp only [ether_Bare.f, ether_Tagged.f, Option.bind_some]
  have hgg : Good ⟨a0.Dst, a0.Src, tag0, a0.Type_, t2⟩ ↔ Good ⟨a0.Dst, a0.Src, ⟨true, 0, false, vid⟩, a0.Type_, t2⟩ := by
    constructor
    · intro g
      exact ⟨g.dst, g.src, (fun h => by cases h), (fun _ => by simp only; omega), g.type, (by simp only [if_true]; omega)⟩
    · intro g
      exact ⟨g.dst, g.src, (fun _ => rfl), (fun h => by cases h), g.type, (by simp only [tag0]; simp; omega)⟩
  by_cases hg : Good ⟨a0.Dst, a0.Src, tag0, a0.Type_, t2⟩
  · have hg2 := hgg.1 hg
    rw [show (⟨false, 0, false, 0⟩ : api_Tag) = tag0 from rfl, build_good _ hg, Option.bind_some]
    simp only
    rw [build_good _ hg2, Option.bind_some]
    simp only
    rw [show (((0 : Int) != 0) || ((0 : Int) != 0)) = false from rfl, cond_false]
    have hl := frameL_len ⟨a0.Dst, a0.Src, tag0, a0.Type_, t2⟩
    have hl2 := frameL_len ⟨a0.Dst, a0.Src, ⟨true, 0, false, vid⟩, a0.Type_, t2⟩
    simp only [tag0, Bool.false_eq_true, if_false, if_true] at hl hl2
    have hz := mk_size (frameL ⟨a0.Dst, a0.Src, tag0, a0.Type_, t2⟩)
    have hz2 := mk_size (frameL ⟨a0.Dst, a0.Src, ⟨true, 0, false, vid⟩, a0.Type_, t2⟩)
    generalize hB : (⟨(frameL ⟨a0.Dst, a0.Src, tag0, a0.Type_, t2⟩).toArray⟩ : ByteArray) = B at hz ⊢
    have hLB : L B = frameL ⟨a0.Dst, a0.Src, tag0, a0.Type_, t2⟩ := by rw [← hB]; rfl
    generalize hC : (⟨(frameL ⟨a0.Dst, a0.Src, ⟨true, 0, false, vid⟩, a0.Type_, t2⟩).toArray⟩ : ByteArray) = C at hz2 ⊢
    have hLC : L C = frameL ⟨a0.Dst, a0.Src, ⟨true, 0, false, vid⟩, a0.Type_, t2⟩ := by rw [← hC]; rfl
    simp only [tag0] at hz
    rw [hl] at hz
    rw [hl2] at hz2
    have hty : typeN ⟨a0.Dst, a0.Src, ⟨true, 0, false, vid⟩, a0.Type_, t2⟩ = typeN ⟨a0.Dst, a0.Src, tag0, a0.Type_, t2⟩ := rfl
    -- the two strings
    have fB : L B = (beL 6 a0.Dst.toNat ++ beL 6 a0.Src.toNat) ++ (beL 2 (typeN ⟨a0.Dst, a0.Src, tag0, a0.Type_, t2⟩) ++ L t2) := by
      rw [hLB]; simp [frameL, tagL, tag0]
    have fC : L C = (beL 6 a0.Dst.toNat ++ beL 6 a0.Src.toNat) ++ (beL 2 33024 ++ (beL 2 (infoN ⟨true, 0, false, vid⟩) ++ (beL 2 (typeN ⟨a0.Dst, a0.Src, tag0, a0.Type_, t2⟩) ++ L t2))) := by
      rw [hLC]; simp only [frameL, tagL, if_true, hty, List.append_assoc]
    have hzB : B.size = 14 + t2.size := by omega
    have hzC : C.size = 18 + t2.size := by omega
    rw [i64_id (by omega)]
    rw [show (((C.size : Int) == (B.size : Int) + 4) && (decide ((B.size : Int) ≥ 14))) = true by simp only [Bool.and_eq_true, beq_iff_eq, decide_eq_true_eq]; omega, cond_true]
    rw [sliceS_eq (by omega), Option.bind_some, sliceS_eq (by omega), Option.bind_some]
    rw [show Int.toNat 0 = 0 from rfl, show Int.toNat 12 = 12 from rfl, toList_eq, toList_eq]
    rw [ext_L C 0 12 [] (beL 6 a0.Dst.toNat ++ beL 6 a0.Src.toNat) _ fC rfl (by simp [beL_length]), ext_L B 0 12 [] (beL 6 a0.Dst.toNat ++ beL 6 a0.Src.toNat) _ fB rfl (by simp [beL_length]), beq_self_eq_true]
    unfold gangwaylaw04_EtherTags.k6
    rw [cond_true, sliceS_eq (by omega), Option.bind_some]
    rw [show Int.toNat 14 = 14 from rfl, show Int.toNat 12 = 12 from rfl, toList_eq, toList_eq]
    rw [ext_L C 12 14 _ (beL 2 33024) _ fC (by simp [beL_length]) (by simp [beL_length]), show (beL 2 33024 == L (⟨#[129, 0]⟩ : ByteArray)) = true by decide]
    unfold gangwaylaw04_EtherTags.k5
    rw [cond_true, sliceS_eq (by omega), Option.bind_some, sliceS_eq (by omega), Option.bind_some]
    simp only [Int.toNat_natCast]
    rw [show Int.toNat 16 = 16 from rfl, show Int.toNat 12 = 12 from rfl, toList_eq, toList_eq]
    have c16 : L (C.extract 16 C.size) = beL 2 (typeN ⟨a0.Dst, a0.Src, tag0, a0.Type_, t2⟩) ++ L t2 := by
      refine ext_L C 16 C.size (beL 6 a0.Dst.toNat ++ beL 6 a0.Src.toNat ++ beL 2 33024 ++ beL 2 (infoN ⟨true, 0, false, vid⟩)) _ [] ?_ (by simp [beL_length]) (by simp [beL_length, L_length]; omega)
      rw [fC]; simp only [List.append_assoc, List.append_nil]
    have b12 : L (B.extract 12 B.size) = beL 2 (typeN ⟨a0.Dst, a0.Src, tag0, a0.Type_, t2⟩) ++ L t2 := by
      refine ext_L B 12 B.size (beL 6 a0.Dst.toNat ++ beL 6 a0.Src.toNat) _ [] ?_ (by simp [beL_length]) (by simp [beL_length, L_length]; omega)
      rw [fB]; simp only [List.append_assoc, List.append_nil]
    rw [c16, b12, beq_self_eq_true]
    unfold gangwaylaw04_EtherTags.k4
    rw [cond_true]
    simp only [ether_Bare.f, Option.bind_some]
    simp only [tag0, beq_self_eq_true, bytes_refl, Bool.and_self]
    exact tags_k3
  · have hg2 := fun h => hg (hgg.2 h)
    obtain ⟨c, hc, hk, hb⟩ := build_bad ⟨a0.Dst, a0.Src, tag0, a0.Type_, t2⟩ h1.1 h2.1 (by simp only; omega) hg
    obtain ⟨c2, hc2, hk2, hb2⟩ := build_bad ⟨a0.Dst, a0.Src, ⟨true, 0, false, vid⟩, a0.Type_, t2⟩ h1.1 h2.1 (by simp only; omega) hg2
    have : c = c2 := by
      rw [check_small ⟨a0.Dst, a0.Src, tag0, a0.Type_, t2⟩ h1.1 h2.1 (by simp only; omega) c hk hc, check_small ⟨a0.Dst, a0.Src, ⟨true, 0, false, vid⟩, a0.Type_, t2⟩ h1.1 h2.1 (by simp only; omega) c2 hk2 hc2]
    subst this
    rw [show (⟨false, 0, false, 0⟩ : api_Tag) = tag0 from rfl, hb, Option.bind_some]
    simp only
    rw [hb2, Option.bind_some]
    simp only
    rw [show ((c != 0) || (c != 0)) = true by simp [hc], cond_true, beq_self_eq_true]
    simp only [beq_self_eq_true, Bool.and_self, cond_true]
    rw [fixed_true]
    rfl
end Go.Proofs.YtefbjefmclhhjaaDoor

namespace Go.Proofs.YtefbjefmclhhjaaDoor
open Go Eng Go.RowKit
set_option linter.unusedVariables false

/-- The law's walk, at whatever arguments the row gives. -/
theorem etherTags_walk (W : World) (args : Array Value) (hsz : args.size = Tryd.f7.params.size) (harg : ∀ (j : Nat) t v, Tryd.f7.params[j]? = some t → args[j]? = some v → Arg Tryd.prog W t v) (hx : laidMetH Tryd.prog (Row.laid (H := Unit)) W) :
    Calls Tryd.prog 7 args W fun e w' => e = .returned (.bool true) ∧ Below W.heap.size W w' := by
  rw [Tryd.params7] at hsz harg
  obtain ⟨v0, v1, rfl⟩ := args_two hsz
  obtain ⟨cs0, rfl, h0⟩ := Arg.agg (L := [.int .u64, .int .u64, .bool, .int .i64, .bool, .int .i64, .int .i64, .str]) 6 Tryd.underlying26 (by kernel_rfl) (harg 0 26 v0 rfl rfl)
  obtain ⟨_, cs0_0, rfl, ⟨x0_0, rfl, wx0_0⟩, h0_0⟩ := LeafAll.cons h0
  obtain ⟨_, cs0_1, rfl, ⟨x0_1, rfl, wx0_1⟩, h0_1⟩ := LeafAll.cons h0_0
  obtain ⟨_, cs0_2, rfl, ⟨x0_2, rfl⟩, h0_2⟩ := LeafAll.cons h0_1
  obtain ⟨_, cs0_3, rfl, ⟨x0_3, rfl, wx0_3⟩, h0_3⟩ := LeafAll.cons h0_2
  obtain ⟨_, cs0_4, rfl, ⟨x0_4, rfl⟩, h0_4⟩ := LeafAll.cons h0_3
  obtain ⟨_, cs0_5, rfl, ⟨x0_5, rfl, wx0_5⟩, h0_5⟩ := LeafAll.cons h0_4
  obtain ⟨_, cs0_6, rfl, ⟨x0_6, rfl, wx0_6⟩, h0_6⟩ := LeafAll.cons h0_5
  obtain ⟨_, cs0_7, rfl, ⟨x0_7, rfl, wx0_7⟩, h0_7⟩ := LeafAll.cons h0_6
  obtain rfl := LeafAll.nil h0_7
  obtain ⟨x1, rfl, wx1⟩ := Arg.int Tryd.underlying3 (harg 1 3 v1 rfl rfl)
  obtain ⟨k, hk⟩ := gangwaylaw04_EtherTags_pure (api_Frame.mk x0_0 x0_1 (api_Tag.mk x0_2 x0_3 x0_4 x0_5) x0_6 x0_7) x1 (Eng.wf_u64 wx0_0) (Eng.wf_u64 wx0_1) (Eng.wf_i64 wx0_3) (Eng.wf_i64 wx0_5) (Eng.wf_i64 wx0_6) wx0_7 (Eng.wf_i64 wx1)
  exact (gangwaylaw04_EtherTags_calls k (api_Frame.mk x0_0 x0_1 (api_Tag.mk x0_2 x0_3 x0_4 x0_5) x0_6 x0_7) x1 true hk W ⟨[], fun _ => True⟩ (Row.start hx)).mono fun e w' ⟨he, hs⟩ => ⟨he, hs.below⟩

set_option maxRecDepth 100000 in
theorem etherTags_lifted (os : Os) (started : os.Started) (H : Type) (enc : TypeId × Value → H) :
    ReturnsInHanded {} Tryd.checked os 7 .any (fun w args => (Rows.etherTagsSpec.pre enc Tryd.prog Tryd.f7 [] false w args ∧ laidMetH Tryd.prog (Row.laid (H := Unit)) w) ∧ sizedMet enc Tryd.prog Tryd.f7 (OpenSpec.ofChange Rows.etherTagsSpec) false w args)
      (Rows.etherTagsSpec.post enc Tryd.prog Tryd.f7 false true false false) :=
  lift_law (C := Tryd.checked) (X := fun w => laidMetH Tryd.prog (Row.laid (H := Unit)) w) 4 (fun _ _ hh h => h.of_heap hh) Row.own started (by kernel_rfl) Tryd.func7 rfl
    (fun H ds hds => by
      rcases ds with _ | ⟨d0, ds⟩
      · cases hds
      ·
        rcases ds with _ | ⟨d1, ds⟩
        · cases hds
        ·
          rcases ds with _ | ⟨d2, ds⟩
          · rfl
          · cases hds)
    (by kernel_rfl) (by kernel_rfl) Row.laidOut (by kernel_rfl) H enc
    (ChangeSpec.witness_at (enc := enc) (C := Tryd.checked) (os := os) (X := fun w _ => laidMetH Tryd.prog (Row.laid (H := Unit)) w) false (Row.world os) #[.agg #[.int .u64 0, .int .u64 0, .bool false, .int .i64 0, .bool false, .int .i64 0, .int .i64 0, .string ByteArray.empty], .int .i64 0] 8 rfl (by kernel_rfl) (by kernel_rfl) (by kernel_rfl) (by kernel_rfl) (by kernel_rfl) (Row.met os _))
    etherTags_walk

theorem etherTags_said : Rows.EtherTagsSaid :=
  OpenClaim.holds_of_wide 7 Tryd.f7 rfl rfl rfl rfl rfl rfl rfl ⟨rfl, rfl, rfl, rfl, rfl⟩ rfl rfl rfl rfl rfl (by kernel_rfl) Tryd.func7 (by kernel_rfl)
    (of_decide_eq_true (by kernel_rfl)) (by unfold Func.isWrapper; rw [if_neg (of_decide_eq_false (by kernel_rfl))]; exact ⟨rfl, rfl⟩)
    (fun os started H enc _ => etherTags_lifted os started H enc)

/-- THE CARD. -/
theorem etherTags_card : Rows.EtherTagsCardSaid :=
  Claim7.holds_tied_plain_at .later [] [.handle] true (true, "61a527e199fb1d9030788200f951fc72dfb1bf8a629be732a5b387efafe22e7d") true etherTags_said (fun _ h => by cases h) (by kernel_rfl) (fun _ h => by cases h) etherTags_row_tie rfl ⟨rfl, rfl⟩ (by kernel_rfl) rfl
    (fun f fn hf hfn => by
      obtain rfl : f = 7 := Option.some.inj ((show Tryd.prog.funcNamed "gangway/gangwaylaw04.EtherTags" = some 7 by kernel_rfl).symm.trans hf) |>.symm
      obtain rfl : fn = Tryd.f7 := (Option.some.inj (Tryd.func7.symm.trans hfn)).symm
      exact ⟨by kernel_rfl, noStand (by kernel_rfl)⟩)
    (by kernel_rfl)
#print axioms etherTags_card
end Go.Proofs.YtefbjefmclhhjaaDoor
