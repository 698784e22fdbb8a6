/- The law EtherBuilds returns true for every input, and its arguments read as before: the tied card, with the condition that the listed variable errors.errorType is as the program's text lays it. -/
import Derived.Test.YtefbjefmclhhjaaDoorF3
import Derived.Test.YtefbjefmclhhjaaDoorP1
import Derived.Test.YtefbjefmclhhjaaDoorRow

namespace Go.Proofs.YtefbjefmclhhjaaDoor
open Go Eng
set_option linter.unusedVariables false

/-- What is left of the law: plain Lean. -/
def gangwaylaw04_EtherBuilds.Pure : Prop := ∀ a0 : api_Frame, ∀ a1 : api_Tag, 0 ≤ a0.Dst ∧ a0.Dst ≤ 18446744073709551615 → 0 ≤ a0.Src ∧ a0.Src ≤ 18446744073709551615 → (-9223372036854775808) ≤ a0.Tag.Pri ∧ a0.Tag.Pri ≤ 9223372036854775807 → (-9223372036854775808) ≤ a0.Tag.Vid ∧ a0.Tag.Vid ≤ 9223372036854775807 → (-9223372036854775808) ≤ a0.Type_ ∧ a0.Type_ ≤ 9223372036854775807 → a0.Body.size ≤ 140737488351232 → (-9223372036854775808) ≤ a1.Pri ∧ a1.Pri ≤ 9223372036854775807 → (-9223372036854775808) ≤ a1.Vid ∧ a1.Vid ≤ 9223372036854775807 → ∃ k, gangwaylaw04_EtherBuilds.f k a0 a1 = some true
end Go.Proofs.YtefbjefmclhhjaaDoor

namespace Go.Proofs.YtefbjefmclhhjaaDoor
open Go Eng
set_option linter.unusedVariables false
set_option linter.unusedSimpArgs false

theorem bytes_loop (v n : Nat) (hv : v < 18446744073709551616) (hn : n ≤ 8) : ∀ (j i fuel : Nat), i + j = n → j < fuel → gangwayref01_Bytes.l1 n fuel ((v / 256 ^ i : Nat) : Int) (be i v) i = some (be n v)
  | 0, i, 0, hij, hf => by omega
  | 0, i, fuel + 1, hij, hf => by
    obtain rfl : i = n := by omega
    simp only [gangwayref01_Bytes.l1]
    rw [show decide ((i : Int) < (i : Int)) = false by simp]
    rfl
  | j + 1, i, 0, hij, hf => by omega
  | j + 1, i, fuel + 1, hij, hf => by
    simp only [gangwayref01_Bytes.l1]
    rw [show decide ((i : Int) < (n : Int)) = true by simp; omega]
    simp only [cond_true]
    have hq : v / 256 ^ i ≤ v := Nat.div_le_self _ _
    generalize hx : v / 256 ^ i = x at hq
    have e1 : (u8 (Int.tmod ((x : Nat) : Int) 256)).toNat = x % 256 := by
      rw [Int.tmod_eq_emod_of_nonneg (by omega), u8_id (by omega)]
      omega
    have e2 : u64 (Int.tdiv ((x : Nat) : Int) 256) = ((v / 256 ^ (i + 1) : Nat) : Int) := by
      rw [Int.tdiv_eq_ediv_of_nonneg (by omega), u64_id (by omega), Nat.pow_succ, ← Nat.div_div_eq_div_mul, hx]
      omega
    rw [e1, catS_eq (by rw [be_size]; simp; omega), Option.bind_some, e2, i64_id (by omega)]
    have e3 : ByteArray.push ByteArray.empty (UInt8.ofNat (x % 256)) ++ be i v = be (i + 1) v := L_inj (by
      rw [L_append, L_be, L_be]
      simp only [beL, hx]
      rfl)
    rw [e3]
    exact bytes_loop v n hv hn j (i + 1) fuel (by omega) (by omega)

theorem rbytes (v wi : Int) (w : Nat) (hwi : wi = (w : Int)) (hw : w ≤ 8) (h0 : 0 ≤ v) (hv2 : v < 18446744073709551616) : gangwayref01_Bytes.f 10 v wi = some (be w v.toNat) := by
  subst hwi
  have e : v = ((v.toNat / 256 ^ 0 : Nat) : Int) := by simp; omega
  have := bytes_loop v.toNat w (by omega) hw w 0 10 (by omega) (by omega)
  rw [← e] at this
  exact this

theorem ref_tag (t : api_Tag) : gangwayref04_tag.f t = ether_tag.f t := by
  obtain ⟨h, p, d, v⟩ := t
  unfold gangwayref04_tag.f ether_tag.f
  cases h
  · simp only [cond_false, Bool.not_false, cond_true]
    congr 1
    cases d <;> simp [Bool.and_assoc]
  · simp only [cond_true, Bool.not_true, cond_false]
    congr 1
    have e1 : decide (p ≤ 7) = decide (p < 8) := by congr 1; apply propext; omega
    have e2 : decide (v ≤ 4095) = decide (v < 4096) := by congr 1; apply propext; omega
    rw [e1, e2]

theorem ref_check (a : api_Frame) (h1 : 0 ≤ a.Dst ∧ a.Dst ≤ 18446744073709551615) (h2 : 0 ≤ a.Src ∧ a.Src ≤ 18446744073709551615) : gangwayref04_Check.f a = ether_Check.f a := by
  have hfd : ∀ x : Int, 0 ≤ x → ((Int.fdiv x 281474976710656) != 0) = decide (x ≥ 281474976710656) := fun x hx => by
    rw [Int.fdiv_eq_ediv_of_nonneg _ (by decide)]
    by_cases h : x ≥ 281474976710656
    · rw [decide_eq_true h]; simp; omega
    · rw [decide_eq_false h]; simp; omega
  have hk2 : ∀ x y, x = y → gangwayref04_Check.k2 a x = ether_Check.k1 a y := fun x y e => by
    subst e
    unfold gangwayref04_Check.k2 ether_Check.k1
    cases x
    · simp only [cond_false]
      cases ((a.Type_ == 0) && (decide ((a.Body.size : Int) > 1500)))
      · simp only [cond_false]
        unfold ether_size.f ether_size.k1
        cases a.Tag.Has
        · rfl
        · rfl
      · rfl
    · rfl
  have hk1 : ∀ x, gangwayref04_Check.k1 a x = ether_Check.k2 a x := fun x => by
    unfold gangwayref04_Check.k1 ether_Check.k2
    cases x
    · simp only [cond_false]
      by_cases ht : a.Type_ = 0
      · rw [show (a.Type_ != 0) = false by simp [ht], cond_false, Bool.false_and]
        exact hk2 _ _ rfl
      · rw [show (a.Type_ != 0) = true by simp [ht], cond_true, Bool.true_and]
        refine hk2 _ _ ?_
        have q1 : decide (a.Type_ ≥ 1536) = !decide (a.Type_ < 1536) := by
          rw [← decide_not]
          congr 1
          apply propext
          omega
        have q2 : decide (a.Type_ ≤ 65535) = !decide (a.Type_ > 65535) := by
          rw [← decide_not]
          congr 1
          apply propext
          omega
        rw [q1, q2, show (a.Type_ != 33024) = !(a.Type_ == 33024) from rfl]
        cases decide (a.Type_ < 1536) <;> cases decide (a.Type_ > 65535) <;> cases (a.Type_ == 33024) <;> rfl
    · rfl
  unfold gangwayref04_Check.f ether_Check.f
  rw [hfd _ h1.1, hfd _ h2.1, ref_tag]
  cases ((decide (a.Dst ≥ 281474976710656)) || (decide (a.Src ≥ 281474976710656)))
  · simp only [cond_false]
    simp only [hk1]
  · exact hk1 true

theorem ref_build_good (a : api_Frame) (g : Good a) : gangwayref04_Build.f 10 a = some (⟨(frameL a).toArray⟩, 0) := by
  have hbs : a.Body.size ≤ 1600 := by have := g.size; omega
  have hd := g.dst
  have hs := g.src
  obtain ⟨c, hc, hc0⟩ := check_spec a g.dst.1 g.src.1 (by omega)
  have : c = 0 := hc0.2 g
  subst this
  unfold gangwayref04_Build.f
  rw [ref_check a (by omega) (by omega), hc, Option.bind_some, show ((0 : Int) != 0) = false from rfl]
  simp only [cond_false]
  rw [rbytes a.Dst 6 6 rfl (by omega) g.dst.1 (by omega), Option.bind_some, rbytes a.Src 6 6 rfl (by omega) g.src.1 (by omega), Option.bind_some, catS_eq (by simp [be_size]), Option.bind_some]
  have k1 : ∀ (x : ByteArray) (z : Int), x.size ≤ 100 → z = ((typeN a : Nat) : Int) → gangwayref04_Build.k2 10 x a z = some (⟨(L x ++ (beL 2 (typeN a) ++ L a.Body)).toArray⟩, 0) := fun x z hx hz => by
    have hz2 : z < 65536 := by
      rw [hz]
      rcases g.type with h | h
      · simp only [typeN, h.1, if_true]; omega
      · simp only [typeN]; rw [if_neg (by omega)]; omega
    unfold gangwayref04_Build.k2
    rw [u64_id (by omega), rbytes z 2 2 rfl (by omega) (by omega) (by omega), Option.bind_some]
    have e : z.toNat = typeN a := by omega
    rw [e, catS_eq (by simp [be_size]; omega), Option.bind_some, catS_eq (by simp [be_size]; omega), Option.bind_some]
    refine congrArg (fun z => some (z, (0 : Int))) (L_inj (Eq.trans ?_ (L_mk _).symm))
    rw [L_append, L_append, L_be, List.append_assoc]
  have k2 : ∀ (x : ByteArray), x.size ≤ 100 → gangwayref04_Build.k3 a 10 x = some (⟨(L x ++ (beL 2 (typeN a) ++ L a.Body)).toArray⟩, 0) := fun x hx => by
    unfold gangwayref04_Build.k3
    by_cases ht : a.Type_ = 0
    · rw [show (a.Type_ == 0) = true by simp [ht]]
      exact k1 x _ hx (by simp [typeN, ht])
    · rw [show (a.Type_ == 0) = false by simp [ht]]
      refine k1 x _ hx ?_
      rcases g.type with h | h
      · exact absurd h.1 ht
      · simp only [typeN]; rw [if_neg ht]; omega
  cases hh : a.Tag.Has
  · simp only [cond_false]
    rw [k2 _ (by simp [be_size])]
    refine congrArg (fun z => some (z, (0 : Int))) (L_inj (Eq.trans (L_mk _) (Eq.trans ?_ (L_mk _).symm)))
    rw [L_append, L_be, L_be]
    simp [frameL, tagL, hh]
  · simp only [cond_true]
    obtain ⟨_, hi2⟩ := info_spec a.Tag (g.tag hh)
    have hti := g.tag hh
    have kk : ∀ z : Int, z = ((infoN a.Tag : Nat) : Int) → gangwayref04_Build.k1 10 (be 6 a.Dst.toNat ++ be 6 a.Src.toNat) a z = some (⟨(frameL a).toArray⟩, 0) := fun z hz => by
      subst hz
      unfold gangwayref04_Build.k1
      rw [u64_id (by omega), rbytes _ 2 2 rfl (by omega) (by omega) (by omega), Option.bind_some, catS_eq (by rw [be_size]; decide), Option.bind_some, catS_eq (by
        have : (⟨#[129, 0]⟩ : ByteArray).size = 2 := rfl
        simp [be_size, this]), Option.bind_some, k2 _ (by
        have : (⟨#[129, 0]⟩ : ByteArray).size = 2 := rfl
        simp [be_size, this])]
      refine congrArg (fun z => some (z, (0 : Int))) (L_inj (Eq.trans (L_mk _) (Eq.trans ?_ (L_mk _).symm)))
      rw [L_append, L_append, L_append, L_be, L_be, L_be]
      rw [show L (⟨#[129, 0]⟩ : ByteArray) = beL 2 33024 by decide]
      simp [frameL, tagL, hh]
    have e0 : i64 (a.Tag.Pri * 8192) = a.Tag.Pri * 8192 := i64_id (by omega)
    have e1 : i64 (a.Tag.Pri * 8192 + a.Tag.Vid) = a.Tag.Pri * 8192 + a.Tag.Vid := i64_id (by omega)
    cases hde : a.Tag.Dei
    · simp only [cond_false]
      refine kk _ ?_
      rw [e0, e1]
      simp only [infoN, hde, Bool.false_eq_true, if_false]
      omega
    · simp only [cond_true]
      refine kk _ ?_
      rw [e0, e1, i64_id (by omega)]
      simp only [infoN, hde, if_true]
      omega

theorem ref_build (a : api_Frame) (h1 : 0 ≤ a.Dst ∧ a.Dst ≤ 18446744073709551615) (h2 : 0 ≤ a.Src ∧ a.Src ≤ 18446744073709551615) (hb : a.Body.size ≤ 140737488351232) : ∃ x, gangwayref04_Build.f 10 a = some x ∧ ether_Build.f 10 a = some x := by
  by_cases hg : Good a
  · exact ⟨_, ref_build_good a hg, build_good a hg⟩
  · obtain ⟨c, hc, hk, hbb⟩ := build_bad a h1.1 h2.1 hb hg
    refine ⟨_, ?_, hbb⟩
    unfold gangwayref04_Build.f
    rw [ref_check a h1 h2, hk, Option.bind_some, show (c != 0) = true by simp [hc]]
    rfl

theorem gangwaylaw04_EtherBuilds_pure : gangwaylaw04_EtherBuilds.Pure := by
  intro a0 a1 h1 h2 h3 h4 h5 h6 h7 h8
  refine ⟨10, ?_⟩
  unfold gangwaylaw04_EtherBuilds.f
  obtain ⟨t2, e2, z2⟩ := cut_spec a0.Body 1700
  rw [show ((1700 : Nat) : Int) = 1700 from rfl] at e2
  rw [e2, Option.bind_some]
  obtain ⟨⟨s, c⟩, hr, he⟩ := ref_build ⟨a0.Dst, a0.Src, a0.Tag, a0.Type_, t2⟩ h1 h2 (by simp only; omega)
  obtain ⟨q, hq, _⟩ := check_spec ⟨a0.Dst, a0.Src, a0.Tag, a0.Type_, t2⟩ h1.1 h2.1 (by simp only; omega)
  rw [he, Option.bind_some]
  simp only
  rw [hr, Option.bind_some]
  simp only [ether_Tagged.f, Option.bind_some]
  rw [fixed_true, Option.bind_some, beq_self_eq_true, beq_self_eq_true]
  simp only [Bool.and_self, cond_true]
  rw [hq, Option.bind_some, ref_check ⟨a0.Dst, a0.Src, a0.Tag, a0.Type_, t2⟩ h1 h2, hq, Option.bind_some, beq_self_eq_true]
  unfold gangwaylaw04_EtherBuilds.k3
  rw [cond_true]
  simp only [beq_self_eq_true, bytes_refl, Bool.and_self]
  unfold gangwaylaw04_EtherBuilds.k2
  rw [cond_true]
  simp only [ether_Bare.f, Option.bind_some, beq_self_eq_true, bytes_refl, Bool.and_self]
  rfl
end Go.Proofs.YtefbjefmclhhjaaDoor

namespace Go.Proofs.YtefbjefmclhhjaaDoor
open Go Eng Go.RowKit
set_option linter.unusedVariables false

/-- The law's walk, at whatever arguments the row gives. -/
theorem etherBuilds_walk (W : World) (args : Array Value) (hsz : args.size = Tryd.f6.params.size) (harg : ∀ (j : Nat) t v, Tryd.f6.params[j]? = some t → args[j]? = some v → Arg Tryd.prog W t v) (hx : laidMetH Tryd.prog (Row.laid (H := Unit)) W) :
    Calls Tryd.prog 6 args W fun e w' => e = .returned (.bool true) ∧ Below W.heap.size W w' := by
  rw [Tryd.params6] at hsz harg
  obtain ⟨v0, v1, rfl⟩ := args_two hsz
  obtain ⟨cs0, rfl, h0⟩ := Arg.agg (L := [.int .u64, .int .u64, .bool, .int .i64, .bool, .int .i64, .int .i64, .str]) 6 Tryd.underlying26 (by kernel_rfl) (harg 0 26 v0 rfl rfl)
  obtain ⟨_, cs0_0, rfl, ⟨x0_0, rfl, wx0_0⟩, h0_0⟩ := LeafAll.cons h0
  obtain ⟨_, cs0_1, rfl, ⟨x0_1, rfl, wx0_1⟩, h0_1⟩ := LeafAll.cons h0_0
  obtain ⟨_, cs0_2, rfl, ⟨x0_2, rfl⟩, h0_2⟩ := LeafAll.cons h0_1
  obtain ⟨_, cs0_3, rfl, ⟨x0_3, rfl, wx0_3⟩, h0_3⟩ := LeafAll.cons h0_2
  obtain ⟨_, cs0_4, rfl, ⟨x0_4, rfl⟩, h0_4⟩ := LeafAll.cons h0_3
  obtain ⟨_, cs0_5, rfl, ⟨x0_5, rfl, wx0_5⟩, h0_5⟩ := LeafAll.cons h0_4
  obtain ⟨_, cs0_6, rfl, ⟨x0_6, rfl, wx0_6⟩, h0_6⟩ := LeafAll.cons h0_5
  obtain ⟨_, cs0_7, rfl, ⟨x0_7, rfl, wx0_7⟩, h0_7⟩ := LeafAll.cons h0_6
  obtain rfl := LeafAll.nil h0_7
  obtain ⟨cs1, rfl, h1⟩ := Arg.agg (L := [.bool, .int .i64, .bool, .int .i64]) 6 Tryd.underlying24 (by kernel_rfl) (harg 1 24 v1 rfl rfl)
  obtain ⟨_, cs1_0, rfl, ⟨x1_0, rfl⟩, h1_0⟩ := LeafAll.cons h1
  obtain ⟨_, cs1_1, rfl, ⟨x1_1, rfl, wx1_1⟩, h1_1⟩ := LeafAll.cons h1_0
  obtain ⟨_, cs1_2, rfl, ⟨x1_2, rfl⟩, h1_2⟩ := LeafAll.cons h1_1
  obtain ⟨_, cs1_3, rfl, ⟨x1_3, rfl, wx1_3⟩, h1_3⟩ := LeafAll.cons h1_2
  obtain rfl := LeafAll.nil h1_3
  obtain ⟨k, hk⟩ := gangwaylaw04_EtherBuilds_pure (api_Frame.mk x0_0 x0_1 (api_Tag.mk x0_2 x0_3 x0_4 x0_5) x0_6 x0_7) (api_Tag.mk x1_0 x1_1 x1_2 x1_3) (Eng.wf_u64 wx0_0) (Eng.wf_u64 wx0_1) (Eng.wf_i64 wx0_3) (Eng.wf_i64 wx0_5) (Eng.wf_i64 wx0_6) wx0_7 (Eng.wf_i64 wx1_1) (Eng.wf_i64 wx1_3)
  exact (gangwaylaw04_EtherBuilds_calls k (api_Frame.mk x0_0 x0_1 (api_Tag.mk x0_2 x0_3 x0_4 x0_5) x0_6 x0_7) (api_Tag.mk x1_0 x1_1 x1_2 x1_3) true hk W ⟨[], fun _ => True⟩ (Row.start hx)).mono fun e w' ⟨he, hs⟩ => ⟨he, hs.below⟩

set_option maxRecDepth 100000 in
theorem etherBuilds_lifted (os : Os) (started : os.Started) (H : Type) (enc : TypeId × Value → H) :
    ReturnsInHanded {} Tryd.checked os 6 .any (fun w args => (Rows.etherBuildsSpec.pre enc Tryd.prog Tryd.f6 [] false w args ∧ laidMetH Tryd.prog (Row.laid (H := Unit)) w) ∧ sizedMet enc Tryd.prog Tryd.f6 (OpenSpec.ofChange Rows.etherBuildsSpec) false w args)
      (Rows.etherBuildsSpec.post enc Tryd.prog Tryd.f6 false true false false) :=
  lift_law (C := Tryd.checked) (X := fun w => laidMetH Tryd.prog (Row.laid (H := Unit)) w) 4 (fun _ _ hh h => h.of_heap hh) Row.own started (by kernel_rfl) Tryd.func6 rfl
    (fun H ds hds => by
      rcases ds with _ | ⟨d0, ds⟩
      · cases hds
      ·
        rcases ds with _ | ⟨d1, ds⟩
        · cases hds
        ·
          rcases ds with _ | ⟨d2, ds⟩
          · rfl
          · cases hds)
    (by kernel_rfl) (by kernel_rfl) Row.laidOut (by kernel_rfl) H enc
    (ChangeSpec.witness_at (enc := enc) (C := Tryd.checked) (os := os) (X := fun w _ => laidMetH Tryd.prog (Row.laid (H := Unit)) w) false (Row.world os) #[.agg #[.int .u64 0, .int .u64 0, .bool false, .int .i64 0, .bool false, .int .i64 0, .int .i64 0, .string ByteArray.empty], .agg #[.bool false, .int .i64 0, .bool false, .int .i64 0]] 8 rfl (by kernel_rfl) (by kernel_rfl) (by kernel_rfl) (by kernel_rfl) (by kernel_rfl) (Row.met os _))
    etherBuilds_walk

theorem etherBuilds_said : Rows.EtherBuildsSaid :=
  OpenClaim.holds_of_wide 6 Tryd.f6 rfl rfl rfl rfl rfl rfl rfl ⟨rfl, rfl, rfl, rfl, rfl⟩ rfl rfl rfl rfl rfl (by kernel_rfl) Tryd.func6 (by kernel_rfl)
    (of_decide_eq_true (by kernel_rfl)) (by unfold Func.isWrapper; rw [if_neg (of_decide_eq_false (by kernel_rfl))]; exact ⟨rfl, rfl⟩)
    (fun os started H enc _ => etherBuilds_lifted os started H enc)

/-- THE CARD. -/
theorem etherBuilds_card : Rows.EtherBuildsCardSaid :=
  Claim7.holds_tied_plain_at .later [] [.handle] true (true, "61a527e199fb1d9030788200f951fc72dfb1bf8a629be732a5b387efafe22e7d") true etherBuilds_said (fun _ h => by cases h) (by kernel_rfl) (fun _ h => by cases h) etherBuilds_row_tie rfl ⟨rfl, rfl⟩ (by kernel_rfl) rfl
    (fun f fn hf hfn => by
      obtain rfl : f = 6 := Option.some.inj ((show Tryd.prog.funcNamed "gangway/gangwaylaw04.EtherBuilds" = some 6 by kernel_rfl).symm.trans hf) |>.symm
      obtain rfl : fn = Tryd.f6 := (Option.some.inj (Tryd.func6.symm.trans hfn)).symm
      exact ⟨by kernel_rfl, noStand (by kernel_rfl)⟩)
    (by kernel_rfl)
#print axioms etherBuilds_card
end Go.Proofs.YtefbjefmclhhjaaDoor
