/- The law EtherMore returns true for every input, and its arguments read as before: the tied card, with the condition that the listed variable errors.errorType is as the program's text lays it. -/
import Derived.Test.YtefbjefmclhhjaaDoorF2
import Derived.Test.YtefbjefmclhhjaaDoorP1
import Derived.Test.YtefbjefmclhhjaaDoorRow

namespace Go.Proofs.YtefbjefmclhhjaaDoor
open Go Eng
set_option linter.unusedVariables false

/-- What is left of the law: plain Lean. -/
def gangwaylaw04_EtherMore.Pure : Prop := ∀ a0 : api_Frame, ∀ a1 : ByteArray, 0 ≤ a0.Dst ∧ a0.Dst ≤ 18446744073709551615 → 0 ≤ a0.Src ∧ a0.Src ≤ 18446744073709551615 → (-9223372036854775808) ≤ a0.Tag.Pri ∧ a0.Tag.Pri ≤ 9223372036854775807 → (-9223372036854775808) ≤ a0.Tag.Vid ∧ a0.Tag.Vid ≤ 9223372036854775807 → (-9223372036854775808) ≤ a0.Type_ ∧ a0.Type_ ≤ 9223372036854775807 → a0.Body.size ≤ 140737488351232 → a1.size ≤ 140737488351232 → ∃ k, gangwaylaw04_EtherMore.f k a0 a1 = some true
end Go.Proofs.YtefbjefmclhhjaaDoor

namespace Go.Proofs.YtefbjefmclhhjaaDoor
open Go Eng
set_option linter.unusedVariables false
set_option linter.unusedSimpArgs false

theorem same_frame2 (d e p v t : Int) (h dei : Bool) (b b' : ByteArray) (hb : L b = L b') : ((d == d) && ((e == e) && (((h == h) && ((p == p) && ((dei == dei) && ((v == v) && true)))) && ((t == t) && ((b == b') && true))))) = true := by
  rw [bytes_beq, hb]; simp

theorem more_k4 (a0 g : api_Frame) (x : ByteArray) (h1 : g.Dst = a0.Dst) (h2 : g.Src = a0.Src) (h3 : g.Tag = a0.Tag) (h4 : g.Type_ = a0.Type_) (h5 : L g.Body = L x) : gangwaylaw04_EtherMore.k4 0 10 g a0 x = some true := by
  unfold gangwaylaw04_EtherMore.k4
  rw [show ((0 : Int) == 0) = true from rfl, cond_true, h1, h2, h3, h4, same_frame2 _ _ _ _ _ _ _ _ _ h5]
  unfold gangwaylaw04_EtherMore.k3
  rw [cond_true, fixed_true]
  rfl

theorem gangwaylaw04_EtherMore_pure : gangwaylaw04_EtherMore.Pure := by
  intro a0 a1 h1 h2 h3 h4 h5 h6 h7
  refine ⟨10, ?_⟩
  unfold gangwaylaw04_EtherMore.f
  obtain ⟨t2, e2, z2⟩ := cut_spec a0.Body 700
  obtain ⟨t4, e4, z4⟩ := cut_spec a1 700
  rw [show ((700 : Nat) : Int) = 700 from rfl] at e2 e4
  rw [e2, Option.bind_some, e4, Option.bind_some]
  by_cases hg : Good ⟨a0.Dst, a0.Src, a0.Tag, a0.Type_, t2⟩
  · have hl := frameL_len ⟨a0.Dst, a0.Src, a0.Tag, a0.Type_, t2⟩
    have hz := mk_size (frameL ⟨a0.Dst, a0.Src, a0.Tag, a0.Type_, t2⟩)
    have hif : (if a0.Tag.Has then 4 else 0) ≤ 4 := by split <;> omega
    simp only at hl
    rw [build_good _ hg, Option.bind_some]
    simp only
    rw [show ((0 : Int) != 0) = false from rfl, cond_false]
    generalize hB : (⟨(frameL ⟨a0.Dst, a0.Src, a0.Tag, a0.Type_, t2⟩).toArray⟩ : ByteArray) = B at hz ⊢
    have hLB : L B = frameL ⟨a0.Dst, a0.Src, a0.Tag, a0.Type_, t2⟩ := by rw [← hB]; rfl
    rw [catS_eq (by omega), Option.bind_some, parse_spec, Option.bind_some]
    rw [parse_build _ hg (B ++ t4) (L t4) (by rw [L_append, hLB]) (by rw [ByteArray.size_append]; omega)]
    simp only
    by_cases ht : a0.Type_ = 0
    · rw [show (a0.Type_ != 0) = false by simp [ht], cond_false]
      refine more_k4 a0 _ t2 rfl rfl rfl rfl ?_
      simp only [more]
      rw [if_pos ht]
    · rw [show (a0.Type_ != 0) = true by simp [ht], cond_true, catS_eq (by omega), Option.bind_some]
      refine more_k4 a0 _ (t2 ++ t4) rfl rfl rfl rfl ?_
      simp only [more]
      rw [if_neg ht, L_append]
      rfl
  · obtain ⟨c, hc, _, hb⟩ := build_bad ⟨a0.Dst, a0.Src, a0.Tag, a0.Type_, t2⟩ h1.1 h2.1 (by simp only; omega) hg
    rw [hb, Option.bind_some]
    simp only
    rw [show (c != 0) = true by simp [hc], cond_true, beq_self_eq_true, cond_true, fixed_true]
    rfl
end Go.Proofs.YtefbjefmclhhjaaDoor

namespace Go.Proofs.YtefbjefmclhhjaaDoor
open Go Eng Go.RowKit
set_option linter.unusedVariables false

/-- The law's walk, at whatever arguments the row gives. -/
theorem etherMore_walk (W : World) (args : Array Value) (hsz : args.size = Tryd.f5.params.size) (harg : ∀ (j : Nat) t v, Tryd.f5.params[j]? = some t → args[j]? = some v → Arg Tryd.prog W t v) (hx : laidMetH Tryd.prog (Row.laid (H := Unit)) W) :
    Calls Tryd.prog 5 args W fun e w' => e = .returned (.bool true) ∧ Below W.heap.size W w' := by
  rw [Tryd.params5] at hsz harg
  obtain ⟨v0, v1, rfl⟩ := args_two hsz
  obtain ⟨cs0, rfl, h0⟩ := Arg.agg (L := [.int .u64, .int .u64, .bool, .int .i64, .bool, .int .i64, .int .i64, .str]) 6 Tryd.underlying26 (by kernel_rfl) (harg 0 26 v0 rfl rfl)
  obtain ⟨_, cs0_0, rfl, ⟨x0_0, rfl, wx0_0⟩, h0_0⟩ := LeafAll.cons h0
  obtain ⟨_, cs0_1, rfl, ⟨x0_1, rfl, wx0_1⟩, h0_1⟩ := LeafAll.cons h0_0
  obtain ⟨_, cs0_2, rfl, ⟨x0_2, rfl⟩, h0_2⟩ := LeafAll.cons h0_1
  obtain ⟨_, cs0_3, rfl, ⟨x0_3, rfl, wx0_3⟩, h0_3⟩ := LeafAll.cons h0_2
  obtain ⟨_, cs0_4, rfl, ⟨x0_4, rfl⟩, h0_4⟩ := LeafAll.cons h0_3
  obtain ⟨_, cs0_5, rfl, ⟨x0_5, rfl, wx0_5⟩, h0_5⟩ := LeafAll.cons h0_4
  obtain ⟨_, cs0_6, rfl, ⟨x0_6, rfl, wx0_6⟩, h0_6⟩ := LeafAll.cons h0_5
  obtain ⟨_, cs0_7, rfl, ⟨x0_7, rfl, wx0_7⟩, h0_7⟩ := LeafAll.cons h0_6
  obtain rfl := LeafAll.nil h0_7
  obtain ⟨x1, rfl, wx1⟩ := Arg.str Tryd.underlying9 (harg 1 9 v1 rfl rfl)
  obtain ⟨k, hk⟩ := gangwaylaw04_EtherMore_pure (api_Frame.mk x0_0 x0_1 (api_Tag.mk x0_2 x0_3 x0_4 x0_5) x0_6 x0_7) x1 (Eng.wf_u64 wx0_0) (Eng.wf_u64 wx0_1) (Eng.wf_i64 wx0_3) (Eng.wf_i64 wx0_5) (Eng.wf_i64 wx0_6) wx0_7 wx1
  exact (gangwaylaw04_EtherMore_calls k (api_Frame.mk x0_0 x0_1 (api_Tag.mk x0_2 x0_3 x0_4 x0_5) x0_6 x0_7) x1 true hk W ⟨[], fun _ => True⟩ (Row.start hx)).mono fun e w' ⟨he, hs⟩ => ⟨he, hs.below⟩

set_option maxRecDepth 100000 in
theorem etherMore_lifted (os : Os) (started : os.Started) (H : Type) (enc : TypeId × Value → H) :
    ReturnsInHanded {} Tryd.checked os 5 .any (fun w args => (Rows.etherMoreSpec.pre enc Tryd.prog Tryd.f5 [] false w args ∧ laidMetH Tryd.prog (Row.laid (H := Unit)) w) ∧ sizedMet enc Tryd.prog Tryd.f5 (OpenSpec.ofChange Rows.etherMoreSpec) false w args)
      (Rows.etherMoreSpec.post enc Tryd.prog Tryd.f5 false true false false) :=
  lift_law (C := Tryd.checked) (X := fun w => laidMetH Tryd.prog (Row.laid (H := Unit)) w) 4 (fun _ _ hh h => h.of_heap hh) Row.own started (by kernel_rfl) Tryd.func5 rfl
    (fun H ds hds => by
      rcases ds with _ | ⟨d0, ds⟩
      · cases hds
      ·
        rcases ds with _ | ⟨d1, ds⟩
        · cases hds
        ·
          rcases ds with _ | ⟨d2, ds⟩
          · rfl
          · cases hds)
    (by kernel_rfl) (by kernel_rfl) Row.laidOut (by kernel_rfl) H enc
    (ChangeSpec.witness_at (enc := enc) (C := Tryd.checked) (os := os) (X := fun w _ => laidMetH Tryd.prog (Row.laid (H := Unit)) w) false (Row.world os) #[.agg #[.int .u64 0, .int .u64 0, .bool false, .int .i64 0, .bool false, .int .i64 0, .int .i64 0, .string ByteArray.empty], .string ByteArray.empty] 8 rfl (by kernel_rfl) (by kernel_rfl) (by kernel_rfl) (by kernel_rfl) (by kernel_rfl) (Row.met os _))
    etherMore_walk

theorem etherMore_said : Rows.EtherMoreSaid :=
  OpenClaim.holds_of_wide 5 Tryd.f5 rfl rfl rfl rfl rfl rfl rfl ⟨rfl, rfl, rfl, rfl, rfl⟩ rfl rfl rfl rfl rfl (by kernel_rfl) Tryd.func5 (by kernel_rfl)
    (of_decide_eq_true (by kernel_rfl)) (by unfold Func.isWrapper; rw [if_neg (of_decide_eq_false (by kernel_rfl))]; exact ⟨rfl, rfl⟩)
    (fun os started H enc _ => etherMore_lifted os started H enc)

/-- THE CARD. -/
theorem etherMore_card : Rows.EtherMoreCardSaid :=
  Claim7.holds_tied_plain_at .later [] [.handle] true (true, "61a527e199fb1d9030788200f951fc72dfb1bf8a629be732a5b387efafe22e7d") true etherMore_said (fun _ h => by cases h) (by kernel_rfl) (fun _ h => by cases h) etherMore_row_tie rfl ⟨rfl, rfl⟩ (by kernel_rfl) rfl
    (fun f fn hf hfn => by
      obtain rfl : f = 5 := Option.some.inj ((show Tryd.prog.funcNamed "gangway/gangwaylaw04.EtherMore" = some 5 by kernel_rfl).symm.trans hf) |>.symm
      obtain rfl : fn = Tryd.f5 := (Option.some.inj (Tryd.func5.symm.trans hfn)).symm
      exact ⟨by kernel_rfl, noStand (by kernel_rfl)⟩)
    (by kernel_rfl)
#print axioms etherMore_card
end Go.Proofs.YtefbjefmclhhjaaDoor
