/- The law EtherParses returns true for every input, and its arguments read as before: the tied card, with the condition that the listed variable errors.errorType is as the program's text lays it. -/
import Derived.Test.YtefbjefmclhhjaaDoorF2
import Derived.Test.YtefbjefmclhhjaaDoorP1
import Derived.Test.YtefbjefmclhhjaaDoorRow

namespace Go.Proofs.YtefbjefmclhhjaaDoor
open Go Eng
set_option linter.unusedVariables false

/-- What is left of the law: plain Lean. -/
def gangwaylaw04_EtherParses.Pure : Prop := ∀ a0 : ByteArray, a0.size ≤ 140737488351232 → ∃ k, gangwaylaw04_EtherParses.f k a0 = some true
end Go.Proofs.YtefbjefmclhhjaaDoor

namespace Go.Proofs.YtefbjefmclhhjaaDoor
open Go Eng
set_option linter.unusedVariables false
set_option linter.unusedSimpArgs false

theorem idx_L (r : ByteArray) (i : Nat) (h : i < (L r).length) : idxS r (i : Int) = some (((L r)[i].toNat : Nat) : Int) := by
  unfold idxS
  rw [if_pos (by omega)]
  have : (r.data[(i : Int).toNat]?) = some (L r)[i] := by
    rw [← Array.getElem?_toList]
    exact List.getElem?_eq_getElem h
  rw [this]; rfl

theorem num_loop (r : ByteArray) (hn : r.size ≤ 7) : ∀ (j i fuel : Nat), i + j = r.size → j < fuel → gangwayref01_Num.l1 r fuel ((beV ((L r).take i) : Nat) : Int) i = some ((beV (L r) : Nat) : Int)
  | 0, i, 0, hij, hf => by omega
  | 0, i, fuel + 1, hij, hf => by
    simp only [gangwayref01_Num.l1]
    rw [show decide ((i : Int) < (r.size : Int)) = false by simp; omega]
    rw [List.take_of_length_le (by rw [L_length]; omega)]
    rfl
  | j + 1, i, 0, hij, hf => by omega
  | j + 1, i, fuel + 1, hij, hf => by
    simp only [gangwayref01_Num.l1]
    rw [show decide ((i : Int) < (r.size : Int)) = true by simp; omega]
    simp only [cond_true]
    have hlen : i < (L r).length := by rw [L_length]; omega
    rw [idx_L r i hlen, Option.bind_some]
    have ht : (L r).take (i + 1) = (L r).take i ++ [(L r)[i]] := by rw [List.take_append_getElem]
    have hb := beV_lt ((L r).take i)
    rw [List.length_take, Nat.min_eq_left (by omega)] at hb
    have hp : 256 ^ i ≤ 256 ^ 6 := Nat.pow_le_pow_right (by decide) (by omega)
    have h6 : (256 : Nat) ^ 6 = 281474976710656 := by decide
    have hc := (L r)[i].toNat_lt
    have hval : beV ((L r).take (i + 1)) = beV ((L r).take i) * 256 + (L r)[i].toNat := by
      rw [ht]
      show List.foldl _ 0 (_ ++ _) = _
      rw [List.foldl_append]
      rfl
    have hstep : u64 (u64 (((beV ((L r).take i) : Nat) : Int) * 256) + u64 (((L r)[i].toNat : Nat) : Int)) = ((beV ((L r).take (i + 1)) : Nat) : Int) := by
      rw [hval, u64_id (n := ((beV ((L r).take i) : Nat) : Int) * 256) (by omega), u64_id (n := (((L r)[i].toNat : Nat) : Int)) (by omega), u64_id (by omega)]
      omega
    rw [hstep, i64_id (by omega)]
    exact num_loop r hn j (i + 1) fuel (by omega) (by omega)
theorem num_spec (r : ByteArray) (hn : r.size ≤ 7) : gangwayref01_Num.f 10 r = some ((beV (L r) : Nat) : Int) := num_loop r hn r.size 0 10 (by omega) (by omega)

theorem word_spec (r : ByteArray) (hr : r.size = 2) : gangwayref04_word.f r = some ((beV (L r) : Nat) : Int) := by
  have hl := L_length r
  obtain ⟨x, y, hxy⟩ : ∃ x y, L r = [x, y] := by
    match h : L r, hl with
    | [x, y], _ => exact ⟨x, y, rfl⟩
    | [], hl => simp [hr] at hl
    | [_], hl => simp [hr] at hl
    | _ :: _ :: _ :: _, hl => simp [hr] at hl
  unfold gangwayref04_word.f
  have h0 := idx_L r 0 (by rw [hl]; omega)
  have h1 := idx_L r 1 (by rw [hl]; omega)
  rw [show ((0 : Nat) : Int) = 0 from rfl] at h0
  rw [show ((1 : Nat) : Int) = 1 from rfl] at h1
  have g0 : (L r)[0]'(by rw [hl]; omega) = x := by simp [hxy]
  have g1 : (L r)[1]'(by rw [hl]; omega) = y := by simp [hxy]
  rw [h0, Option.bind_some, h1, Option.bind_some, g0, g1, hxy]
  have hx := x.toNat_lt
  have hy := y.toNat_lt
  have hb : beV [x, y] = x.toNat * 256 + y.toNat := by simp [beV]
  rw [hb, i64_id (n := ((x.toNat : Nat) : Int)) (by omega), i64_id (n := ((y.toNat : Nat) : Int)) (by omega), i64_id (n := ((x.toNat : Nat) : Int) * 256) (by omega), i64_id (by omega)]
  simp

theorem ref_k2 (s : ByteArray) (p n : Nat) (d e : Int) (t : api_Tag) (b : ByteArray) (hb : b = s.extract p s.size) (hp : p ≤ s.size) : gangwayref04_Parse.k2 d e n b t.Has t.Pri t.Dei t.Vid = some (bodyR s p ⟨d, e, t, 0, ⟨#[]⟩⟩ n) := by
  have hz : b.size = s.size - p := by rw [hb]; simp
  unfold gangwayref04_Parse.k2 bodyR
  by_cases h1 : n = 33024
  · subst h1
    rw [if_pos (.inl rfl)]
    rfl
  · rw [show ((n : Int) == 33024) = false by simp; omega, cond_false]
    unfold gangwayref04_Parse.k1
    by_cases h2 : 1500 < n ∧ n < 1536
    · rw [show ((decide ((n : Int) > 1500)) && (decide ((n : Int) < 1536))) = true by simp; omega, cond_true, if_pos (.inr h2)]
      rfl
    · rw [show ((decide ((n : Int) > 1500)) && (decide ((n : Int) < 1536))) = false by simp; omega, cond_false, if_neg (by omega)]
      by_cases h3 : 1500 < n
      · rw [show decide ((n : Int) > 1500) = true by simp; omega, cond_true, if_pos h3, hb]
      · rw [show decide ((n : Int) > 1500) = false by simp; omega, cond_false, if_neg h3]
        by_cases h4 : s.size < p + n
        · rw [show decide ((n : Int) > (b.size : Int)) = true by simp; omega, cond_true, if_pos h4]
          rfl
        · rw [show decide ((n : Int) > (b.size : Int)) = false by simp; omega, cond_false, if_neg h4, sliceS_eq (by omega), Option.bind_some, hb]
          rfl

theorem ext_at (s : ByteArray) (o n : Nat) (h : o + n ≤ s.size) : beV (L (s.extract o (o + n))) = at2 s o n ∧ (s.extract o (o + n)).size = n := by
  refine ⟨?_, by simp; omega⟩
  rw [L_extract]
  unfold at2
  congr 2
  omega

theorem ref_parse (s : ByteArray) : gangwayref04_Parse.f 10 s = some (parseR s) := by
  unfold gangwayref04_Parse.f parseR
  by_cases h1 : 1600 < s.size
  · rw [if_pos h1, show decide ((s.size : Int) > 1600) = true by simp; omega]
    rfl
  · rw [if_neg h1, show decide ((s.size : Int) > 1600) = false by simp; omega, cond_false]
    by_cases h2 : s.size < 14
    · rw [if_pos h2, show decide ((s.size : Int) < 14) = true by simp; omega]
      rfl
    · rw [if_neg h2, show decide ((s.size : Int) < 14) = false by simp; omega, cond_false]
      obtain ⟨a0, z0⟩ := ext_at s 0 6 (by omega)
      obtain ⟨a6, z6⟩ := ext_at s 6 6 (by omega)
      obtain ⟨a12, z12⟩ := ext_at s 12 2 (by omega)
      rw [sliceS_eq (by omega), Option.bind_some, sliceS_eq (by omega)]
      simp only [Option.bind_some]
      rw [show Int.toNat 0 = 0 from rfl, show Int.toNat 6 = 6 from rfl, show Int.toNat 12 = 12 from rfl]
      rw [num_spec _ (by rw [z0]; omega), Option.bind_some, num_spec _ (by rw [z6]; omega), Option.bind_some]
      rw [sliceS_eq (by omega), Option.bind_some]
      rw [show Int.toNat 12 = 12 from rfl, show Int.toNat 14 = 14 from rfl, word_spec _ z12, Option.bind_some]
      rw [sliceS_eq (by omega), Option.bind_some]
      simp only [Int.toNat_natCast]
      rw [show Int.toNat 14 = 14 from rfl, a0, a6, a12]
      have hz14 : (s.extract 14 s.size).size = s.size - 14 := by simp
      by_cases h3 : at2 s 12 2 = 33024
      · rw [if_pos h3, h3, show (((33024 : Nat) : Int) == 33024) = true from rfl, cond_true]
        by_cases h4 : s.size < 18
        · rw [if_pos h4, show decide (((s.extract 14 s.size).size : Int) < 4) = true by rw [hz14]; simp; omega]
          rfl
        · rw [if_neg h4, show decide (((s.extract 14 s.size).size : Int) < 4) = false by rw [hz14]; simp; omega, cond_false]
          rw [sliceS_eq (by omega), Option.bind_some]
          have e0 : L ((s.extract 14 s.size).extract 0 2) = L (s.extract 14 (14 + 2)) := by
            rw [L_extract, L_drop, L_extract]; simp
          have e2 : L ((s.extract 14 s.size).extract 2 4) = L (s.extract 16 (16 + 2)) := by
            rw [L_extract, L_drop, L_extract, List.drop_drop]
          have e4 : (s.extract 14 s.size).extract 4 (s.extract 14 s.size).size = s.extract 18 s.size := L_inj (by
            rw [L_drop, L_drop, L_drop, List.drop_drop])
          obtain ⟨b14, z14⟩ := ext_at s 14 2 (by omega)
          obtain ⟨b16, z16⟩ := ext_at s 16 2 (by omega)
          rw [show Int.toNat 0 = 0 from rfl, show Int.toNat 2 = 2 from rfl, word_spec _ (by rw [← L_length, e0, L_length]; exact z14), Option.bind_some]
          rw [sliceS_eq (by omega), Option.bind_some]
          rw [show Int.toNat 2 = 2 from rfl, show Int.toNat 4 = 4 from rfl, word_spec _ (by rw [← L_length, e2, L_length]; exact z16), Option.bind_some]
          rw [sliceS_eq (by omega), Option.bind_some]
          simp only [Int.toNat_natCast]
          rw [show Int.toNat 4 = 4 from rfl, e4, e0, e2, b14, b16]
          have hv := at2_lt s 14 2
          have t1 : i64 (Int.tdiv ((at2 s 14 2 : Nat) : Int) 8192) = (tagOf (at2 s 14 2)).Pri := by
            rw [Int.tdiv_eq_ediv_of_nonneg (by omega), i64_id (by omega)]
            simp [tagOf]
          have t2 : ((Int.tmod (i64 (Int.tdiv ((at2 s 14 2 : Nat) : Int) 4096)) 2) == 1) = (tagOf (at2 s 14 2)).Dei := by
            rw [Int.tdiv_eq_ediv_of_nonneg (by omega), i64_id (by omega), Int.tmod_eq_emod_of_nonneg (by omega)]
            simp only [tagOf]
            by_cases hb : at2 s 14 2 / 4096 % 2 = 1
            · rw [decide_eq_true hb]
              simp only [beq_iff_eq]
              omega
            · rw [decide_eq_false hb]
              simp only [beq_eq_false_iff_ne]
              omega
          have t3 : Int.tmod ((at2 s 14 2 : Nat) : Int) 4096 = (tagOf (at2 s 14 2)).Vid := by
            rw [Int.tmod_eq_emod_of_nonneg (by omega)]
            simp [tagOf]
          rw [t1, t2, t3]
          exact ref_k2 s 18 (at2 s 16 2) _ _ (tagOf (at2 s 14 2)) _ rfl (by omega)
      · rw [if_neg h3, show ((((at2 s 12 2 : Nat) : Int)) == 33024) = false by simp; omega, cond_false]
        exact ref_k2 s 14 (at2 s 12 2) _ _ tag0 _ rfl (by omega)

theorem gangwaylaw04_EtherParses_pure : gangwaylaw04_EtherParses.Pure := by
  intro a0 h
  refine ⟨10, ?_⟩
  unfold gangwaylaw04_EtherParses.f
  obtain ⟨t1, e1, z1⟩ := cut_spec a0 1700
  rw [show ((1700 : Nat) : Int) = 1700 from rfl] at e1
  have hp := parse_spec t1
  have hr := ref_parse t1
  generalize parseR t1 = x at hp hr
  obtain ⟨g, c⟩ := x
  rw [e1, Option.bind_some, hp, Option.bind_some]
  simp only
  rw [hr, Option.bind_some]
  simp only
  rw [fixed_true, Option.bind_some, cond_true, same_frame]
  unfold gangwaylaw04_EtherParses.k1
  simp
end Go.Proofs.YtefbjefmclhhjaaDoor

namespace Go.Proofs.YtefbjefmclhhjaaDoor
open Go Eng Go.RowKit
set_option linter.unusedVariables false

/-- The law's walk, at whatever arguments the row gives. -/
theorem etherParses_walk (W : World) (args : Array Value) (hsz : args.size = Tryd.f3.params.size) (harg : ∀ (j : Nat) t v, Tryd.f3.params[j]? = some t → args[j]? = some v → Arg Tryd.prog W t v) (hx : laidMetH Tryd.prog (Row.laid (H := Unit)) W) :
    Calls Tryd.prog 3 args W fun e w' => e = .returned (.bool true) ∧ Below W.heap.size W w' := by
  rw [Tryd.params3] at hsz harg
  obtain ⟨v0, rfl⟩ := args_one hsz
  obtain ⟨x0, rfl, wx0⟩ := Arg.str Tryd.underlying9 (harg 0 9 v0 rfl rfl)
  obtain ⟨k, hk⟩ := gangwaylaw04_EtherParses_pure x0 wx0
  exact (gangwaylaw04_EtherParses_calls k x0 true hk W ⟨[], fun _ => True⟩ (Row.start hx)).mono fun e w' ⟨he, hs⟩ => ⟨he, hs.below⟩

set_option maxRecDepth 100000 in
theorem etherParses_lifted (os : Os) (started : os.Started) (H : Type) (enc : TypeId × Value → H) :
    ReturnsInHanded {} Tryd.checked os 3 .any (fun w args => (Rows.etherParsesSpec.pre enc Tryd.prog Tryd.f3 [] false w args ∧ laidMetH Tryd.prog (Row.laid (H := Unit)) w) ∧ sizedMet enc Tryd.prog Tryd.f3 (OpenSpec.ofChange Rows.etherParsesSpec) false w args)
      (Rows.etherParsesSpec.post enc Tryd.prog Tryd.f3 false true false false) :=
  lift_law (C := Tryd.checked) (X := fun w => laidMetH Tryd.prog (Row.laid (H := Unit)) w) 4 (fun _ _ hh h => h.of_heap hh) Row.own started (by kernel_rfl) Tryd.func3 rfl
    (fun H ds hds => by
      rcases ds with _ | ⟨d0, ds⟩
      · cases hds
      ·
        rcases ds with _ | ⟨d1, ds⟩
        · rfl
        · cases hds)
    (by kernel_rfl) (by kernel_rfl) Row.laidOut (by kernel_rfl) H enc
    (ChangeSpec.witness_at (enc := enc) (C := Tryd.checked) (os := os) (X := fun w _ => laidMetH Tryd.prog (Row.laid (H := Unit)) w) false (Row.world os) #[.string ByteArray.empty] 8 rfl (by kernel_rfl) (by kernel_rfl) (by kernel_rfl) (by kernel_rfl) (by kernel_rfl) (Row.met os _))
    etherParses_walk

theorem etherParses_said : Rows.EtherParsesSaid :=
  OpenClaim.holds_of_wide 3 Tryd.f3 rfl rfl rfl rfl rfl rfl rfl ⟨rfl, rfl, rfl, rfl, rfl⟩ rfl rfl rfl rfl rfl (by kernel_rfl) Tryd.func3 (by kernel_rfl)
    (of_decide_eq_true (by kernel_rfl)) (by unfold Func.isWrapper; rw [if_neg (of_decide_eq_false (by kernel_rfl))]; exact ⟨rfl, rfl⟩)
    (fun os started H enc _ => etherParses_lifted os started H enc)

/-- THE CARD. -/
theorem etherParses_card : Rows.EtherParsesCardSaid :=
  Claim7.holds_tied_plain_at .later [] [.handle] true (true, "61a527e199fb1d9030788200f951fc72dfb1bf8a629be732a5b387efafe22e7d") true etherParses_said (fun _ h => by cases h) (by kernel_rfl) (fun _ h => by cases h) etherParses_row_tie rfl ⟨rfl, rfl⟩ (by kernel_rfl) rfl
    (fun f fn hf hfn => by
      obtain rfl : f = 3 := Option.some.inj ((show Tryd.prog.funcNamed "gangway/gangwaylaw04.EtherParses" = some 3 by kernel_rfl).symm.trans hf) |>.symm
      obtain rfl : fn = Tryd.f3 := (Option.some.inj (Tryd.func3.symm.trans hfn)).symm
      exact ⟨by kernel_rfl, noStand (by kernel_rfl)⟩)
    (by kernel_rfl)
#print axioms etherParses_card
end Go.Proofs.YtefbjefmclhhjaaDoor
