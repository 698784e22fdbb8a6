/- The law TraceAhead returns true for every input, and its arguments read as before: the tied card, with the condition that the listed variable errors.errorType is as the program's text lays it. -/
import Derived.Test.YtbbekdmndifkpaaGreatDoorF4
import Derived.Test.YtbbekdmndifkpaaGreatDoorP1
import Derived.Test.YtbbekdmndifkpaaGreatDoorRow

namespace Go.Proofs.YtbbekdmndifkpaaGreatDoor
open Go Eng
set_option linter.unusedVariables false

/-- What is left of the law: plain Lean. -/
def gangwaylaw28_TraceAhead.Pure : Prop := ∀ a0 : (List api_Gate), ∀ a1 : (List api_Event), ∀ a2 : Int, Ok22 a0 → Ok23 a1 → (-9223372036854775808) ≤ a2 ∧ a2 ≤ 9223372036854775807 → ∃ k, gangwaylaw28_TraceAhead.f k a0 a1 a2 = some true
end Go.Proofs.YtbbekdmndifkpaaGreatDoor

namespace Go.Proofs.YtbbekdmndifkpaaGreatDoor
open Go Eng
set_option linter.unusedVariables false
set_option linter.unusedSimpArgs false

theorem gangwaylaw28_TraceAhead_pure : gangwaylaw28_TraceAhead.Pure := by
  intro a0 a1 a2 _ _ _
  refine ⟨2000, ?_⟩
  unfold gangwaylaw28_TraceAhead.f
  obtain ⟨g, m, h1, hg, hm, hS⟩ := bound28_spec a0 a1
  rw [h1, Option.bind_some]
  dsimp only
  obtain ⟨n, hn, hlt⟩ := rem_spec a2 (m.length + 1) (by omega)
  rw [i64_next (by omega), hn, Option.bind_some, First_spec g hg m (by omega) hS, Option.bind_some, sliceL_take (by omega), Option.bind_some, First_spec g hg (m.take n) (by rw [List.length_take]; omega) (fun e he => hS e (List.mem_of_mem_take he)), Option.bind_some]
  have hpre : ∀ k, k < n → badAt g (m.take n) k = badAt g m k := fun k hk => by
    unfold badAt
    rw [List.getElem?_take_of_lt hk]
    cases m[k]?
    · rfl
    · dsimp only
      rw [List.take_take, Nat.min_eq_left (by omega)]
  have hlen : (m.take n).length = n := by rw [List.length_take]; omega
  rw [hlen]
  have k2 : ∀ b, gangwaylaw28_TraceAhead.k2 b = some b := fun _ => rfl
  have k3 : gangwaylaw28_TraceAhead.k3 2000 true = some true := by unfold gangwaylaw28_TraceAhead.k3; rw [cond_true, fixed28]; rfl
  -- more events ahead
  have k4 : ∀ x : List api_Event, x.length ≤ 1 → (∀ e ∈ x, e.In = true ∧ e.S.size ≤ 200) → gangwaylaw28_TraceAhead.k4 m 2000 g (firstR (badAt g m) m.length 0) x = some true := fun x hx hxS => by
    unfold gangwaylaw28_TraceAhead.k4
    have hxl : (x ++ m).length = x.length + m.length := List.length_append
    rw [room_ok (by omega) (by omega), Option.bind_some, First_spec g hg (x ++ m) (by omega) (fun e he => by
      rcases List.mem_append.1 he with he | he
      · exact (hxS e he).2
      · exact hS e he), Option.bind_some, hxl]
    rcases first_cases (badAt g (x ++ m)) (x.length + m.length) 0 with ⟨e, _⟩ | ⟨d, _, hd, e, hb, _⟩
    · rw [e, show decide ((-1 : Int) < 0) = true by decide, cond_true]; exact k3
    · rw [e, show decide ((d : Int) < 0) = false by simp, cond_false]
      have hdx : x.length ≤ d := by
        apply Classical.byContradiction
        intro hh
        unfold badAt at hb
        rw [List.getElem?_append_left (by omega), List.getElem?_eq_getElem (by omega)] at hb
        have := (hxS _ (List.getElem_mem (by omega : d < x.length))).1
        unfold badR at hb
        dsimp only at hb
        rw [this] at hb
        cases hb
      obtain ⟨c, rfl⟩ : ∃ c, d = x.length + c := ⟨d - x.length, by omega⟩
      have hbc : badAt g m c = true := by
        unfold badAt at hb ⊢
        rw [List.getElem?_append_right (by omega), show x.length + c - x.length = c by omega] at hb
        cases hc : m[c]?
        · rw [hc] at hb; cases hb
        · rw [hc] at hb
          dsimp only at hb ⊢
          refine bad_mono g (fun s hs => ?_) _ hb
          rw [List.take_append, List.take_of_length_le (by omega), show x.length + c - x.length = c by omega]
          exact List.mem_append_right _ hs
      rcases first_cases (badAt g m) m.length 0 with ⟨_, h2⟩ | ⟨a, _, ha, ea, hba, h2⟩
      · rw [h2 c (by omega) (by omega)] at hbc; cases hbc
      · rw [ea]
        have hac : a ≤ c := by
          apply Classical.byContradiction
          intro hh
          rw [h2 c (by omega) (by omega)] at hbc; cases hbc
        have e1 : i64 (((x.length + c : Nat) : Int) - (x.length : Int)) = (c : Int) := by rw [i64_id (by omega)]; omega
        rw [e1, show decide ((a : Int) ≥ 0) = true by simp, show decide ((c : Int) ≥ (a : Int)) = true by simp; omega]
        exact k3
  have k1 : gangwaylaw28_TraceAhead.k1 m n 2000 g (firstR (badAt g m) m.length 0) false = some true := by
    unfold gangwaylaw28_TraceAhead.k1
    rw [cond_false]
    by_cases h0 : 0 < m.length
    · rw [show decide ((m.length : Int) > 0) = true by simp; omega, cond_true]
      have hr : remI (n : Int) (m.length : Int) = some ((n % m.length : Nat) : Int) := by
        unfold remI
        rw [if_neg (by omega)]
        rfl
      rw [hr, Option.bind_some, getL_at (Nat.mod_lt _ h0), Option.bind_some, room_ok (by simp) (by simp), Option.bind_some]
      refine k4 _ (by simp) fun e he => ?_
      rw [List.mem_singleton] at he
      subst he
      exact ⟨rfl, show (m[n % m.length]'(Nat.mod_lt _ h0)).S.size ≤ 200 from hS _ (List.getElem_mem (Nat.mod_lt _ h0))⟩
    · rw [show decide ((m.length : Int) > 0) = false from decide_eq_false (by omega), cond_false]
      exact k4 [] (by simp) (by simp)
  -- what is ahead of the cut
  rcases first_cases (badAt g m) m.length 0 with ⟨e, h2⟩ | ⟨a, _, ha, e, hb, h2⟩
  · have e2 : firstR (badAt g (m.take n)) n 0 = -1 := first_none fun k hk hk2 => by rw [hpre k (by omega)]; exact h2 k hk (by omega)
    rw [e2, e]
    rw [e] at k1
    rw [show decide ((-1 : Int) ≥ 0) = false by decide, Bool.false_and, Bool.false_and, cond_false, show ((-1 : Int) != -1) = false by decide, Bool.and_false]
    exact k1
  · by_cases han : a < n
    · have e2 : firstR (badAt g (m.take n)) n 0 = a := first_at a (by omega) (by omega) (by rw [hpre a han]; exact hb) fun k hk hk2 => by rw [hpre k (by omega)]; exact h2 k hk hk2
      rw [e2, e]
      rw [e] at k1
      rw [show (((a : Int)) != (a : Int)) = false by simp, Bool.and_false, cond_false, show decide ((a : Int) < 0) = false by simp, show decide ((a : Int) ≥ (n : Int)) = false by simp; omega]
      exact k1
    · have e2 : firstR (badAt g (m.take n)) n 0 = -1 := first_none fun k hk hk2 => by rw [hpre k (by omega)]; exact h2 k hk (by omega)
      rw [e2, e]
      rw [e] at k1
      rw [show decide ((a : Int) < (n : Int)) = false by simp; omega, Bool.and_false, Bool.false_and, cond_false, show ((-1 : Int) != -1) = false by decide, Bool.and_false]
      exact k1
end Go.Proofs.YtbbekdmndifkpaaGreatDoor

namespace Go.Proofs.YtbbekdmndifkpaaGreatDoor
open Go Eng Go.RowKit
set_option linter.unusedVariables false

/-- The law's walk, at whatever arguments the row gives. -/
theorem traceAhead_walk (W : World) (args : Array Value) (hsz : args.size = Tryz.f3.params.size) (harg : ∀ (j : Nat) t v, Tryz.f3.params[j]? = some t → args[j]? = some v → Arg Tryz.prog W t v) (hx : laidMetH Tryz.prog (Row.laid (H := Unit)) W) :
    Calls Tryz.prog 3 args W fun e w' => e = .returned (.bool true) ∧ Below W.heap.size W w' := by
  rw [Tryz.params3] at hsz harg
  obtain ⟨v0, v1, v2, rfl⟩ := args_three hsz
  obtain ⟨x0, s0, hv0, k0, q0⟩ := Arg.sl (e := 73) (by kernel_rfl) (dec22 W) (harg 0 22 v0 rfl rfl)
  obtain rfl := (List.cons.inj hv0).1
  obtain ⟨x1, s1, hv1, k1, q1⟩ := Arg.sl (e := 28) (by kernel_rfl) (dec23 W) (harg 1 23 v1 rfl rfl)
  obtain rfl := (List.cons.inj hv1).1
  obtain ⟨x2, rfl, wx2⟩ := Arg.int Tryz.underlying3 (harg 2 3 v2 rfl rfl)
  obtain ⟨k, hk⟩ := gangwaylaw28_TraceAhead_pure x0 x1 x2 q0 q1 (Eng.wf_i64 wx2)
  exact (gangwaylaw28_TraceAhead_calls k s0 s1 x0 x1 x2 true hk W ⟨[], fun _ => True⟩ (Sat.add (Sat.add (Row.start hx) k1 (fun w' h => (Up.row Up.no) x1 s1 W w' h k1)) k0 (fun w' h => (Up.row up73) x0 s0 W w' h k0))).mono fun e w' ⟨he, hs⟩ => ⟨he, hs.below⟩

set_option maxRecDepth 100000 in
theorem traceAhead_lifted (os : Os) (started : os.Started) (H : Type) (enc : TypeId × Value → H) :
    ReturnsInHanded {} Tryz.checked os 3 .any (fun w args => (Rows.traceAheadSpec.pre enc Tryz.prog Tryz.f3 [] false w args ∧ laidMetH Tryz.prog (Row.laid (H := Unit)) w) ∧ sizedMet enc Tryz.prog Tryz.f3 (OpenSpec.ofChange Rows.traceAheadSpec) false w args)
      (Rows.traceAheadSpec.post enc Tryz.prog Tryz.f3 false true false false) :=
  lift_law (C := Tryz.checked) (X := fun w => laidMetH Tryz.prog (Row.laid (H := Unit)) w) 4 (fun _ _ hh h => h.of_heap hh) Row.own started (by kernel_rfl) Tryz.func3 rfl
    (fun H ds hds => by
      rcases ds with _ | ⟨d0, ds⟩
      · cases hds
      ·
        rcases ds with _ | ⟨d1, ds⟩
        · cases hds
        ·
          rcases ds with _ | ⟨d2, ds⟩
          · cases hds
          ·
            rcases ds with _ | ⟨d3, ds⟩
            · rfl
            · cases hds)
    (by kernel_rfl) (by kernel_rfl) Row.laidOut (by kernel_rfl) H enc
    (ChangeSpec.witness_at (enc := enc) (C := Tryz.checked) (os := os) (X := fun w _ => laidMetH Tryz.prog (Row.laid (H := Unit)) w) false (Row.world os) #[.slice none 0 0, .slice none 0 0, .int .i64 0] 8 rfl (by kernel_rfl) (by kernel_rfl) (by kernel_rfl) (by kernel_rfl) (by kernel_rfl) (Row.met os _))
    traceAhead_walk

theorem traceAhead_said : Rows.TraceAheadSaid :=
  OpenClaim.holds_of_wide 3 Tryz.f3 rfl rfl rfl rfl rfl rfl rfl ⟨rfl, rfl, rfl, rfl, rfl⟩ rfl rfl rfl rfl rfl (by kernel_rfl) Tryz.func3 (by kernel_rfl)
    (of_decide_eq_true (by kernel_rfl)) (by unfold Func.isWrapper; rw [if_neg (of_decide_eq_false (by kernel_rfl))]; exact ⟨rfl, rfl⟩)
    (fun os started H enc _ => traceAhead_lifted os started H enc)

/-- THE CARD. -/
theorem traceAhead_card : Rows.TraceAheadCardSaid :=
  Claim7.holds_tied_plain_at .later [] [.handle] true (true, "25fef02dac3b44037c4c8bd6b1b287bc313cfe225bc95feca531ae8be2ba2018") true traceAhead_said (fun _ h => by cases h) (by kernel_rfl) (fun _ h => by cases h) traceAhead_row_tie rfl ⟨rfl, rfl⟩ (by kernel_rfl) rfl
    (fun f fn hf hfn => by
      obtain rfl : f = 3 := Option.some.inj ((show Tryz.prog.funcNamed "gangway/gangwaylaw28.TraceAhead" = some 3 by kernel_rfl).symm.trans hf) |>.symm
      obtain rfl : fn = Tryz.f3 := (Option.some.inj (Tryz.func3.symm.trans hfn)).symm
      exact ⟨by kernel_rfl, noStand (by kernel_rfl)⟩)
    (by kernel_rfl)
#print axioms traceAhead_card
end Go.Proofs.YtbbekdmndifkpaaGreatDoor
