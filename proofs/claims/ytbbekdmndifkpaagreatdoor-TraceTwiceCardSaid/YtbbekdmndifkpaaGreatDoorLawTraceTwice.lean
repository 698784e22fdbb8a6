/- The law TraceTwice returns true for every input, and its arguments read as before: the tied card, with the condition that the listed variable errors.errorType is as the program's text lays it. -/
import Derived.Test.YtbbekdmndifkpaaGreatDoorF4
import Derived.Test.YtbbekdmndifkpaaGreatDoorP1
import Derived.Test.YtbbekdmndifkpaaGreatDoorRow

namespace Go.Proofs.YtbbekdmndifkpaaGreatDoor
open Go Eng
set_option linter.unusedVariables false

/-- What is left of the law: plain Lean. -/
def gangwaylaw28_TraceTwice.Pure : Prop := ∀ a0 : (List api_Gate), ∀ a1 : (List api_Event), ∀ a2 : Int, Ok22 a0 → Ok23 a1 → (-9223372036854775808) ≤ a2 ∧ a2 ≤ 9223372036854775807 → ∃ k, gangwaylaw28_TraceTwice.f k a0 a1 a2 = some true
end Go.Proofs.YtbbekdmndifkpaaGreatDoor

namespace Go.Proofs.YtbbekdmndifkpaaGreatDoor
open Go Eng
set_option linter.unusedVariables false
set_option linter.unusedSimpArgs false

theorem gangwaylaw28_TraceTwice_pure : gangwaylaw28_TraceTwice.Pure := by
  intro a0 a1 a2 _ _ _
  refine ⟨2000, ?_⟩
  unfold gangwaylaw28_TraceTwice.f
  obtain ⟨g, m, h1, hg, hm, hS⟩ := bound28_spec a0 a1
  rw [h1, Option.bind_some]
  dsimp only
  rw [First_spec g hg m (by omega) hS, Option.bind_some]
  by_cases h0 : m.length = 0
  · rw [h0, show (((0 : Nat) : Int) == 0) = true by rfl, cond_true]
    show (bif ((-1 : Int) == -1) then _ else _) = _
    rw [show ((-1 : Int) == -1) = true by rfl, cond_true, fixed28]
    rfl
  · rw [show (((m.length : Nat) : Int) == 0) = false by rw [beq_eq_false_iff_ne]; omega, cond_false]
    obtain ⟨n, hn, hlt⟩ := rem_spec a2 m.length (by omega)
    have hml : (m ++ [m[n]]).length = m.length + 1 := by simp
    have hS' : ∀ e ∈ m ++ [m[n]], e.S.size ≤ 200 := fun e he => by
      rcases List.mem_append.1 he with he | he
      · exact hS e he
      · rw [List.mem_singleton] at he; subst he; exact hS _ (List.getElem_mem hlt)
    rw [hn, Option.bind_some, room_ok (by omega) (by omega), Option.bind_some, getL_at hlt, Option.bind_some, room_ok (by omega) (by omega), Option.bind_some, First_spec g hg (m ++ [m[n]]) (by omega) hS', Option.bind_some, hml]
    have hpre : ∀ k, k < m.length → badAt g (m ++ [m[n]]) k = badAt g m k := fun k hk => by
      unfold badAt
      rw [List.getElem?_append_left hk]
      cases m[k]?
      · rfl
      · dsimp only
        rw [List.take_append_of_le_length (by omega)]
    have hlast : badAt g (m ++ [m[n]]) m.length = badR g m m[n] := by
      unfold badAt
      rw [List.getElem?_append_right (Nat.le_refl _), Nat.sub_self]
      show badR g ((m ++ [m[n]]).take m.length) m[n] = _
      rw [List.take_append_of_le_length (Nat.le_refl _), List.take_length]
    rcases first_cases (badAt g m) m.length 0 with ⟨e, h2⟩ | ⟨a, _, ha, e, hb, h2⟩
    · have hok : badR g m m[n] = false := by
        cases hc : badR g m m[n]
        · rfl
        · have := bad_mono g (l := m.take n) (fun s hs => List.mem_of_mem_take hs) m[n] hc
          have h3 := h2 n (by omega) (by omega)
          unfold badAt at h3
          rw [List.getElem?_eq_getElem hlt] at h3
          dsimp only at h3
          rw [this] at h3; cases h3
      have e2 : firstR (badAt g (m ++ [m[n]])) (m.length + 1) 0 = -1 := first_none fun k hk hk2 => by
        by_cases hkm : k < m.length
        · rw [hpre k hkm]; exact h2 k hk (by omega)
        · obtain rfl : k = m.length := by omega
          rw [hlast]; exact hok
      have hM := May_spec g hg (m ++ [m[n]]) (by omega) hS' m.length (by omega)
      have e4 : (m ++ [m[n]])[m.length]'(by omega) = m[n] := by simp
      rw [e4, List.take_append_of_le_length (Nat.le_refl _), List.take_length, hok] at hM
      rw [e, e2, show decide ((-1 : Int) ≥ 0) = false by decide, cond_false, show ((-1 : Int) == -1) = true by rfl, cond_true, hM, Option.bind_some]
      unfold gangwaylaw28_TraceTwice.k4
      rw [Bool.not_false, cond_true, fixed28]
      rfl
    · have e2 : firstR (badAt g (m ++ [m[n]])) (m.length + 1) 0 = a := first_at a (by omega) (by omega) (by rw [hpre a (by omega)]; exact hb) fun k hk hk2 => by rw [hpre k (by omega)]; exact h2 k hk hk2
      rw [e, e2, show decide ((a : Int) ≥ 0) = true by simp, cond_true, show (((a : Int)) == (a : Int)) = true by simp, cond_true, fixed28]
      rfl
end Go.Proofs.YtbbekdmndifkpaaGreatDoor

namespace Go.Proofs.YtbbekdmndifkpaaGreatDoor
open Go Eng Go.RowKit
set_option linter.unusedVariables false

/-- The law's walk, at whatever arguments the row gives. -/
theorem traceTwice_walk (W : World) (args : Array Value) (hsz : args.size = Tryz.f4.params.size) (harg : ∀ (j : Nat) t v, Tryz.f4.params[j]? = some t → args[j]? = some v → Arg Tryz.prog W t v) (hx : laidMetH Tryz.prog (Row.laid (H := Unit)) W) :
    Calls Tryz.prog 4 args W fun e w' => e = .returned (.bool true) ∧ Below W.heap.size W w' := by
  rw [Tryz.params4] at hsz harg
  obtain ⟨v0, v1, v2, rfl⟩ := args_three hsz
  obtain ⟨x0, s0, hv0, k0, q0⟩ := Arg.sl (e := 73) (by kernel_rfl) (dec22 W) (harg 0 22 v0 rfl rfl)
  obtain rfl := (List.cons.inj hv0).1
  obtain ⟨x1, s1, hv1, k1, q1⟩ := Arg.sl (e := 28) (by kernel_rfl) (dec23 W) (harg 1 23 v1 rfl rfl)
  obtain rfl := (List.cons.inj hv1).1
  obtain ⟨x2, rfl, wx2⟩ := Arg.int Tryz.underlying3 (harg 2 3 v2 rfl rfl)
  obtain ⟨k, hk⟩ := gangwaylaw28_TraceTwice_pure x0 x1 x2 q0 q1 (Eng.wf_i64 wx2)
  exact (gangwaylaw28_TraceTwice_calls k s0 s1 x0 x1 x2 true hk W ⟨[], fun _ => True⟩ (Sat.add (Sat.add (Row.start hx) k1 (fun w' h => (Up.row Up.no) x1 s1 W w' h k1)) k0 (fun w' h => (Up.row up73) x0 s0 W w' h k0))).mono fun e w' ⟨he, hs⟩ => ⟨he, hs.below⟩

set_option maxRecDepth 100000 in
theorem traceTwice_lifted (os : Os) (started : os.Started) (H : Type) (enc : TypeId × Value → H) :
    ReturnsInHanded {} Tryz.checked os 4 .any (fun w args => (Rows.traceTwiceSpec.pre enc Tryz.prog Tryz.f4 [] false w args ∧ laidMetH Tryz.prog (Row.laid (H := Unit)) w) ∧ sizedMet enc Tryz.prog Tryz.f4 (OpenSpec.ofChange Rows.traceTwiceSpec) false w args)
      (Rows.traceTwiceSpec.post enc Tryz.prog Tryz.f4 false true false false) :=
  lift_law (C := Tryz.checked) (X := fun w => laidMetH Tryz.prog (Row.laid (H := Unit)) w) 4 (fun _ _ hh h => h.of_heap hh) Row.own started (by kernel_rfl) Tryz.func4 rfl
    (fun H ds hds => by
      rcases ds with _ | ⟨d0, ds⟩
      · cases hds
      ·
        rcases ds with _ | ⟨d1, ds⟩
        · cases hds
        ·
          rcases ds with _ | ⟨d2, ds⟩
          · cases hds
          ·
            rcases ds with _ | ⟨d3, ds⟩
            · rfl
            · cases hds)
    (by kernel_rfl) (by kernel_rfl) Row.laidOut (by kernel_rfl) H enc
    (ChangeSpec.witness_at (enc := enc) (C := Tryz.checked) (os := os) (X := fun w _ => laidMetH Tryz.prog (Row.laid (H := Unit)) w) false (Row.world os) #[.slice none 0 0, .slice none 0 0, .int .i64 0] 8 rfl (by kernel_rfl) (by kernel_rfl) (by kernel_rfl) (by kernel_rfl) (by kernel_rfl) (Row.met os _))
    traceTwice_walk

theorem traceTwice_said : Rows.TraceTwiceSaid :=
  OpenClaim.holds_of_wide 4 Tryz.f4 rfl rfl rfl rfl rfl rfl rfl ⟨rfl, rfl, rfl, rfl, rfl⟩ rfl rfl rfl rfl rfl (by kernel_rfl) Tryz.func4 (by kernel_rfl)
    (of_decide_eq_true (by kernel_rfl)) (by unfold Func.isWrapper; rw [if_neg (of_decide_eq_false (by kernel_rfl))]; exact ⟨rfl, rfl⟩)
    (fun os started H enc _ => traceTwice_lifted os started H enc)

/-- THE CARD. -/
theorem traceTwice_card : Rows.TraceTwiceCardSaid :=
  Claim7.holds_tied_plain_at .later [] [.handle] true (true, "25fef02dac3b44037c4c8bd6b1b287bc313cfe225bc95feca531ae8be2ba2018") true traceTwice_said (fun _ h => by cases h) (by kernel_rfl) (fun _ h => by cases h) traceTwice_row_tie rfl ⟨rfl, rfl⟩ (by kernel_rfl) rfl
    (fun f fn hf hfn => by
      obtain rfl : f = 4 := Option.some.inj ((show Tryz.prog.funcNamed "gangway/gangwaylaw28.TraceTwice" = some 4 by kernel_rfl).symm.trans hf) |>.symm
      obtain rfl : fn = Tryz.f4 := (Option.some.inj (Tryz.func4.symm.trans hfn)).symm
      exact ⟨by kernel_rfl, noStand (by kernel_rfl)⟩)
    (by kernel_rfl)
#print axioms traceTwice_card
end Go.Proofs.YtbbekdmndifkpaaGreatDoor
