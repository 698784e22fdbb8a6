/- The law's plain part, and its walk at whatever arguments the row gives: no conditions. -/
import Derived.Test.YtkpjjncdicgkkaaGreatDoorG1
import Derived.Test.YtkpjjncdicgkkaaGreatDoorP1
import Derived.Test.YtkpjjncdicgkkaaGreatDoorRow


namespace Go.Proofs.YtkpjjncdicgkkaaGreatDoor
open Go Eng
set_option linter.unusedVariables false

/-- What is left of the law: plain Lean. -/
def cy.Pure : Prop := ∀ a0 : (List ah), ∀ a1 : Int, Ey a0 → (-9223372036854775808) ≤ a1 ∧ a1 ≤ 9223372036854775807 → ∃ k, cy.f k a0 a1 = some true
end Go.Proofs.YtkpjjncdicgkkaaGreatDoor

namespace Go.Proofs.YtkpjjncdicgkkaaGreatDoor
open Go Eng
set_option linter.unusedVariables false
set_option linter.unusedSimpArgs false

theorem xz (a : Int) : (gH.f a = some 1 ∧ eA.f a = some 1) ∨ (gH.f a = some 0 ∧ eA.f a = some 0 ∧ fz.f a = some (a, 0) ∧ dY.f a = some (a, 0)) := by
  unfold gH.f eA.f fz.f dY.f
  cases ((decide (a < 1)) || (decide (a > 4096)))
  · exact .inr ⟨rfl, rfl, rfl, rfl⟩
  · exact .inl ⟨rfl, rfl⟩
theorem Ai (l : List ah) (hl : l.length ≤ 3) (a : Int) (hc : bm.f 2000 l = some 0) (hv : ∀ g ∈ l, eM.f 2000 g.aK g.bx g.Ip g.aX g.bt g.bz g.aO g.cj g.cm g.a7 g.cT g.bu = some 0) (hw : fz.f a = some (a, 0)) : ∃ us ms, us.length = l.length ∧ cP.f 2000 l a = some (us, ms, [], a, 0, 0, 0) := by
  unfold cP.f
  rw [hc, Option.bind_some, show ((0 : Int) != 0) = false by rfl, cond_false, hw, Option.bind_some]
  dsimp only
  rw [show ((0 : Int) != 0) = false by rfl, cond_false]
  obtain ⟨r, hr, h⟩ := cq (P := fun r : (List Unit) × (List Int) × (List ax) × Int × Int × Int × Int => ∃ us ms, us.length = l.length ∧ r = (us, ms, [], a, 0, 0, 0)) l.length (fun i (st : List Unit × List Int) => st.1.length = i ∧ st.2.length = i) (fun n st i => cP.l1 l 2000 a n 0 (i : Int) st.1 st.2) (fun n st hst => by
      simp only [cP.l1]
      rw [dO (Nat.le_refl _), cond_false]
      exact ⟨_, rfl, _, _, hst.1, rfl⟩) (fun n i st hi hst hk => by
      simp only [cP.l1]
      rw [dz hi, cond_true, aW hi, Option.bind_some, hv _ (List.getElem_mem hi), Option.bind_some, show ((0 : Int) != 0) = false by rfl, cond_false, cO (by simp; omega) (by simp; omega), Option.bind_some, cO (by simp; omega) (by simp; omega), Option.bind_some, aU (by omega)]
      exact hk (_, _) ⟨by simp [hst.1], by simp [hst.2]⟩) (fuel := 2000) ([], []) (by omega) ⟨rfl, rfl⟩
  obtain ⟨us, ms, h1, rfl⟩ := h
  exact ⟨us, ms, h1, hr⟩
theorem BS (l : List ah) (hg : nD l) (a : Int) (hc : ak.f 2000 l = some 0) (hw : dY.f a = some (a, 0)) : ∃ us, bX.f 2000 l a = some (us, [], a, 0, 0, [], 0) := by
  have hl := hg.1
  unfold bX.f
  rw [hc, Option.bind_some, show ((0 : Int) != 0) = false by rfl, cond_false, hw, Option.bind_some]
  dsimp only
  rw [show ((0 : Int) != 0) = false by rfl, cond_false]
  obtain ⟨r, hr, h⟩ := cq (P := fun r : (List Unit) × (List ax) × Int × Int × Int × (List dZ) × Int => ∃ us, r = (us, [], a, 0, 0, [], 0)) l.length (fun i (st : List Unit) => st.length = i) (fun n st i => bX.l1 l 2000 a n (i : Int) st) (fun n st hst => by
      simp only [bX.l1]
      rw [dO (Nat.le_refl _), cond_false]
      exact ⟨_, rfl, _, rfl⟩) (fun n i st hi hst hk => by
      simp only [bX.l1]
      obtain ⟨q, hq⟩ := rv l[i] (hg.2 _ (List.getElem_mem hi))
      rw [dz hi, cond_true, aW hi, Option.bind_some, hq, Option.bind_some, cO (by simp; omega) (by simp; omega), Option.bind_some, aU (by omega)]
      exact hk _ (by simp [hst])) (fuel := 2000) [] (by omega) rfl
  obtain ⟨us, rfl⟩ := h
  exact ⟨us, hr⟩

theorem iB : cy.Pure := by
  intro a0 a1 h0 _
  refine ⟨2000, ?_⟩
  have h9 : Bz a0 := fun g hg => by
    have h := h0.1 g hg
    obtain ⟨_, _, hip, _, _, _, hnear, _, hsegs, hroutes, _⟩ := h
    exact ⟨fun x hx => (hroutes.1 x hx).1.1, hip.1, hnear.1, fun s hs p hp => ((hsegs.1 s hs).2.2.1 p hp).1⟩
  obtain ⟨g, h1, hg⟩ := sO a0 h9
  have hl := hg.1
  obtain ⟨r, hc, hd, hv⟩ := xm g hg
  have bad : ∀ q : Int, ga.f 2000 g a1 = some q → dX.f 2000 g a1 = some q → cP.f 2000 g a1 = none → cy.f 2000 a0 a1 = some true := fun q e1 e2 e3 => by
    have hB : az.f 2000 a0 a1 = none := by
      unfold az.f
      rw [h1, Option.bind_some, e3]
      rfl
    unfold cy.f
    rw [hB]
    unfold dP.f
    rw [h1, Option.bind_some, e1, Option.bind_some, Option.bind_some, e2, Option.bind_some, show (q != q) = false by simp]
    rfl
  by_cases h0 : r = 0
  · subst h0
    rcases xz a1 with ⟨w1, w2⟩ | ⟨w1, w2, w3, w4⟩
    · refine bad 1 ?_ ?_ ?_
      · unfold ga.f
        rw [hc, Option.bind_some, show ((0 : Int) != 0) = false by rfl, cond_false, w1]
        rfl
      · unfold dX.f
        rw [hd, Option.bind_some, show ((0 : Int) != 0) = false by rfl, cond_false, w2]
        rfl
      · unfold cP.f
        rw [hc, Option.bind_some, show ((0 : Int) != 0) = false by rfl, cond_false]
        have : fz.f a1 = none := by
          unfold gH.f at w1
          unfold fz.f
          revert w1
          cases ((decide (a1 < 1)) || (decide (a1 > 4096)))
          · intro h; cases h
          · intro _; rfl
        rw [this]
        rfl
    · obtain ⟨us, ms, hu, e1⟩ := Ai g hl a1 hc (hv rfl) w3
      obtain ⟨vs, e2⟩ := BS g hg a1 hd w4
      have hB : az.f 2000 a0 a1 = some true := by
        unfold az.f
        rw [h1, Option.bind_some, e1, Option.bind_some]
        dsimp only
        rw [Option.bind_some, e2, Option.bind_some]
        dsimp only
        rw [show (((0 : Int) != 0) || (!(false == false))) = false by rfl, cond_false]
        have i0 : dK.f us ms [] a1 0 0 0 = some false := rfl
        have i1 : dK.f us ms [] a1 0 0 (i64 ((g.length : Int) + 1)) = some false := by
          unfold dK.f
          rw [aU (by omega), decide_eq_false (show ¬ (((g.length + 1 : Nat) : Int) ≤ (us.length : Int)) by omega), Bool.and_false]
        unfold dS.f
        rw [i0, Option.bind_some, Bool.not_false, cond_true, Option.bind_some]
        dsimp only
        rw [Option.bind_some, i1, Option.bind_some, Bool.not_false, cond_true, Option.bind_some]
        dsimp only
        have hw : fu.f us ms [] a1 0 0 = some [] := rfl
        rw [hw, Option.bind_some]
        have hp : dR.f us ms [] a1 0 0 0 = some [] := by
          unfold dR.f
          rw [i0]
          rfl
        unfold fv.f az.k4 fg.f az.k3
        rw [hp]
        rfl
      unfold cy.f
      rw [hB]
  · refine bad r ?_ ?_ ?_
    · unfold ga.f
      rw [hc, Option.bind_some, show (r != 0) = true by simp [h0]]
      rfl
    · unfold dX.f
      rw [hd, Option.bind_some, show (r != 0) = true by simp [h0]]
      rfl
    · unfold cP.f
      rw [hc, Option.bind_some, show (r != 0) = true by simp [h0]]
      rfl
end Go.Proofs.YtkpjjncdicgkkaaGreatDoor

namespace Go.Proofs.YtkpjjncdicgkkaaGreatDoor
open Go Eng Go.RowKit
set_option linter.unusedVariables false

/-- The law's walk, at whatever arguments the row gives. -/
theorem o8 (W : World) (args : Array Value) (hsz : args.size = Tryz.f3.params.size) (harg : ∀ (j : Nat) t v, Tryz.f3.params[j]? = some t → args[j]? = some v → Arg Tryz.prog W t v) (hx : laidMetH Tryz.prog (Row.laid (H := Unit)) W) :
    Calls Tryz.prog 3 args W fun e w' => e = .returned (.bool true) ∧ Below W.heap.size W w' := by
  rw [Tryz.params3] at hsz harg
  obtain ⟨v0, v1, rfl⟩ := zl hsz
  obtain ⟨x0, s0, hv0, k0, q0⟩ := Arg.sl (e := 60) (by kernel_rfl) (Ei W) (harg 0 22 v0 rfl rfl)
  obtain rfl := (List.cons.inj hv0).1
  obtain ⟨x1, rfl, wx1⟩ := Arg.int Tryz.underlying3 (harg 1 3 v1 rfl rfl)
  obtain ⟨k, hk⟩ := iB x0 x1 q0 (Eng.wf_i64 wx1)
  exact (il k s0 x0 x1 true hk W ⟨[], fun _ => True⟩ (Sat.add (Row.start hx) k0 (fun w' h => (Up.row EK) x0 s0 W w' h k0))).mono fun e w' ⟨he, hs⟩ => ⟨he, hs.below⟩

set_option maxRecDepth 100000 in
theorem na (os : Os) (started : os.Started) (H : Type) (enc : TypeId × Value → H) :
    ReturnsInHanded {} Tryz.checked os 3 .any (fun w args => (Rows.fabricNewsSpec.pre enc Tryz.prog Tryz.f3 [] false w args ∧ laidMetH Tryz.prog (Row.laid (H := Unit)) w) ∧ sizedMet enc Tryz.prog Tryz.f3 (OpenSpec.ofChange Rows.fabricNewsSpec) false w args)
      (Rows.fabricNewsSpec.post enc Tryz.prog Tryz.f3 false true false false) :=
  yJ (C := Tryz.checked) (X := fun w => laidMetH Tryz.prog (Row.laid (H := Unit)) w) 4 (fun _ _ hh h => h.of_heap hh) Row.own started (by kernel_rfl) Tryz.func3 rfl
    (fun H ds hds => by
      rcases ds with _ | ⟨d0, ds⟩
      · cases hds
      ·
        rcases ds with _ | ⟨d1, ds⟩
        · cases hds
        ·
          rcases ds with _ | ⟨d2, ds⟩
          · rfl
          · cases hds)
    (by kernel_rfl) (by kernel_rfl) Row.laidOut (by kernel_rfl) H enc
    (ChangeSpec.witness_at (enc := enc) (C := Tryz.checked) (os := os) (X := fun w _ => laidMetH Tryz.prog (Row.laid (H := Unit)) w) false (Row.world os) #[.slice none 0 0, .int .i64 0] 8 rfl (by kernel_rfl) (by kernel_rfl) (by kernel_rfl) (by kernel_rfl) (by kernel_rfl) (Row.met os _))
    o8


end Go.Proofs.YtkpjjncdicgkkaaGreatDoor
