/- A machine that the kernel runs closed Go programs by, and that what it answers is what the given model does: no conditions but those that each theorem bears. -/
import Derived.Test.YtlihmahekidkaaaGreatDoorC2
import Derived.ControlIn
import Derived.LoopNIn
import Derived.Laws.Sem
import Derived.RangeFuncLeaves
import Derived.Test.YtlihmahekidkaaaGreatDoorE1
import Derived.Shelf.Strings.OnBuilder
import Derived.Laws.Externs
import Derived.Lib.Overlaps

set_option linter.unusedVariables false
set_option linter.unusedSimpArgs false
set_option linter.unusedSectionVars false
namespace Ci
open Go
variable [Sym]
variable {P : Program} {w0 : World} {T : Nat → Prop} {θ : Th} {s s' : St} {w : World} {e e' : Env} {F : Fs} {v : V} {N : Nat} {a : Act} {Q : Exit → Act → World → Prop}
theorem exOfN_ok {st : Nat} {ls : LoopState} {p : Option Code} {x : Ex} (h : exOfN st = some x) (hs : StOk st ls p) : ls ≠ .busy ∧ ((x = .nx ∧ p = none) ∨ (x = .rt ∧ p = some .ret) ∨ ∃ id, x = .ex id ∧ p = some (.exit id)) := by
 rcases hs with ⟨rfl, rfl, rfl⟩ | ⟨rfl, _⟩ | ⟨rfl, rfl, rfl⟩ | ⟨id, rfl, rfl, rfl⟩
 ·cases h; exact ⟨nofun, .inl ⟨rfl, rfl⟩⟩
 ·cases h
 ·cases h; exact ⟨nofun, .inr (.inl ⟨rfl, rfl⟩)⟩
 ·rw [Nat.add_comm] at h
  cases h; exact ⟨nofun, .inr (.inr ⟨id, rfl, rfl⟩)⟩
theorem loopC_ok {o : O} {d : RC} {K : Code → Code → Nat → Nat → Env → Nat → RC} {x : Ex} {m : List Nat} (h : loopB (.no m) o K = .ok x e' s') : ∃ A B p N e st, o = .loop A B p N e st ∧ K A B p N e st = .ok x e' s' := by
 unfold loopB at h
 split at h
 ·exact ⟨_, _, _, _, _, _, rfl, h⟩
 ·cases h
theorem rngf_ok {yy : YS} {g : Operand} {ps : Array Tmp} {A B : Code} {x : Ex} (hy : YOk P yy) (hF : FsOk P F) (hN : N ≤ 2 ^ 20) (h : runC (cC P N (.rangeFunc g ps A B)) (some yy) F e s = .ok x e' s') (hE : Ev N θ e a) (hr : Rel w0 T θ s w)
  (hk : ∀ θ1 a1 w1, Ev N θ1 e' a1 → Post w0 T θ s θ1 s' w1 → Q (exOf x) a1 w1) : (Code.rangeFunc g ps A B).wpIn Fence.wide 0 P Q a w := by
 simp only [cC] at h
 split at h
 ·rename_i p hps
  cases hp : Nat.blt p N with
  | false => rw [hp] at h; cases h
  | true =>
   rw [hp] at h
   have hp : p < N := Nat.le_of_ble_eq_true hp
   have h : rRngf (cX g) p N A B (some yy) F e s = .ok x e' s' := h
   unfold rRngf at h
   simp only at h
   split at h
   ·rename_i gf xs1 bs hg
    cases hh : yy.has gf with
    | false => rw [hh] at h; cases h
    | true =>
     rw [hh] at h
     simp only [cond_true] at h
     split at h
     ·rename_i hmk
      obtain ⟨ys, zs, e1, e2, e3⟩ := hE.rx g _ hg nofun
      unfold newB at h
      simp only at h
      have hdf : a.defers = [] := by
       rcases hE.defers with hd | ⟨q, pl, hd, _⟩
       ·exact hd.2
       ·rw [hmk] at hd; cases hd
      refine wpIn_rangeFunc fun fn _ => ?_
      have hp1 := hr.alloc (o := .dfr) (ob := .deferred (some [])) (a := 0) (c := 0) rfl
      have hE1 := hE.le hp1.le
      have hp2 := hp1.rel.alloc (o := .loop A B p N e 0) (ob := .loop { state := .ready, pending := none, fn, tmps := a.tmps, params := ps, assign := A, body := B, defers := w.heap.size }) (a := 0) (c := 0) ⟨_, rfl, rfl, rfl, Array.ext' hps, hp, hN, hmk, hE1.size, hE1.has, .inl ⟨rfl, rfl, rfl⟩⟩
      have hD : (θ.upd s.n ⟨w.heap.size, 0, 0⟩) s.n = some ⟨w.heap.size, 0, 0⟩ := Th.upd_self ..
      generalize hθ1 : θ.upd s.n ⟨w.heap.size, 0, 0⟩ = θ1 at hp1 hp2 hE1 hD
      generalize hs1 : (⟨s.n.next, Tr.set O.no s.n .dfr s.m⟩ : St) = s1 at hp1 hp2
      generalize hw1 : ({ w with heap := w.heap.push (.deferred (some [])) } : World) = w1 at hp1 hp2
      have hsz : w1.heap.size = w.heap.size + 1 := by rw [← hw1]; simp
      have hq : (θ1.upd s1.n ⟨w1.heap.size, 0, 0⟩) s1.n = some ⟨w1.heap.size, 0, 0⟩ := Th.upd_self ..
      generalize hθ2 : θ1.upd s1.n ⟨w1.heap.size, 0, 0⟩ = θ2 at hp2 hq
      generalize hs2 : (⟨s1.n.next, Tr.set O.no s1.n (.loop A B p N e 0) s1.m⟩ : St) = s2 at hp2
      generalize hw2 : ({ w1 with heap := w1.heap.push (.loop { state := .ready, pending := none, fn, tmps := a.tmps, params := ps, assign := A, body := B, defers := w.heap.size }) } : World) = w2 at hp2
      have hp12 := hp1.trans hp2
      have h : (R.rec .no (fun _ s3 => loopB (.no [4001]) (getB s1.n s3) fun _ _ _ _ _ st => Option.rec (.no [4002]) (fun x => .ok x (Tr.set V.no mkB (.p s.n 0) e) (putB s1.n .junk s3)) (exOfN st)) (F gf (appV xs1 (.yl s1.n :: bs)) s2) : RC) = .ok x e' s' := by
       rw [← hs2, ← hs1]; exact h
      cases hcall : F gf (appV xs1 (.yl s1.n :: bs)) s2 with
      | no ww => rw [hcall] at h; cases h
      | ok v s3 =>
       rw [hcall] at h
       have h : loopB (.no [4001]) (getB s1.n s3) (fun _ _ _ _ _ st => Option.rec (.no [4002]) (fun x => .ok x (Tr.set V.no mkB (.p s.n 0) e) (putB s1.n .junk s3)) (exOfN st) : Code → Code → Nat → Nat → Env → Nat → RC) = .ok x e' s' := h
       obtain ⟨A3, B3, p3, M3, e3', st, hg3, h⟩ := loopC_ok (d := .no []) h
       cases hx : exOfN st with
       | none => rw [hx] at h; cases h
       | some x3 =>
        rw [hx] at h
        cases h
        rw [appV_eq] at hcall
        have hl : s1.n = s1.n := rfl
        have hvs : Rvs θ2 (xs1 ++ .yl s1.n :: bs) (ys ++ .func (.yield w1.heap.size) #[] #[] :: zs) :=
         (e2.le hp12.le).app ⟨_, _, rfl, ⟨_, hq, rfl⟩, e3.le hp12.le⟩
        have hends := hF w0 T gf _ s2 v s3 θ2 w2 _ hcall hvs hp2.rel
        rw [hy.2 gf hh] at hends
        rcases hends with ⟨_, _, _, h0, _⟩ | ⟨_, _, h0, _⟩ | ⟨f1, args1, w3, h0, hcalls⟩
        ·cases h0
        ·cases h0
        ·cases h0
         refine ⟨w1.heap.size, [{ target := .collected w.heap.size, args := #[] }], w2, { target := .fn (.func gf) zs.toArray, args := ys.toArray ++ #[.func (.yield w1.heap.size) #[] #[]] }, w2, gf, (ys ++ .func (.yield w1.heap.size) #[] #[] :: zs).toArray, w2, ?_, ?_, fun _ _ => trivial, ?_, nofun, callsIn_wide.2 (Calls.mono hcalls fun en w3 hx3 => ?_)⟩
         ·rw [show Fence.wide.round = none from rfl, run_enterLoop_outer, hsz, ← hw2, ← hw1]
          rfl
         ·have e6 : (#[Operand.const (.func (.yield w1.heap.size) #[] #[])] : Array Operand).map a.eval = #[.func (.yield w1.heap.size) #[] #[]] := by
           apply Array.ext'
           simp
           rfl
          simp only [rangeCall, resolve, e1, Deferred.ofValue, e6]
          rfl
         ·have := hy.2 gf hh ((ys.toArray ++ #[.func (.yield w1.heap.size) #[] #[]]) ++ zs.toArray) w2
          simpa [invoke] using this
         ·obtain ⟨θ3, y3, rfl, hv3, hp3⟩ := hx3
          have hq3 := hp3.le _ _ hq
          obtain ⟨rec3, l1, l2, l3, l4, l5, lN, l6, l7, l8, l9⟩ := hp3.rel.loopAt hg3 hq3
          obtain ⟨k1, k2⟩ := exOfN_ok hx l9
          have hr4 := hp3.rel.putObj (o := .junk) (ob := .loop { rec3 with state := .exhausted }) (by rw [hg3]; exact nofun) hq3 trivial
          have hpost : Post w0 T θ s θ3 (putB s1.n .junk s3) (w3.putObj w1.heap.size (.loop { rec3 with state := .exhausted })) := hp12.trans (hp3.trans (hr4.post' (s := s3) rfl))
          have hE4 : Ev N θ3 (Tr.set V.no mkB (.p s.n 0) e) { a with defers := [{ target := .collected w.heap.size, args := #[] }] ++ a.defers } := by
           refine ⟨hE.size, .inr ⟨s.n, ⟨w.heap.size, 0, 0⟩, get_set_self .., hp3.le _ _ (hp2.le _ _ hD), by rw [hdf]; rfl⟩, fun t u ht hu hn => ?_⟩
           rw [get_set_ne mkB (slot t) e fun e0 => slot_mk t e0.symm] at hu
           obtain ⟨x, h1, h2⟩ := hE.has t u ht hu hn
           exact ⟨x, h1, h2.le hpost.le⟩
          have hfin := hk _ _ _ hE4 hpost
          refine ⟨_, _, run_endLoop l1 k1, ?_⟩
          rcases k2 with ⟨rfl, k2⟩ | ⟨rfl, k2⟩ | ⟨id, rfl, k2⟩
          ·rw [k2] at hfin ⊢; exact hfin
          ·rw [k2] at hfin ⊢; exact wpIn_ret hfin
          ·rw [k2] at hfin ⊢; exact wpIn_exit hfin
     ·cases h
   ·cases h
 ·cases h
theorem runC_ok {y : Option YS} {ro : Option Nat} (hY : ∀ yy, y = some yy → YOk P yy ∧ ro = none) (hF : FsOk P F) (hN : N ≤ 2 ^ 20) : ∀ (c : Code) (x : Ex) (e e' : Env) (s s' : St) (θ : Th) (a : Act) (w : World) (Q : Exit → Act → World → Prop), runC (cC P N c) y F e s = .ok x e' s' → Ev N θ e a → Rel w0 T θ s w →
  (∀ θ1 a1 w1, Ev N θ1 e' a1 → Post w0 T θ s θ1 s' w1 → Q (exOf x) a1 w1) → c.wpIn (Fn ro) 0 P Q a w
 | .skip, x, e, e', s, s', θ, a, w, Q, h, hE, hr, hk => by cases h; exact wpIn_skip (hk θ a w hE hr.post)
 | .label _, x, e, e', s, s', θ, a, w, Q, h, hE, hr, hk => by cases h; exact wpIn_label (hk θ a w hE hr.post)
 | .exit id, x, e, e', s, s', θ, a, w, Q, h, hE, hr, hk => by cases h; exact wpIn_exit (hk θ a w hE hr.post)
 | .ret, x, e, e', s, s', θ, a, w, Q, h, hE, hr, hk => by cases h; exact wpIn_ret (hk θ a w hE hr.post)
 | .seq c d, x, e, e', s, s', θ, a, w, Q, h, hE, hr, hk => by
  obtain ⟨z, e1, s1, h1, h2⟩ := rc_ok (show (RC.rec .no (rcNx (runC (cC P N d) y F)) (runC (cC P N c) y F e s) : RC) = .ok x e' s' from h)
  refine wpIn_seq (runC_ok hY hF hN c z e e1 s s1 θ a w _ h1 hE hr fun θ1 a1 w1 hE1 hp1 => ?_)
  rcases rcNx_ok h2 with ⟨rfl, h3⟩ | ⟨hy, rfl, rfl, rfl⟩
  ·exact runC_ok hY hF hN d x e1 e' s1 s' θ1 a1 w1 Q h3 hE1 hp1.rel fun θ2 a2 w2 hE2 hp2 => hk θ2 a2 w2 hE2 (hp1.trans hp2)
  ·exact then_ok (fun e0 => absurd e0 hy) fun _ => hk θ1 a1 w1 hE1 hp1
 | .cond c t f, x, e, e', s, s', θ, a, w, Q, h, hE, hr, hk => by
  have h' : asB (.no [1002]) (evX (cX c) e) (fun b => bif b then runC (cC P N t) y F e s else runC (cC P N f) y F e s) = .ok x e' s' := h
  unfold asB at h'
  split at h'
  ·rename_i b hb
   refine wpIn_cond_split (t := b) (hE.rx c _ hb nofun) (fun ht => ?_) fun hf => ?_
   ·subst ht; exact runC_ok hY hF hN t x e e' s s' θ a w Q h' hE hr hk
   ·subst hf; exact runC_ok hY hF hN f x e e' s s' θ a w Q h' hE hr hk
  ·cases h'
 | .block id c, x, e, e', s, s', θ, a, w, Q, h, hE, hr, hk => by
  obtain ⟨z, e1, s1, h1, h2⟩ := rc_ok (show (RC.rec .no (fun x e s => Ex.rec (.ok .nx e s) (fun j => .ok (bif Nat.beq id j then .nx else .ex j) e s) (.ok .rt e s) x) (runC (cC P N c) y F e s) : RC) = .ok x e' s' from h)
  refine wpIn_block (runC_ok hY hF hN c z e e1 s s1 θ a w _ h1 hE hr fun θ1 a1 w1 hE1 hp1 => ?_)
  cases z with
  | nx => cases h2; exact hk θ1 a1 w1 hE1 hp1
  | rt => cases h2; exact hk θ1 a1 w1 hE1 hp1
  | ex j =>
   cases hj : Nat.beq id j with
   | true =>
    have h2 : RC.ok (bif Nat.beq id j then .nx else .ex j) e1 s1 = .ok x e' s' := h2
    rw [hj] at h2
    cases h2
    obtain rfl := Nat.eq_of_beq_eq_true hj
    show Exit.inBlock id Q (.exit id) a1 w1
    simp only [Exit.inBlock, if_true]
    exact hk θ1 a1 w1 hE1 hp1
   | false =>
    have h2 : RC.ok (bif Nat.beq id j then .nx else .ex j) e1 s1 = .ok x e' s' := h2
    rw [hj] at h2
    cases h2
    have hne := Nat.ne_of_beq_eq_false hj
    show Exit.inBlock id Q (.exit j) a1 w1
    simp only [Exit.inBlock]
    first
     | (rw [if_neg (fun e0 => hne e0.symm)]; exact hk θ1 a1 w1 hE1 hp1)
     | (rw [if_neg hne]; exact hk θ1 a1 w1 hE1 hp1)
 | .loop c, x, e, e', s, s', θ, a, w, Q, h, hE, hr, hk => by
  have key : ∀ n e s θ a w, rLoopN n (runC (cC P N c)) y F e s = .ok x e' s' → Ev N θ e a → Rel w0 T θ s w → (∀ θ1 a1 w1, Ev N θ1 e' a1 → Post w0 T θ s θ1 s' w1 → Q (exOf x) a1 w1) → Code.roundsIn (Fn ro) 0 P c Q n a w := fun n => by
   induction n with
   | zero => intro e s θ a w h; cases h
   | succ n ih =>
    intro e s θ a w h hE hr hk
    obtain ⟨z, e1, s1, h1, h2⟩ := rc_ok (show (RC.rec .no (rcNx (rLoopN n (runC (cC P N c)) y F)) (runC (cC P N c) y F e s) : RC) = .ok x e' s' from h)
    refine runC_ok hY hF hN c z e e1 s s1 θ a w _ h1 hE hr fun θ1 a1 w1 hE1 hp1 => ?_
    rcases rcNx_ok h2 with ⟨rfl, h3⟩ | ⟨hy, rfl, rfl, rfl⟩
    ·exact ih e1 s1 θ1 a1 w1 h3 hE1 hp1.rel fun θ2 a2 w2 hE2 hp2 => hk θ2 a2 w2 hE2 (hp1.trans hp2)
    ·exact then_ok (fun e0 => absurd e0 hy) fun _ => hk θ1 a1 w1 hE1 hp1
  exact wpIn_loop_rounds 5000 (key 5000 e s θ a w h hE hr hk)
 | .region id ops true, x, e, e', s, s', θ, a, w, Q, h, hE, hr, hk => regd_ok hF hN h hE hr fun θ1 a1 w1 hE1 hp1 hx => by subst hx; exact hk θ1 a1 w1 hE1 hp1
 | .region id ops false, x, e, e', s, s', θ, a, w, Q, h, hE, hr, hk => by
  have h' : (RC.rec (fun w => .no (id :: w)) .ok (opsC (ops.toList.map (cG P N ops)) y F e s fun e s => .ok .nx e s) : RC) = .ok x e' s' := h
  cases hg : opsC (ops.toList.map (cG P N ops)) y F e s fun e s => .ok .nx e s with
  | no ww => rw [hg] at h'; cases h'
  | ok x2 e2 s2 =>
   rw [hg] at h'
   cases h'
   refine wpIn_region_list (opsC_ok hY hF hN ops.toList e s _ θ a w hg hE hr fun e1 s1 θ1 a1 w1 h1 hE1 hp1 => ?_)
   cases h1
   exact hk θ1 a1 w1 hE1 hp1
 | .rangeFunc g ps A B, x, e, e', s, s', θ, a, w, Q, h, hE, hr, hk => by
  cases y with
  | none =>
   exfalso
   revert h
   simp only [cC]
   split
   ·simp only [Bool.cond_eq_ite]
    split <;> intro h <;> cases h
   ·intro h; cases h
  | some yy =>
   obtain ⟨hy, rfl⟩ := hY yy rfl
   exact rngf_ok hy hF hN h hE hr hk
 | .scope _, x, e, e', s, s', θ, a, w, Q, h, hE, hr, hk => by cases h
 | .goto _, x, e, e', s, s', θ, a, w, Q, h, hE, hr, hk => by cases h
 | .refuse _, x, e, e', s, s', θ, a, w, Q, h, hE, hr, hk => by cases h
end Ci
namespace Ci
open Go
variable [Sym]
variable {P : Program} {w0 : World} {T : Nat → Prop} {θ : Th} {s s' : St} {w : World} {e e' : Env} {F : Fs} {v : V} {N : Nat} {a : Act} {Q : Exit → Act → World → Prop}
def resS (tmps : Array Value) : ResultVar → Sem Value
 | .tmp t => pure (tmps.getD t undef)
 | .cell b t => do loadVar t (← asAddr (tmps.getD b undef))
theorem results_eq (fn : Func) (tmps : Array Value) : results fn tmps = (do
  let vs ← fn.results.mapM (resS tmps)
  pure (if h : vs.size = 1 then vs[0] else .tuple vs)) := by
 unfold results resS
 rfl
theorem Ev.at (hE : Ev N θ e a) {t : Nat} (ht : t < 2 ^ 20) {u : V} (hu : Tr.get V.no (slot t) e = u) (hn : u ≠ .no) : Rv θ u (a.tmps.getD t undef) := by
 obtain ⟨x, h1, h2⟩ := hE.has t u ht hu hn
 rw [Array.getD_eq_getD_getElem?, h1]
 exact h2
theorem res_one {r : ResultVar} {K : V → R} (h : resV (cR P N r) e s K = .ok v s') (hN : N ≤ 2 ^ 20) (hE : Ev N θ e a) (hr : Rel w0 T θ s w) : ∃ u x, K u = .ok v s' ∧ Rv θ u x ∧ (resS a.tmps r).run P w = .ok x w := by
 cases r with
 | tmp t =>
  simp only [cR] at h
  cases hb : Nat.blt t N with
  | false => rw [hb] at h; cases h
  | true =>
   rw [hb] at h
   have hb : t < N := Nat.le_of_ble_eq_true hb
   obtain ⟨hn, h⟩ := isV_ok (show isV nay (Tr.get V.no (slot t) e) K = .ok v s' from h)
   exact ⟨_, _, h, hE.at (Nat.lt_of_lt_of_le hb hN) rfl hn, rfl⟩
 | cell t ty =>
  simp only [cR] at h
  cases hb : Nat.blt t N with
  | false => rw [hb] at h; cases h
  | true =>
   rw [hb] at h
   have hb : t < N := Nat.le_of_ble_eq_true hb
   simp only [cond_true] at h
   split at h
   ·rename_i inf hi
    cases hb2 : (oneT P ty || aggT P ty) with
    | false => rw [hb2] at h; cases h
    | true =>
     rw [hb2] at h
     obtain ⟨q, off, hq, h⟩ := asP_ok (show asP nay (Tr.get V.no (slot t) e) (fun r off => cellsB nay (getB r s) fun cs _ => isV nay (partV cs off inf.size (oneT P ty)) K) = .ok v s' from h)
     obtain ⟨cs, mk, h, hm⟩ := cellsB_ok h
     obtain ⟨hn, h⟩ := isV_ok h
     obtain ⟨pl, hp, hX⟩ := hE.at (Nat.lt_of_lt_of_le hb hN) hq nofun
     obtain ⟨hl, hd, ys, tl, ct, L⟩ := hr.lies hp hm
     cases ho : oneT P ty with
     | true =>
      rw [ho] at h hn
      have hnv : nthV off cs ≠ .no := hn
      obtain ⟨y, hy, h4⟩ := L.vs.get (nthV_some rfl hnv)
      refine ⟨_, y, h, h4, ?_⟩
      show (do loadVar ty (← asAddr (a.tmps.getD t undef)) : Sem Value).run P w = _
      rw [hX, run_bindE (show (asAddr (.pointer (some ⟨pl.b, pl.a + off, Option.none⟩))).run P w = .ok ⟨pl.b, pl.a + off, Option.none⟩ w from rfl)]
      simp [loadVar, isOne_run ho, L.cell hy]
     | false =>
      rw [ho] at h hn hb2
      have ha : aggT P ty = true := by simpa using hb2
      unfold partV at h hn
      simp only [cond_false] at h hn
      cases hb3 : hasLen (takeV inf.size (dropV off cs)) inf.size with
      | false => rw [hb3] at hn; exact absurd rfl hn
      | true =>
       rw [hb3] at h
       rw [dropV_eq, takeV_eq] at hb3 h
       have hlen := hasLen_eq hb3
       rw [List.length_take, List.length_drop] at hlen
       have h1' : off + inf.size ≤ cs.length ∨ inf.size = 0 := by omega
       refine ⟨_, .agg ((ys.drop off).take inf.size).toArray, h, ⟨_, rfl, (L.vs.drop off).take inf.size, ?_⟩, ?_⟩
       ·have := L.one
        rw [List.all_eq_true] at this ⊢
        exact fun x hx => this x (List.mem_of_mem_drop (List.mem_of_mem_take hx))
       ·have hload : (loadCells ⟨pl.b, pl.a + off, none⟩ inf.size).run P w = .ok ((ys.drop off).take inf.size).toArray w := by
         rcases h1' with h1' | h0
         ·exact L.load h1'
         ·simp [loadCells, loadCellsFrom, h0]
        show (do loadVar ty (← asAddr (a.tmps.getD t undef)) : Sem Value).run P w = _
        rw [hX, run_bindE (show (asAddr (.pointer (some ⟨pl.b, pl.a + off, Option.none⟩))).run P w = .ok ⟨pl.b, pl.a + off, Option.none⟩ w from rfl)]
        simp [loadVar, isAgg_run ha, sizeOf_run hi, hload]
   ·cases h
theorem res_all : ∀ (rs : List ResultVar) (K : List V → R), resVs (rs.map (cR P N)) e s K = .ok v s' → N ≤ 2 ^ 20 → Ev N θ e a → Rel w0 T θ s w → ∃ us xs, K us = .ok v s' ∧ Rvs θ us xs ∧ (rs.mapM (resS a.tmps)).run P w = .ok xs w
 | [], K, h, hN, hE, hr => ⟨[], [], h, rfl, rfl⟩
 | r :: rs, K, h, hN, hE, hr => by
  have h' : resV (cR P N r) e s (fun v => resVs (rs.map (cR P N)) e s fun vs => K (v :: vs)) = .ok v s' := h
  obtain ⟨u, x, h1, h2, h3⟩ := res_one h' hN hE hr
  obtain ⟨us, xs, h4, h5, h6⟩ := res_all rs _ h1 hN hE hr
  refine ⟨u :: us, x :: xs, h4, ⟨x, xs, rfl, h2, h5⟩, ?_⟩
  rw [List.mapM_cons, run_bindE h3, run_bindE h6]
  rfl
theorem tupV_ok {us : List V} {xs : List Value} (h : Rvs θ us xs) : Rv θ (tupV us) (if h : xs.toArray.size = 1 then xs.toArray[0] else .tuple xs.toArray) := by
 have hl := h.length
 unfold tupV
 split
 ·rename_i u
  obtain ⟨x, zs, rfl, h1, h2⟩ := h
  cases h2
  simpa using h1
 ·rename_i hne
  have : xs.toArray.size ≠ 1 := fun e1 => by
   rw [List.size_toArray] at e1
   rw [e1] at hl
   obtain ⟨u, rfl⟩ := List.length_eq_one_iff.1 hl
   exact hne u rfl
  rw [dif_neg this]
  exact ⟨xs, by simp, h⟩
theorem env_get : ∀ (l : List Nat) (vs : List V), (∀ t ∈ l, t < 2 ^ 20) → ∀ t v, t < 2 ^ 20 → Tr.get V.no (slot t) (envOf (l.map slot) vs) = v → v ≠ .no → ∃ j : Nat, l[j]? = some t ∧ vs[j]? = some v
 | [], vs, _, t, v, ht, h, hn => by
  have : (V.no : V) = v := by
   rw [← h]
   show V.no = Tr.get V.no (slot t) .lf
   cases slot t <;> rfl
  exact absurd this.symm hn
 | d :: l, vs, hl, t, v, ht, h, hn => by
  have h' : Tr.get V.no (slot t) (Tr.set V.no (slot d) (headV vs) (envOf (l.map slot) (tailV vs))) = v := h
  by_cases e1 : d = t
  ·subst e1
   rw [get_set_self] at h'
   have := headV_some h' hn
   cases vs with
   | nil => cases this
   | cons x xs => exact ⟨0, rfl, by simpa using this⟩
  ·rw [get_set_ne _ _ _ fun e2 => e1 (slot_inj (hl d (List.mem_cons_self ..)) ht e2)] at h'
   obtain ⟨j, h1, h2⟩ := env_get l (tailV vs) (fun t ht => hl t (List.mem_cons_of_mem _ ht)) t v ht h' hn
   refine ⟨j + 1, by simpa using h1, ?_⟩
   rw [tailV_eq] at h2
   cases vs with
   | nil => simp at h2
   | cons x xs => simpa using h2
theorem env_mk : ∀ (l : List Nat) (vs : List V), Tr.get V.no mkB (envOf (l.map slot) vs) = .no
 | [], vs => rfl
 | d :: l, vs => by
  show Tr.get V.no mkB (Tr.set V.no (slot d) (headV vs) (envOf (l.map slot) (tailV vs))) = .no
  rw [get_set_ne _ _ _ (slot_mk d)]
  exact env_mk l (tailV vs)
theorem results_ok {fn : Func} {s1 : St} (hN : N ≤ 2 ^ 20) (hE : Ev N θ e a) (hr : Rel w0 T θ s w) (h : resVs (fn.results.toList.map (cR P N)) e s (fun vs => .ok (tupV vs) s) = .ok v s1) : s = s1 ∧ ∃ x, (results fn a.tmps).run P w = .ok x w ∧ Rv θ v x := by
 obtain ⟨us, xs, h1, h2, h3⟩ := res_all fn.results.toList _ h hN hE hr
 cases h1
 refine ⟨rfl, _, ?_, tupV_ok h2⟩
 rw [results_eq]
 have h4 : (fn.results.mapM (resS a.tmps)).run P w = .ok xs.toArray w := by
  rw [Array.mapM_eq_mapM_toList, map_eq_pure_bind, run_bindE h3]
  rfl
 rw [run_bindE h4]
 rfl
theorem endF_ok {fn : Func} {R : Ending → World → Prop} (hN : N ≤ 2 ^ 20) (hE : Ev N θ e a) (hr : Rel w0 T θ s w) (h : endF (fn.results.toList.map (cR P N)) e s = .ok v s') (hR : ∀ x w', Rv θ v x → Post w0 T θ s θ s' w' → R (.returned x) w') : LeavesInM Fence.wide 0 P fn a.tmps R a.defers .returning w := by
 unfold endF at h
 split at h
 ·rename_i hm
  have hd : a.defers = [] := by
   rcases hE.defers with hd | ⟨q, pl, hd, _⟩
   ·exact hd.2
   ·rw [hm] at hd; cases hd
  rw [hd]
  obtain ⟨rfl, x, h1, h2⟩ := results_ok hN hE hr h
  exact ⟨x, h1, hR x w h2 hr.post⟩
 ·rename_i D off hm
  rcases hE.defers with hd | ⟨q, pl, hd, hq, hds⟩
  ·rw [hm] at hd; cases hd.1
  ·rw [hm] at hd
   cases hd
   split at h
   ·rename_i hg
    obtain ⟨pl', ob, h1, h2, h3⟩ := hr.mem D (by rw [hg]; exact nofun)
    rw [hq] at h1
    obtain rfl := Option.some.inj h1
    rw [hg] at h3
    have h3 : ob = .deferred (some []) := h3
    subst h3
    have hr' := hr.putObj (o := .junk) (ob := .deferred none) (by rw [hg]; exact nofun) hq trivial
    obtain ⟨rfl, x, k1, k2⟩ := results_ok hN hE hr' h
    rw [hds]
    exact ⟨nofun, .inl ⟨pl.b, _, rfl, run_takeDeferred h2, x, k1, hR x _ k2 (hr'.post' (s := s) rfl)⟩⟩
   ·cases h
 ·cases h
theorem callFunc_run {f : Nat} (h : hasF P f = true) (args : Array Value) (w : World) : (callFunc f args).run P w = .ok (.enter f args) w := by
 unfold hasF at h
 split at h
 ·rename_i fn hf
  rw [Bool.and_eq_true] at h
  have hnm : (fn.name == "runtime.NumGoroutine") = false := by simpa using h.1
  unfold callFunc
  have h1 : (program).run P w = .ok P w := rfl
  rw [run_bindE h1, hf]
  have hb : fn.body.isNone = false := by
   cases hb : fn.body with
   | none => rw [hb] at h; cases h.2
   | some b => rfl
  simp only [hnm, hb]
  rfl
 ·cases h
theorem yOf_ok (hF : FsOk P F) : YOk P (yOf P F) := by
 refine ⟨fun A N e s x e' s' h l w0 T θ a w Q hE hr hk => ?_, fun f h args w => callFunc_run h args w⟩
 have h : (bif Nat.ble N 0x100000 then runC (cC P N A) none F e s else .no [4010]) = .ok x e' s' := h
 cases hN : Nat.ble N 0x100000 with
 | false => rw [hN] at h; cases h
 | true =>
  rw [hN] at h
  exact runC_ok (y := none) (ro := some l) nofun hF (Nat.le_of_ble_eq_true hN) A x e e' s s' θ a w Q h hE hr hk
theorem runCF_ok {f : Nat} {fn : Func} {c : CF} {vs : List V} {args : List Value} (hF : FsOk P F) (hf : P.funcs[f]? = some fn) (hc : cF P fn = some c) (h : runCF c (some (yOf P F)) F vs s = .ok v s') (hv : Rvs θ vs args) (hr : Rel w0 T θ s w) : Ends P w0 T θ s v s' ((callFunc f args.toArray).run P w) := by
 unfold cF at hc
 cases hnm : fn.name == "runtime.NumGoroutine" with
 | true => rw [hnm] at hc; cases hc
 | false =>
  rw [hnm] at hc
  simp only [cond_false] at hc
  split at hc
  ·rename_i b hb
   cases hbd : (Nat.ble (fn.params.size + fn.nfree) fn.ntmps && Nat.ble fn.ntmps 0x100000) with
   | false => rw [hbd] at hc; cases hc
   | true =>
    rw [hbd] at hc
    obtain rfl := Option.some.inj hc
    rw [Bool.and_eq_true] at hbd
    have hk := Nat.le_of_ble_eq_true hbd.1
    have hN : fn.ntmps ≤ 2 ^ 20 := Nat.le_of_ble_eq_true hbd.2
    have hrun : (callFunc f args.toArray).run P w = .ok (.enter f args.toArray) w := by
     unfold callFunc
     have h1 : (program).run P w = .ok P w := rfl
     rw [run_bindE h1, hf]
     simp only [hnm, hb, Option.isNone_some]
     rfl
    have h' : (bif hasLen vs (fn.params.size + fn.nfree) then (RC.rec .no (fun x e s => Ex.rec (endF (fn.results.toList.map (cR P fn.ntmps)) e s) (fun _ => .no [1003]) (endF (fn.results.toList.map (cR P fn.ntmps)) e s) x) (runC (cC P fn.ntmps b) (some (yOf P F)) F (envOf ((List.range (fn.params.size + fn.nfree)).map slot) vs) s) : R) else .no [1004]) = .ok v s' := h
    cases hlen : hasLen vs (fn.params.size + fn.nfree) with
    | false => rw [hlen] at h'; cases h'
    | true =>
     rw [hlen] at h'
     simp only [cond_true] at h'
     have hlen := hasLen_eq hlen
     have hal := hv.length
     cases hrc : runC (cC P fn.ntmps b) (some (yOf P F)) F (envOf ((List.range (fn.params.size + fn.nfree)).map slot) vs) s with
     | no ww => rw [hrc] at h'; cases h'
     | ok x e1 s1 =>
      rw [hrc] at h'
      have hend : endF (fn.results.toList.map (cR P fn.ntmps)) e1 s1 = .ok v s' ∧ (x = .nx ∨ x = .rt) := by
       cases x with
       | nx => exact ⟨h', .inl rfl⟩
       | rt => exact ⟨h', .inr rfl⟩
       | ex j => cases h'
      refine .inr (.inr ⟨f, _, w, hrun, callsIn_wide.1 (callsIn_of_wp_marks (F := Fence.wide) (n := 0) hf hb trivial ?_)⟩)
      have hE0 : Ev fn.ntmps θ (envOf ((List.range (fn.params.size + fn.nfree)).map slot) vs) { tmps := args.toArray ++ Array.replicate (fn.ntmps - args.toArray.size) undef, defers := [] } := by
       refine ⟨by simp; omega, .inl ⟨env_mk _ _, rfl⟩, fun t u ht hu hn => ?_⟩
       obtain ⟨j, h1, h2⟩ := env_get (List.range (fn.params.size + fn.nfree)) vs (fun t ht => by have := List.mem_range.1 ht; omega) t u ht hu hn
       obtain ⟨y, h3, h4⟩ := hv.get h2
       have hj := (List.getElem?_eq_some_iff.1 h1).1
       have : j = t := by
        have := (List.getElem?_eq_some_iff.1 h1).2
        simpa using this
       subst this
       refine ⟨y, ?_, h4⟩
       have hlt := (List.getElem?_eq_some_iff.1 h3).1
       rw [Array.getElem?_append_left (by simpa using hlt)]
       simpa using h3
      refine runC_ok (y := some (yOf P F)) (ro := none) (fun yy e0 => by cases e0; exact ⟨yOf_ok hF, rfl⟩) hF hN b x _ _ _ _ θ _ w _ hrc hE0 hr fun θ1 a1 w1 hE1 hp1 => ?_
      have hL := endF_ok (fn := fn) (R := fun en w' => ∃ θ' x, en = .returned x ∧ Rv θ' v x ∧ Post w0 T θ s θ' s' w') hN hE1 hp1.rel hend.1 fun y w' h1 h2 => ⟨θ1, y, rfl, h1, hp1.trans h2⟩
      rcases hend.2 with rfl | rfl
      ·exact hL
      ·exact hL
  ·cases hc
def SpOk (P : Program) (sp : Nat → Option (List V → St → R)) : Prop := ∀ f g, sp f = some g → ∀ w0 T vs s v s' θ w args, g vs s = .ok v s' → Rvs θ vs args → Rel w0 T θ s w → Ends P w0 T θ s v s' ((callFunc f args.toArray).run P w)
theorem rr_ok {r : R} {f : Nat} (h : (R.rec (fun w => .no (f :: w)) .ok r : R) = .ok v s') : r = .ok v s' := by
 cases r with
 | no w => cases h
 | ok u s1 => exact h
theorem walkF_ok {f : Nat} {vs : List V} {args : List Value} (hF : FsOk P F) (h : walkF (getF P) (yOf P) F f vs s = .ok v s') (hv : Rvs θ vs args) (hr : Rel w0 T θ s w) : Ends P w0 T θ s v s' ((callFunc f args.toArray).run P w) := by
 unfold walkF at h
 cases hg : getF P f with
 | none => rw [hg] at h; cases h
 | some c =>
  rw [hg] at h
  unfold getF at hg
  cases hf : P.funcs[f]? with
  | none => rw [hf] at hg; cases hg
  | some fn =>
   rw [hf] at hg
   exact runCF_ok hF hf hg (rr_ok h) hv hr
theorem runF_ok {sp : Nat → Option (List V → St → R)} (hs : SpOk P sp) : ∀ n, FsOk P (runF sp (getF P) (yOf P) n)
 | 0, w0, T, f, vs, s, v, s', θ, w, args, h, hv, hr => by cases h
 | n + 1, w0, T, f, vs, s, v, s', θ, w, args, h, hv, hr => by
  have h' : (Option.rec (walkF (getF P) (yOf P) (runF sp (getF P) (yOf P) n) f vs s) (fun g => R.rec (fun _ => walkF (getF P) (yOf P) (runF sp (getF P) (yOf P) n) f vs s) .ok (g vs s)) (sp f) : R) = .ok v s' := h
  cases hsp : sp f with
  | some g =>
   rw [hsp] at h'
   cases hg : g vs s with
   | no ww =>
    have h' : (R.rec (fun _ => walkF (getF P) (yOf P) (runF sp (getF P) (yOf P) n) f vs s) .ok (g vs s) : R) = .ok v s' := h'
    rw [hg] at h'
    exact walkF_ok (runF_ok hs n) h' hv hr
   | ok u s1 =>
    have h' : (R.rec (fun _ => walkF (getF P) (yOf P) (runF sp (getF P) (yOf P) n) f vs s) .ok (g vs s) : R) = .ok v s' := h'
    have h2 : g vs s = .ok v s' := by rw [hg] at h'; exact hg.trans h'
    exact hs f g hsp w0 T vs s v s' θ w args h2 hv hr
  | none =>
   rw [hsp] at h'
   exact walkF_ok (runF_ok hs n) h' hv hr
end Ci
namespace Ci
open Go
variable [Sym]
variable {P : Program} {w0 : World} {T : Nat → Prop} {θ : Th} {s s' : St} {w : World} {v : V}
theorem Rel.grow {w' : World} (h : Rel w0 T θ s w) (e1 : w'.os = w.os) (e2 : w'.tape = w.tape) (e3 : w'.output = w.output) (e4 : w.heap.size ≤ w'.heap.size) (e5 : ∀ k, k < w.heap.size → w'.heap[k]? = w.heap[k]?) : Rel w0 T θ s w' :=
 ⟨e1.trans h.os, e2.trans h.tape, e3.trans h.output, Nat.le_trans h.size e4, fun k hk ht => (e5 k (Nat.lt_of_lt_of_le hk h.size)).trans (h.frame k hk ht), h.glob, h.num, fun r pl hr hp => let ⟨a, b⟩ := h.new r pl hr hp; ⟨a, Nat.lt_of_lt_of_le b e4⟩, h.inj, fun r hr => let ⟨pl, ob, a, b, c⟩ := h.mem r hr; ⟨pl, ob, a, (e5 _ (h.new r pl hr a).2).trans b, c⟩⟩
theorem getB_lf (r : Bin) : getB r ⟨.e, .lf⟩ = .no := by cases r <;> rfl
theorem Rel.init (w : World) (hg : ∀ w' : World, w.heap.size ≤ w'.heap.size → (∀ k, k < w.heap.size → w'.heap[k]? = w.heap[k]?) → Sym.g w') : Rel w (fun _ => False) (fun _ => none) ⟨.e, .lf⟩ w :=
 ⟨rfl, rfl, rfl, Nat.le_refl _, fun _ _ _ => rfl, fun w' h1 h2 => hg w' h1 fun k hk => h2 k hk id, nofun, fun r pl hr _ => absurd (getB_lf r) hr, fun r _ _ _ hr _ _ _ _ => absurd (getB_lf r) hr, fun r hr => absurd (getB_lf r) hr⟩
theorem isTrue_ok {r : R} (h : isTrue r = true) : ∃ s', r = .ok (.b true) s' := by
 cases r with
 | no w => cases h
 | ok v s =>
  unfold isTrue at h
  simp only at h
  split at h
  ·subst h; exact ⟨s, rfl⟩
  ·cases h
def GOk (Gl : List Eng.Pr) : Prop := (∀ w, Sym.g w → Eng.Sat w ⟨[], fun _ => True⟩ [] [] Gl w) ∧ ∀ w Z w', Eng.Sat w Z [] [] Gl w → w.heap.size ≤ w'.heap.size → (∀ k, k < w.heap.size → w'.heap[k]? = w.heap[k]?) → Sym.g w'
theorem symbols_ok {Gl : List Eng.Pr} (hG : GOk Gl) {sp : Nat → Option (List V → St → R)} {n f : Nat} {vs : List V} {args : List Value} (hs : SpOk P sp) (hf : hasF P f = true) (hv : Rvs (fun _ => none) vs args) (h : isTrue (runF sp (getF P) (yOf P) n f vs ⟨.e, .lf⟩) = true) : Eng.Pure P Gl f args.toArray (.bool true) := by
 intro w Z hS
 obtain ⟨s', h⟩ := isTrue_ok h
 have := runF_ok hs n w (fun _ => False) f vs ⟨.e, .lf⟩ (.b true) s' (fun _ => none) w args h hv (Rel.init w (hG.2 w Z · hS))
 rw [callFunc_run hf] at this
 rcases this with ⟨_, _, _, h0, _⟩ | ⟨_, _, h0, _⟩ | ⟨f1, args1, w1, h0, hc⟩
 ·cases h0
 ·cases h0
 ·cases h0
  refine hc.mono fun en w' ⟨θ', x, e1, e2, hp⟩ => ?_
  have e2 : x = .bool true := e2
  subst e2
  refine ⟨e1, ?_⟩
  exact hS.away hp.rel.os hp.rel.tape hp.rel.output hp.rel.size fun k hk => hp.rel.frame k hk id
noncomputable def joinV (n x : Nat) : List V → V := List.rec (.s 0 0) (fun v r ih => asS .no v fun m y => match r with
 | [] => .s m y
 | _ => asS .no ih fun k z => .s (Nat.add m (Nat.add n k)) (Nat.add y (Nat.mul (Nat.add x (Nat.mul z (pow256 n))) (pow256 m))))
noncomputable def spJoin (vs : List V) (s : St) : R := match vs with
 | [.sl r off len cap known, .s n x] => bif Nat.ble len cap || !known then cellsB nay (getB r s) fun cs _ => takeX len (dropV off cs) fun xs => asS nay (joinV n x xs) fun m z => bif Nat.ble m 0x100000 && Nat.ble len 0x100000 then .ok (.s m z) s else nay else nay
 | _ => nay
theorem asSv_ok {x : V} {K : Nat → Nat → V} {m z : Nat} (h : asS V.no x K = V.s m z) : ∃ n c, x = .s n c ∧ K n c = V.s m z := by
 unfold asS at h
 cases x <;> first | (cases h; done) | exact ⟨_, _, rfl, h⟩
theorem joinV_ok {n x : Nat} (hx : x < 256 ^ n) : ∀ {cs : List V} {ys : List Value} {m z : Nat}, joinV n x cs = .s m z → Rvs θ cs ys → ∃ bs : List ByteArray, ys = bs.map Value.string ∧ z < 256 ^ m ∧ bytesOf m z = Lib.join (bs.map (·.data.toList)) (bytesOf n x)
 | [], ys, m, z, h, hv => by
  cases hv
  cases h
  exact ⟨[], rfl, by decide, rfl⟩
 | [c], ys, m, z, h, ⟨y, zs, h1, h2, h3⟩ => by
  cases h3
  obtain ⟨m', y', rfl, h⟩ := asSv_ok (show asS V.no c (fun m y => V.s m y) = V.s m z from h)
  cases h
  obtain ⟨k1, rfl⟩ := h2
  refine ⟨[strOf m z], h1, k1, ?_⟩
  rw [List.map_cons, List.map_nil, Lib.join_one, strOf_data]
 | c :: d :: cs, ys, m, z, h, ⟨y, zs, h1, h2, h3⟩ => by
  obtain ⟨m', y', rfl, h⟩ := asSv_ok (show asS V.no c (fun m y => asS V.no (joinV n x (d :: cs)) fun k z => V.s (Nat.add m (Nat.add n k)) (Nat.add y (Nat.mul (Nat.add x (Nat.mul z (pow256 n))) (pow256 m)))) = V.s m z from h)
  obtain ⟨k', z', h5, h⟩ := asSv_ok h
  have h5 : joinV n x (d :: cs) = V.s k' z' := h5
  obtain ⟨bs, rfl, k2, k3⟩ := joinV_ok hx h5 h3
  obtain ⟨k1, rfl⟩ := h2
  cases h
  cases bs with
  | nil => obtain ⟨y, zs, h, _⟩ := h3; cases h
  | cons b bs =>
   refine ⟨strOf m' y' :: b :: bs, by rw [h1]; rfl, ?_, ?_⟩
   ·show y' + (x + z' * 256 ^ n) * 256 ^ m' < 256 ^ (m' + (n + k'))
    have e1 : x + z' * 256 ^ n < 256 ^ (n + k') := by
     rw [Nat.pow_add]
     have := Nat.mul_le_mul_right (256 ^ n) (show z' + 1 ≤ 256 ^ k' from k2)
     rw [Nat.add_mul, Nat.one_mul, Nat.mul_comm (256 ^ k')] at this
     omega
    rw [Nat.pow_add]
    have := Nat.mul_le_mul_right (256 ^ m') (show x + z' * 256 ^ n + 1 ≤ 256 ^ (n + k') from e1)
    rw [Nat.add_mul, Nat.one_mul, Nat.mul_comm (256 ^ (n + k'))] at this
    omega
   ·show bytesOf (m' + (n + k')) (y' + (x + z' * 256 ^ n) * 256 ^ m') = _
    rw [bytesOf_add _ _ _ _ k1, bytesOf_add _ _ _ _ hx, k3, List.map_cons, List.map_cons, Lib.join_cons, Lib.join_cons, strOf_data]
    simp [Lib.joinTail]
theorem spJoin_ok {ρ : Go.Shelf.Ren} (L : Go.Proofs.Lays.n156 P ρ) (X : Go.Proofs.Builder.Extra P ρ) (hf : hasF P (ρ.f 156) = true) (w0 : World) (T : Nat → Prop) (vs : List V) (s : St) (v : V) (s' : St) (θ : Th) (w : World) (args : List Value) (h : spJoin vs s = .ok v s') (hv : Rvs θ vs args) (hr : Rel w0 T θ s w) : Ends P w0 T θ s v s' ((callFunc (ρ.f 156) args.toArray).run P w) := by
 unfold spJoin at h
 split at h
 ·rename_i r off len cap known n x
  obtain ⟨hb, h⟩ := bif_ok h
  obtain ⟨cs, mk, h, hm⟩ := cellsB_ok h
  obtain ⟨hlen, h⟩ := takeX_ok h
  obtain ⟨m, z, hj, h⟩ := asS_ok h
  obtain ⟨hsm, h⟩ := bif_ok h
  cases h
  obtain ⟨X1, zs, rfl, h1, h2⟩ := hv
  obtain ⟨X2, zs, rfl, h3, h4⟩ := h2
  cases h4
  obtain ⟨pl, hp, rfl, hcap⟩ := h1
  obtain ⟨hx, rfl⟩ := h3
  obtain ⟨hl, hd, ys, tl, ct, Li⟩ := hr.lies hp hm
  rw [dropV_eq] at hj hlen
  have hvs := (Li.vs.drop off).take len
  obtain ⟨bs, e1, e2, e3⟩ := joinV_ok hx hj hvs
  rw [Bool.and_eq_true] at hsm
  have hm1 := Nat.le_of_ble_eq_true hsm.1
  have hm2 := Nat.le_of_ble_eq_true hsm.2
  have hyl := Li.vs.length
  rw [List.length_drop] at hlen
  have hbl : bs.length = len := by
   have := congrArg List.length e1
   rw [List.length_map, List.length_take, List.length_drop] at this
   omega
  refine .inr (.inr ⟨_, _, w, callFunc_run hf _ _, ?_⟩)
  have hcells : ∀ (j : Nat) b, bs[j]? = some b → w.cell? ⟨pl.b, pl.a + off + j, none⟩ = some (.string b) := fun j b hb => by
   rw [Nat.add_assoc]
   refine Li.cell ?_
   have : ((ys.drop off).take len)[j]? = some (.string b) := by rw [e1, List.getElem?_map, hb]; rfl
   have hj := (List.getElem?_eq_some_iff.1 hb).1
   rw [List.getElem?_take_of_lt (by omega), List.getElem?_drop] at this
   exact this
  have hpb : pl.b < w.heap.size := (Array.getElem?_eq_some_iff.1 Li.heap).1
  have hle : bs.length ≤ (bif known then cap else pl.c - cap) := by
   rw [hbl]
   cases known with
   | true => simp only [Bool.not_true, Bool.or_false] at hb; exact Nat.le_of_ble_eq_true hb
   | false => have := hcap rfl; simp only [cond_false]; omega
  have hbn : (Lib.join (bs.map (·.data.toList)) (strOf n x).data.toList).length = m := by
   rw [strOf_data, ← e3, bytesOf_len]
  have := Go.Proofs.Any.strings_Join L X pl.b (pl.a + off) _ bs (strOf n x) w hcells hpb (by omega) hle (by rw [hbn]; omega)
  rw [hbl] at this
  refine this.mono fun en w' ⟨he, hw⟩ => ⟨θ, _, he, ⟨e2, ?_⟩, (hr.grow hw.os hw.tape hw.output hw.size hw.block).post' rfl⟩
  rw [strOf_data, ← e3]
  rfl
 ·cases h
end Ci
namespace Ci
open Go
variable [Sym]
variable {P : Program} {w0 : World} {T : Nat → Prop} {θ : Th} {s s' : St} {w : World} {v : V}
mutual
noncomputable def toVal : V → Value
 | .i k n => .int k n
 | .b x => .bool x
 | .s n c => .string (strOf n c)
 | .c v => v
 | .ui k j => .int k (Sym.I j)
 | .us j => .string (Sym.S j)
 | .agg xs => .agg (toVals xs).toArray
 | .tup xs => .tuple (toVals xs).toArray
 | _ => undef
noncomputable def toVals : List V → List Value
 | [] => []
 | v :: vs => toVal v :: toVals vs
end
mutual
def flat : V → Bool
 | .i _ _ => true
 | .b _ => true
 | .s n c => Nat.ble (Nat.succ c) (Nat.pow 256 n)
 | .c v => v.oneCell'
 | .ui _ _ => true
 | .us _ => true
 | .agg xs => flats xs && xs.all isCell
 | .tup xs => flats xs
 | _ => false
def flats : List V → Bool
 | [] => true
 | v :: vs => flat v && flats vs
end
mutual
theorem flat_rv : ∀ {v : V}, flat v = true → Rv θ v (toVal v)
 | .i _ _, _ => rfl
 | .b _, _ => rfl
 | .s _ _, h => ⟨Nat.le_of_ble_eq_true (by simpa [flat] using h), rfl⟩
 | .c _, h => ⟨rfl, by simpa [flat] using h⟩
 | .ui _ _, _ => rfl
 | .us _, _ => rfl
 | .agg xs, h => by
  have h : flats xs = true ∧ xs.all isCell = true := by simpa [flat] using h
  exact ⟨_, by simp [toVal], flats_rv h.1, h.2⟩
 | .tup xs, h => by
  have h : flats xs = true := by simpa [flat] using h
  exact ⟨_, by simp [toVal], flats_rv h⟩
theorem flats_rv : ∀ {vs : List V}, flats vs = true → Rvs θ vs (toVals vs)
 | [], _ => by simp [toVals, Rvs]
 | v :: vs, h => by
  have h : flat v = true ∧ flats vs = true := by simpa [flats] using h
  exact ⟨_, _, by simp [toVals], flat_rv h.1, flats_rv h.2⟩
end
mutual
theorem flat_eq : ∀ {v : V} {x : Value}, flat v = true → Rv θ v x → x = toVal v
 | .i _ _, _, _, hv => hv.trans (by simp [toVal])
 | .b _, _, _, hv => hv.trans (by simp [toVal])
 | .s _ _, _, _, hv => hv.2.trans (by simp [toVal])
 | .c _, _, _, hv => hv.1.trans (by simp [toVal])
 | .ui _ _, _, _, hv => hv.trans (by simp [toVal])
 | .us _, _, _, hv => hv.trans (by simp [toVal])
 | .agg xs, _, h, ⟨ys, h1, h2, _⟩ => by
  have h : flats xs = true ∧ xs.all isCell = true := by simpa [flat] using h
  rw [h1, flats_eq h.1 h2]; simp [toVal]
 | .tup xs, _, h, ⟨ys, h1, h2⟩ => by
  have h : flats xs = true := by simpa [flat] using h
  rw [h1, flats_eq h h2]; simp [toVal]
 | .no, _, h, _ => by simp [flat] at h
 | .p _ _, _, h, _ => by simp [flat] at h
 | .sl _ _ _ _ _, _, h, _ => by simp [flat] at h
 | .es, _, h, _ => by simp [flat] at h
 | .m _, _, h, _ => by simp [flat] at h
 | .f _ _ _, _, h, _ => by simp [flat] at h
 | .y _ _, _, h, _ => by simp [flat] at h
 | .yl _, _, h, _ => by simp [flat] at h
theorem flats_eq : ∀ {vs : List V} {xs : List Value}, flats vs = true → Rvs θ vs xs → xs = toVals vs
 | [], _, _, hv => by cases hv; simp [toVals]
 | v :: vs, _, h, ⟨y, zs, h1, h2, h3⟩ => by
  have h : flat v = true ∧ flats vs = true := by simpa [flats] using h
  rw [h1, flat_eq h.1 h2, flats_eq h.2 h3]; simp [toVals]
end
structure Ent where
 f : Nat
 vs : List V
 v : V
def EntOk (P : Program) (Gl : List Eng.Pr) (e : Ent) : Prop := hasF P e.f = true ∧ flats e.vs = true ∧ flat e.v = true ∧ Eng.Pure P Gl e.f (toVals e.vs).toArray (toVal e.v)
noncomputable def lookEnt (tab : List Ent) (f : Nat) (vs : List V) (s : St) : R := List.rec nay (fun e _ ih => bif Nat.beq e.f f && vEq.vsEq 200 e.vs vs then .ok e.v s else ih) tab
noncomputable def tabSp (tab : List Ent) (f : Nat) : Option (List V → St → R) := some (lookEnt tab f)
theorem tabSp_ok {Gl : List Eng.Pr} (hG : GOk Gl) {tab : List Ent} (h : ∀ e ∈ tab, EntOk P Gl e) : SpOk P (tabSp tab) := by
 intro f g hg w0 T vs s v s' θ w args hr0 hv hr
 obtain rfl := Option.some.inj hg
 obtain ⟨e, h1, h2, h3⟩ := look_ok (p := fun e : Ent => Nat.beq e.f f && vEq.vsEq 200 e.vs vs) (f := fun e : Ent => R.ok e.v s) hr0 (fun e => by cases e)
 rw [Bool.and_eq_true, Nat.beq_eq] at h2
 obtain ⟨rfl, h2⟩ := h2
 obtain rfl := vsEq_eq 200 h2
 cases h3
 obtain ⟨k1, k2, k3, k4⟩ := h e h1
 obtain rfl := flats_eq k2 hv
 refine .inr (.inr ⟨_, _, w, callFunc_run k1 _ _, ?_⟩)
 have hc := k4 w ⟨[], fun _ => True⟩ (hG.1 w (hr.glob w hr.size hr.frame))
 exact hc.mono fun en w' ⟨he, hS⟩ => ⟨θ, _, he, flat_rv k3, (hr.grow hS.os hS.tape hS.output hS.size fun k hk => hS.frame k hk nofun).post' rfl⟩
def oneSp (j : Nat) (g : List V → St → R) (sp : Nat → Option (List V → St → R)) (f : Nat) : Option (List V → St → R) := bif Nat.beq f j then some g else sp f
theorem oneSp_ok {j : Nat} {g : List V → St → R} {sp : Nat → Option (List V → St → R)} (hg : ∀ w0 T vs s v s' θ w args, g vs s = .ok v s' → Rvs θ vs args → Rel w0 T θ s w → Ends P w0 T θ s v s' ((callFunc j args.toArray).run P w)) (hs : SpOk P sp) : SpOk P (oneSp j g sp) := by
 intro f g' h
 unfold oneSp at h
 cases hj : Nat.beq f j with
 | true =>
  rw [hj] at h
  obtain rfl := Option.some.inj h
  obtain rfl := Nat.eq_of_beq_eq_true hj
  exact hg
 | false => rw [hj] at h; exact hs f g' h
end Ci
namespace Ci
open Go
variable [Sym]
variable {P : Program} {w0 : World} {T : Nat → Prop} {θ : Th} {s s' : St} {w w' : World} {v : V}
noncomputable def spOver (vs : List V) (s : St) : R := match vs with
 | [.sl q _ _ _ _, .sl r _ _ _ _] => bif r.beq q then nay else cellsB nay (getB q s) fun _ _ => cellsB nay (getB r s) fun cs _ => bif Nat.ble 1 (lenV cs) then .ok (.b false) s else nay
 | _ => nay
theorem spOver_ok {O tS tR e size : Nat} {fn : Func} (hf : P.funcs[O]? = some fn) (h1 : (fn.name == "runtime.NumGoroutine") = false) (h2 : fn.body.isNone = true) (h3 : Extern.findNext fn = none) (h4 : Extern.find fn = some (Extern.SlicesOverlaps.overlaps #[tS, tS] #[tR])) (ht : P.underlying tS = some (.slice e)) (hz : ∀ w, (Go.sizeOf e).run P w = .ok size w) :
  ∀ w0 T vs s v s' θ w args, spOver vs s = .ok v s' → Rvs θ vs args → Rel w0 T θ s w → Ends P w0 T θ s v s' ((callFunc O args.toArray).run P w) := by
 intro w0 T vs s v s' θ w args h hv hr
 unfold spOver at h
 split at h
 ·rename_i q qo ql qc qk r ro rl rc rk
  cases hq : r.beq q with
  | true => rw [hq] at h; cases h
  | false =>
   rw [hq] at h
   have h : cellsB nay (getB q s) (fun _ _ => cellsB nay (getB r s) fun cs _ => bif Nat.ble 1 (lenV cs) then R.ok (.b false) s else nay) = .ok v s' := h
   obtain ⟨cs1, mk1, h, hm1⟩ := cellsB_ok h
   obtain ⟨cs2, mk2, h, hm2⟩ := cellsB_ok h
   obtain ⟨hb, h⟩ := bif_ok h
   cases h
   obtain ⟨X1, zs, rfl, ⟨pl, hp, rfl, _⟩, X2, zs2, rfl, ⟨pl2, hp2, rfl, _⟩, hnil⟩ := hv
   cases hnil
   obtain ⟨n1, hd1, ys1, tl1, t1, L1⟩ := hr.lies hp hm1
   obtain ⟨n2, hd2, ys2, tl2, t2, L2⟩ := hr.lies hp2 hm2
   have hne : pl.b ≠ pl2.b := fun e => by
    have := hr.inj q r pl pl2 n1 n2 hp hp2 e
    subst this
    rw [Bin.beq_self] at hq; cases hq
   have hb := Nat.le_of_ble_eq_true hb
   rw [lenV_eq] at hb
   have hl2 := L2.vs.length
   refine .inl ⟨θ, .bool false, w, ?_, rfl, hr.post⟩
   rw [run_callFunc_extern hf h1 h2 h3 h4]
   show Result.andThen ((Extern.SlicesOverlaps.overlaps #[tS, tS] #[tR] #[.slice (some ⟨pl.b, pl.a + qo, none⟩) ql _, .slice (some ⟨pl2.b, pl2.a + ro, none⟩) rl _]).run P w) _ = _
   rw [Lib.run_overlaps_apart w tS tR e ht size hz ⟨pl.b, pl.a + qo, none⟩ ⟨pl2.b, pl2.a + ro, none⟩ _ _ _ _ hne t1 t2 (hd1 ++ (ys1 ++ tl1)).toArray.size (hd2 ++ (ys2 ++ tl2)).toArray.size (by simp [World.shape?, L1.heap]) (by simp [World.shape?, L2.heap]) (by rw [List.size_toArray, List.length_append, List.length_append]; omega) (by simp [World.frozen?, L1.heap]) (by simp [World.frozen?, L1.heap])]
   rfl
 ·cases h
noncomputable def spIns (vs : List V) (s : St) : R := match vs with
 | [.sl r 0 1 0 false, .i .i64 (.ofNat 0), .sl q 0 1 1 true] => match getB r s, getB q s with
  | .grow 4 [a, b, c, d], .cells [e, f, g, h] => newB (.grow 4 [e, f, g, h, a, b, c, d]) (putB r .no s) fun q' s => .ok (.sl q' 0 2 0 false) s
  | _, _ => nay
 | _ => nay
noncomputable def insSt (a b : List V) : St := ⟨.i .e, Tr.set O.no .e (.grow 4 a) (Tr.set O.no (.o .e) (.cells b) .lf)⟩
structure InsRun (P : Program) (J : Nat) (F : Fs) : Prop where
 fs : FsOk P F
 has : hasF P J = true
 A : ∀ y0 y1 y2 y3 z0 z1 z2 z3 : Value, ∃ N M, walkF (getF P) (yOf P) F J [.sl .e 0 1 1 true, .i .i64 (.ofNat 0), .sl (.o .e) 0 1 1 true] (insSt [.c y0, .c y1, .c y2, .c y3] [.c z0, .c z1, .c z2, .c z3]) = .ok (.sl (.i .e) 0 2 0 false) ⟨N, M⟩ ∧ getB (.i .e) ⟨N, M⟩ = .grow 4 [.c z0, .c z1, .c z2, .c z3, .c y0, .c y1, .c y2, .c y3] ∧ getB .e ⟨N, M⟩ = .grow 4 [.c y0, .c y1, .c y2, .c y3] ∧ getB (.o .e) ⟨N, M⟩ = .cells [.c z0, .c z1, .c z2, .c z3]
 B : ∀ (k : Nat) (y0 y1 y2 y3 t0 t1 t2 t3 z0 z1 z2 z3 : Value), ∃ N M, walkF (getF P) (yOf P) F J [.sl .e 0 1 (Nat.succ (Nat.succ k)) true, .i .i64 (.ofNat 0), .sl (.o .e) 0 1 1 true] (insSt [.c y0, .c y1, .c y2, .c y3, .c t0, .c t1, .c t2, .c t3] [.c z0, .c z1, .c z2, .c z3]) = .ok (.sl .e 0 2 (Nat.succ (Nat.succ k)) true) ⟨N, M⟩ ∧ getB .e ⟨N, M⟩ = .grow 4 [.c z0, .c z1, .c z2, .c z3, .c y0, .c y1, .c y2, .c y3] ∧ getB (.o .e) ⟨N, M⟩ = .cells [.c z0, .c z1, .c z2, .c z3]
theorem ins_get (a b : List V) (q : Bin) : getB q (insSt a b) ≠ .no → q = .e ∨ q = .o .e := fun h => by
 by_cases h1 : Bin.e = q
 ·exact .inl h1.symm
 ·by_cases h2 : Bin.o .e = q
  ·exact .inr h2.symm
  ·unfold insSt getB at h
   rw [get_set_ne _ _ _ h1, get_set_ne _ _ _ h2, get_lf] at h
   exact absurd rfl h
theorem ins_get0 (a b : List V) : getB .e (insSt a b) = .grow 4 a := rfl
theorem ins_get1 (a b : List V) : getB (.o .e) (insSt a b) = .cells b := rfl
theorem ins_rel {r q : Bin} {pl plq : Pl} {a b : List V} {ob obq : Obj} (hr : Rel w0 T θ s w) (hrn : getB r s ≠ .no) (hp : θ r = some pl) (hqn : getB q s ≠ .no) (hq : θ q = some plq) (hrq : r ≠ q)
  (h1 : w.heap[pl.b]? = some ob) (h2 : w.heap[plq.b]? = some obq) (ha : ∀ θ', Ro θ' pl (.grow 4 a) ob) (hb : ∀ θ', Ro θ' plq (.cells b) obq) :
  Rel w (fun k => k = pl.b ∨ k = plq.b) (fun x : Bin => bif x.beq .e then some pl else bif x.beq (.o .e) then some plq else none) (insSt a b) w := by
 have hne : pl.b ≠ plq.b := fun e => hrq (hr.inj r q pl plq hrn hqn hp hq e)
 have t0 : ∀ (x : Bin) pl', (bif x.beq .e then some pl else bif x.beq (.o .e) then some plq else none) = some pl' → (x = .e ∧ pl' = pl) ∨ (x = .o .e ∧ pl' = plq) := fun x pl' h => by
  cases e1 : x.beq .e with
  | true => rw [e1] at h; exact .inl ⟨Bin.beq_eq e1, (Option.some.inj h).symm⟩
  | false =>
   rw [e1] at h
   cases e2 : x.beq (.o .e) with
   | true => rw [e2] at h; exact .inr ⟨Bin.beq_eq e2, (Option.some.inj h).symm⟩
   | false => rw [e2] at h; cases h
 refine ⟨rfl, rfl, rfl, Nat.le_refl _, fun _ _ _ => rfl, fun w' g1 g2 => hr.glob w' (Nat.le_trans hr.size g1) fun k hk hT => (g2 k (Nat.lt_of_lt_of_le hk hr.size) fun e => ?_).trans (hr.frame k hk hT), fun x pl' hx => ?_, fun x pl' _ hx => ?_, fun x x' p1 p2 _ _ hx hx' hb' => ?_, fun x hx => ?_⟩
 ·rcases e with e | e
  ·subst e
   rcases (hr.new r pl hrn hp).1 with h3 | h3
   ·exact hT h3
   ·omega
  ·subst e
   rcases (hr.new q plq hqn hq).1 with h3 | h3
   ·exact hT h3
   ·omega
 ·rcases t0 x pl' hx with ⟨rfl, _⟩ | ⟨rfl, _⟩
  ·show 0 < 2; omega
  ·show 1 < 2; omega
 ·rcases t0 x pl' hx with ⟨_, rfl⟩ | ⟨_, rfl⟩
  ·exact ⟨.inl (.inl rfl), (hr.new r _ hrn hp).2⟩
  ·exact ⟨.inl (.inr rfl), (hr.new q _ hqn hq).2⟩
 ·rcases t0 x p1 hx with ⟨rfl, rfl⟩ | ⟨rfl, rfl⟩ <;> rcases t0 x' p2 hx' with ⟨rfl, rfl⟩ | ⟨rfl, rfl⟩
  ·rfl
  ·exact absurd hb' hne
  ·exact absurd hb'.symm hne
  ·rfl
 ·rcases ins_get a b x hx with rfl | rfl
  ·exact ⟨pl, ob, rfl, h1, by rw [ins_get0]; exact ha _⟩
  ·exact ⟨plq, obq, rfl, h2, by rw [ins_get1]; exact hb _⟩
theorem ins_back {r q : Bin} {pl plq plN : Pl} {o : O} {obq obN : Obj} (hr : Rel w0 T θ s w) (hrn : getB r s ≠ .no) (hp : θ r = some pl) (hqn : getB q s ≠ .no) (hq : θ q = some plq) (hrq : r ≠ q)
  (e1 : w'.os = w.os) (e2 : w'.tape = w.tape) (e3 : w'.output = w.output) (e4 : w.heap.size ≤ w'.heap.size) (e5 : ∀ k, k < w.heap.size → ¬ (k = pl.b ∨ k = plq.b) → w'.heap[k]? = w.heap[k]?)
  (hq1 : w'.heap[plq.b]? = some obq) (hq2 : Ro θ plq (getB q s) obq) (hN1 : w'.heap[plN.b]? = some obN) (hN2 : Ro θ plN o obN) (hNb : plN.b = pl.b ∨ w.heap.size ≤ plN.b) :
  Post w0 T θ s (θ.upd s.n plN) ⟨s.n.next, Tr.set O.no s.n o (putB r .no s).m⟩ w' := by
 have key : ∀ x, getB x (putB r .no s) ≠ .no → r ≠ x ∧ getB x s ≠ .no ∧ getB x (putB r .no s) = getB x s := fun x hx => by
  by_cases e : r = x
  ·subst e; rw [getB_put_self] at hx; exact absurd rfl hx
  ·rw [getB_put_ne _ s e] at hx ⊢; exact ⟨e, hx, rfl⟩
 have hR : Rel w0 T θ (putB r .no s) w' := by
  refine ⟨e1.trans hr.os, e2.trans hr.tape, e3.trans hr.output, Nat.le_trans hr.size e4, fun k hk hT => (e5 k (Nat.lt_of_lt_of_le hk hr.size) fun e => ?_).trans (hr.frame k hk hT), hr.glob, hr.num, fun x p1 hx h1 => ?_, fun x x' p1 p2 hx hx' => hr.inj x x' p1 p2 (key x hx).2.1 (key x' hx').2.1, fun x hx => ?_⟩
  ·rcases e with e | e
   ·subst e
    rcases (hr.new r pl hrn hp).1 with h3 | h3
    ·exact hT h3
    ·omega
   ·subst e
    rcases (hr.new q plq hqn hq).1 with h3 | h3
    ·exact hT h3
    ·omega
  ·obtain ⟨a, b⟩ := hr.new x p1 (key x hx).2.1 h1
   exact ⟨a, Nat.lt_of_lt_of_le b e4⟩
  ·obtain ⟨k1, k2, k3⟩ := key x hx
   rw [k3]
   by_cases e : q = x
   ·subst e; exact ⟨plq, obq, hq, hq1, hq2⟩
   ·obtain ⟨p1, ob, a1, a2, a3⟩ := hr.mem x k2
    refine ⟨p1, ob, a1, ?_, a3⟩
    rw [e5 _ (hr.new x p1 k2 a1).2 fun h3 => ?_]
    ·exact a2
    ·rcases h3 with h3 | h3
     ·exact k1 (hr.inj r x pl p1 hrn k2 hp a1 h3.symm)
     ·exact e (hr.inj q x plq p1 hqn k2 hq a1 h3.symm)
 have := hR.new' (w' := w') (pl := plN) (o := o) (ob := obN) (fun x p1 hx h1 e => ?_) ?_ rfl rfl rfl (Nat.le_refl _) (Array.getElem?_eq_some_iff.1 hN1).1 hN1 (fun _ _ _ => rfl) hN2
 ·exact ⟨this.ext, this.n, this.le, this.rel⟩
 ·obtain ⟨k1, k2, _⟩ := key x hx
  rcases hNb with h | h
  ·exact k1 (hr.inj r x pl p1 hrn k2 hp h1 (by rw [e, h]))
  ·have := (hr.new x p1 k2 h1).2; omega
 ·rcases hNb with h | h
  ·rw [h]; exact (hr.new r pl hrn hp).1
  ·exact .inr (Nat.le_trans hr.size h)
theorem c4 {y0 y1 y2 y3 : Value} (h : ∀ y ∈ [y0, y1, y2, y3], y.oneCell' = true) (θ' : Th) : Rvs θ' [.c y0, .c y1, .c y2, .c y3] [y0, y1, y2, y3] :=
 ⟨_, _, rfl, ⟨rfl, h _ (by simp)⟩, _, _, rfl, ⟨rfl, h _ (by simp)⟩, _, _, rfl, ⟨rfl, h _ (by simp)⟩, _, _, rfl, ⟨rfl, h _ (by simp)⟩, rfl⟩
theorem four {l : List Value} (h : l.length = 4) : ∃ a b c d, l = [a, b, c, d] := by
 match l, h with
 | [a, b, c, d], _ => exact ⟨a, b, c, d, rfl⟩
theorem c4_eq {y0 y1 y2 y3 : Value} {θ' : Th} {l : List Value} (h : Rvs θ' [.c y0, .c y1, .c y2, .c y3] l) : l = [y0, y1, y2, y3] := by
 obtain ⟨_, _, rfl, ⟨rfl, _⟩, _, _, rfl, ⟨rfl, _⟩, _, _, rfl, ⟨rfl, _⟩, _, _, rfl, ⟨rfl, _⟩, h⟩ := h
 cases h; rfl
theorem c8_eq {y0 y1 y2 y3 z0 z1 z2 z3 : Value} {θ' : Th} {l : List Value} (h : Rvs θ' [.c y0, .c y1, .c y2, .c y3, .c z0, .c z1, .c z2, .c z3] l) : l = [y0, y1, y2, y3, z0, z1, z2, z3] := by
 obtain ⟨_, _, rfl, ⟨rfl, _⟩, _, _, rfl, ⟨rfl, _⟩, _, _, rfl, ⟨rfl, _⟩, _, _, rfl, ⟨rfl, _⟩, h⟩ := h
 rw [c4_eq h]
theorem spIns_ok {J : Nat} {F : Fs} (hI : InsRun P J F) (w0 : World) (T : Nat → Prop) (vs : List V) (s : St) (v : V) (s' : St) (θ : Th) (w : World) (args : List Value) (h : spIns vs s = .ok v s') (hv : Rvs θ vs args) (hr : Rel w0 T θ s w) : Ends P w0 T θ s v s' ((callFunc J args.toArray).run P w) := by
 unfold spIns at h
 split at h
 ·rename_i r q
  split at h
  ·rename_i a b c d e f g i hg hgq
   unfold newB at h
   cases h
   obtain ⟨X1, l1, rfl, ⟨pl, hp, rfl, hcap⟩, X2, l2, rfl, rfl, X3, l3, rfl, ⟨plq, hq, rfl, _⟩, hnil⟩ := hv
   cases hnil
   have hcap := hcap rfl
   have hrn : getB r s ≠ .no := by rw [hg]; exact nofun
   have hqn : getB q s ≠ .no := by rw [hgq]; exact nofun
   have hrq : r ≠ q := fun e => by subst e; rw [hg] at hgq; cases hgq
   obtain ⟨pl', ob, m1, m2, m3⟩ := hr.mem r hrn
   rw [hp] at m1
   obtain rfl := Option.some.inj m1
   rw [hg] at m3
   obtain ⟨hd, ys, tl, ty, rfl, d1, d2, d3, d4, d5⟩ := m3
   obtain ⟨plq', obq, k1, k2, k3⟩ := hr.mem q hqn
   rw [hq] at k1
   obtain rfl := Option.some.inj k1
   rw [hgq] at k3
   obtain ⟨hd2, zs, tl2, ty2, rfl, f1, f2, f3⟩ := k3
   obtain ⟨y0, y1, y2, y3, rfl⟩ := four (show ys.length = 4 from d2.length.symm)
   obtain ⟨z0, z1, z2, z3, rfl⟩ := four (show zs.length = 4 from f2.length.symm)
   have oy := d2.one d3
   have oz := f2.one f3
   have rq : ∀ θ', Ro θ' plq (.cells [.c z0, .c z1, .c z2, .c z3]) (.cells (hd2 ++ ([z0, z1, z2, z3] ++ tl2)).toArray ty2 (0, 0)) := fun θ' => ⟨hd2, _, tl2, ty2, rfl, f1, c4 oz θ', rfl⟩
   have both : Rvs θ [e, f, g, i, a, b, c, d] [z0, z1, z2, z3, y0, y1, y2, y3] := f2.app d2
   have bothc : ([e, f, g, i, a, b, c, d] : List V).all isCell = true := by
    have : ([e, f, g, i] ++ [a, b, c, d] : List V).all isCell = true := by rw [List.all_append, d3, f3]; rfl
    exact this
   have hc : pl.c - 0 = pl.c := by omega
   simp only [cond_false, cond_true, Nat.add_zero, hc] at *
   by_cases hroom : pl.c = 1
   ·-- no room
    obtain ⟨N, M, h1, h2, h3, h4⟩ := hI.A y0 y1 y2 y3 z0 z1 z2 z3
    have hR := ins_rel (a := [.c y0, .c y1, .c y2, .c y3]) (b := [.c z0, .c z1, .c z2, .c z3]) hr hrn hp hqn hq hrq m2 k2 (fun θ' => ⟨hd, _, tl, ty, rfl, d1, c4 oy θ', rfl, d4, d5⟩) rq
    have hE := walkF_ok hI.fs h1 (args := [.slice (some ⟨pl.b, pl.a, none⟩) 1 pl.c, .int .i64 (.ofNat 0), .slice (some ⟨plq.b, plq.a, none⟩) 1 1]) ⟨_, _, rfl, ⟨pl, rfl, by simp [hroom], nofun⟩, _, _, rfl, rfl, _, _, rfl, ⟨plq, rfl, by simp, nofun⟩, rfl⟩ hR
    rw [callFunc_run hI.has] at hE ⊢
    rcases hE with ⟨_, _, _, h0, _⟩ | ⟨_, _, h0, _⟩ | ⟨f1', args1, w1, h0, hc1⟩
    ·cases h0
    ·cases h0
    ·cases h0
     refine .inr (.inr ⟨_, _, w, rfl, hc1.mono fun en w' ⟨θ', x, q1, q2, q3⟩ => ?_⟩)
     obtain ⟨plN, g1, rfl, g3⟩ := q2
     have g3 := g3 rfl
     obtain ⟨pN, obN, u1, u2, u3⟩ := q3.rel.mem (.i .e) (by rw [h2]; exact nofun)
     rw [g1] at u1
     obtain rfl := Option.some.inj u1
     rw [h2] at u3
     obtain ⟨hdN, ysN, tlN, tyN, rfl, n1, n2, n3, n4, n5⟩ := u3
     obtain rfl := c8_eq n2
     obtain ⟨pq, obq2, v1, v2, v3⟩ := q3.rel.mem (.o .e) (by rw [h4]; exact nofun)
     rw [q3.le (.o .e) plq rfl] at v1
     obtain rfl := Option.some.inj v1
     rw [h4] at v3
     obtain ⟨hq', zq, tq, tyq, rfl, w1', w2, w3⟩ := v3
     obtain rfl := c4_eq w2
     have l0 : θ' .e = some pl := q3.le .e pl rfl
     have l1 : θ' (.o .e) = some plq := q3.le (.o .e) plq rfl
     have hnb : w.heap.size ≤ plN.b := by
      rcases (q3.rel.new (.i .e) plN (by rw [h2]; exact nofun) g1).1 with h5 | h5
      ·rcases h5 with h5 | h5
       ·exact absurd (q3.rel.inj (.i .e) .e plN pl (by rw [h2]; exact nofun) (by rw [h3]; exact nofun) g1 l0 h5) nofun
       ·exact absurd (q3.rel.inj (.i .e) (.o .e) plN plq (by rw [h2]; exact nofun) (by rw [h4]; exact nofun) g1 l1 h5) nofun
      ·exact h5
     have hB := ins_back (o := .grow 4 [e, f, g, i, a, b, c, d]) (plN := plN) hr hrn hp hqn hq hrq q3.rel.os q3.rel.tape q3.rel.output q3.rel.size q3.rel.frame v2 (by rw [hgq]; exact ⟨hq', _, tq, tyq, rfl, w1', f2, f3⟩) u2 ⟨hdN, _, tlN, tyN, rfl, n1, both, bothc, n4, n5⟩ (.inr hnb)
     exact ⟨_, _, q1, ⟨plN, Th.upd_self .., rfl, fun _ => g3⟩, hB⟩
   ·-- room
    obtain ⟨k, hk⟩ : ∃ k, pl.c = Nat.succ (Nat.succ k) := ⟨pl.c - 2, by omega⟩
    rw [List.length_append] at d4
    have d4' : 4 + tl.length = pl.c * 4 := d4
    obtain ⟨t0, t1, t2, t3, rest, rfl⟩ : ∃ t0 t1 t2 t3 rest, tl = t0 :: t1 :: t2 :: t3 :: rest := by
     match tl, d4' with
     | [], h => simp at h; omega
     | [_], h => simp at h; omega
     | [_, _], h => simp at h; omega
     | [_, _, _], h => simp at h; omega
     | t0 :: t1 :: t2 :: t3 :: rest, _ => exact ⟨t0, t1, t2, t3, rest, rfl⟩
    have ot : ∀ y ∈ [t0, t1, t2, t3], y.oneCell' = true := fun y hy => d5 y (by simp only [List.mem_cons, List.not_mem_nil, or_false] at hy ⊢; rcases hy with h | h | h | h <;> simp [h])
    have orest : ∀ y ∈ rest, y.oneCell' = true := fun y hy => d5 y (by simp [hy])
    obtain ⟨N, M, h1, h2, h4⟩ := hI.B k y0 y1 y2 y3 t0 t1 t2 t3 z0 z1 z2 z3
    have hR := ins_rel (a := [.c y0, .c y1, .c y2, .c y3, .c t0, .c t1, .c t2, .c t3]) (b := [.c z0, .c z1, .c z2, .c z3]) hr hrn hp hqn hq hrq m2 k2 (fun θ' => ⟨hd, [y0, y1, y2, y3, t0, t1, t2, t3], rest, ty, by simp, d1, (c4 oy θ').app (c4 ot θ'), rfl, by simp only [List.length_append, List.length_cons, List.length_nil] at d4' ⊢; omega, orest⟩) rq
    have hE := walkF_ok hI.fs h1 (args := [.slice (some ⟨pl.b, pl.a, none⟩) 1 pl.c, .int .i64 (.ofNat 0), .slice (some ⟨plq.b, plq.a, none⟩) 1 1]) ⟨_, _, rfl, ⟨pl, rfl, by simp [hk], nofun⟩, _, _, rfl, rfl, _, _, rfl, ⟨plq, rfl, by simp, nofun⟩, rfl⟩ hR
    rw [callFunc_run hI.has] at hE ⊢
    rcases hE with ⟨_, _, _, h0, _⟩ | ⟨_, _, h0, _⟩ | ⟨f1', args1, w1, h0, hc1⟩
    ·cases h0
    ·cases h0
    ·cases h0
     refine .inr (.inr ⟨_, _, w, rfl, hc1.mono fun en w' ⟨θ', x, q1, q2, q3⟩ => ?_⟩)
     obtain ⟨plN, g1, rfl, _⟩ := q2
     have l0 : θ' .e = some pl := q3.le .e pl rfl
     rw [l0] at g1
     obtain rfl := Option.some.inj g1
     obtain ⟨pN, obN, u1, u2, u3⟩ := q3.rel.mem .e (by rw [h2]; exact nofun)
     rw [l0] at u1
     obtain rfl := Option.some.inj u1
     rw [h2] at u3
     obtain ⟨hdN, ysN, tlN, tyN, rfl, n1, n2, n3, n4, n5⟩ := u3
     obtain rfl := c8_eq n2
     obtain ⟨pq, obq2, v1, v2, v3⟩ := q3.rel.mem (.o .e) (by rw [h4]; exact nofun)
     rw [q3.le (.o .e) plq rfl] at v1
     obtain rfl := Option.some.inj v1
     rw [h4] at v3
     obtain ⟨hq', zq, tq, tyq, rfl, w1', w2, w3⟩ := v3
     obtain rfl := c4_eq w2
     have hB := ins_back (o := .grow 4 [e, f, g, i, a, b, c, d]) (plN := pl) hr hrn hp hqn hq hrq q3.rel.os q3.rel.tape q3.rel.output q3.rel.size q3.rel.frame v2 (by rw [hgq]; exact ⟨hq', _, tq, tyq, rfl, w1', f2, f3⟩) u2 ⟨hdN, _, tlN, tyN, rfl, n1, both, bothc, n4, n5⟩ (.inl rfl)
     exact ⟨_, _, q1, ⟨pl, Th.upd_self .., by simp [hk], fun _ => by omega⟩, hB⟩
  ·cases h
 ·cases h
end Ci