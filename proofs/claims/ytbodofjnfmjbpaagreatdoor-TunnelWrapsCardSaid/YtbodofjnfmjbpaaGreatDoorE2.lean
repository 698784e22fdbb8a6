/- A general engine for walks through Go programs in the given model: no statement of the program stands here; what is shown holds without conditions. -/
import Derived.Test.YtbodofjnfmjbpaaGreatDoorE1
import Derived.Below
import Derived.Carry
import Derived.ChangeSame
import Derived.ChangeVars
import Derived.ChangeOld
import Derived.ChangeMaps5
import Derived.SizedLaws
import Derived.JoinedOf
import Derived.RowKit
import Derived.RowKitTokens
import Derived.LaidLaws
import Derived.LaidHandle
import Derived.Handed
import Derived.OpenShut
import Derived.SevenTiedAt
import Derived.Stop.Joined
import Derived.Laws.Strings

/- THE ENGINE, part 10: append. -/
namespace Eng
open Go
set_option linter.unusedVariables false
set_option linter.unusedSimpArgs false

/-- May so many elements be made? -/
def roomL (by_ n : Nat) : Option Unit := if n * by_ ≤ 140737488355328 ∧ n ≤ 4611686018427387904 then some () else none
theorem roomL_parts {by_ n : Nat} {u : Unit} (h : roomL by_ n = some u) : n * by_ ≤ 140737488355328 ∧ n ≤ 4611686018427387904 := by
  unfold roomL at h
  split at h
  · assumption
  · cases h

theorem run_appendOp {P : Program} {ρ : Operand → Value} {w w' : World} {o : Oper} {s x : Operand} {t t' : TypeId} {v : Value} (ho : o.op = .call { callee := .builtin .append, args := #[s, x], argTypes := #[t, t'] })
    (hr : (Builtin.append_ #[t, t'] o.type #[ρ s, ρ x]).run P w = .ok v w') : (execOp ρ o).run P w = .ok (.value v) w' := by
  unfold execOp
  simp only [ho, resolve, invoke, builtin, Sem.run_bind, Sem.run_pure, Result.andThen_ok, List.map_toArray, List.map_cons, List.map_nil, hr]

/-- A new block that nobody will write. -/
theorem Sat.newRow {w0 w : World} {T : Zone} {H : Heap} {G Φ : List Pr} (h : Sat w0 T H G Φ w) (ob : Obj) (ψs : List Pr) {φ : Pr} (hs : ∀ ψ ∈ ψs, ψ ∈ Φ) (hd : ∀ w' : World, w'.heap[w.heap.size]? = some ob → (∀ ψ ∈ ψs, ψ w') → φ w') :
    Sat w0 T H G (φ :: Φ) (w.drew.alloc ob) := by
  have h1 : Sat w0 T (H ++ [(w.heap.size, ob)]) G Φ (w.drew.alloc ob) := h.drew.alloc ob
  have h2 := h1.freeze H.length (b := w.heap.size) (o := ob) (by simp) ψs hs hd
  rwa [show (H ++ [(w.heap.size, ob)]).eraseIdx H.length = H by rw [List.eraseIdx_append_of_length_le (Nat.le_refl _)]; simp] at h2

section
variable {P : Program} {N : Nat} {ops : Array Oper} {Q : Exit → Act → World → Prop} {o : Oper} {l : List Oper} {L : Env} {w0 : World} {T : Zone} {H : Heap} {G Φ : List Pr} {α σ : Type}

theorem toList_prefix {xs : List Value} {zs : Array Value} : xs <+: (xs.toArray ++ zs).toList := by simp

/-- append to a slice without room: a copy. -/
theorem WL.appendCopy {m by_ n e : Nat} {z : Value} {f : α → σ → List Value} {K : α → σ → Pr} {A B : SkL σ} {ys : List α} {s x : Operand} {t : TypeId} {d : Nat} (ho : o.op = .call { callee := .builtin .append, args := #[s, x], argTypes := #[t, t] })
    (hd : o.dst = some d) (hdN : Nat.blt d N = true) (ht : P.underlying t = some (.slice e)) (hi : (P.info? e).map (fun q => (q.zero, q.size, q.bytes)) = some (some z, m, by_)) (hf : ∀ x s, (f x s).length = m)
    (hk : (o.op.operands.all (known L) && !isSelect o.op) = true) (hs : evalE L s = slcV A n) (hn : n = 0) (hc : A.c = 0) (hx : evalE L x = slcV B ys.length) (hΦ : Row m f K B ys ∈ Φ) {u : Unit} (hroom : roomL by_ ys.length = some u) (hg : wantedE ops L o = some true)
    (h : ∀ A' : SkL σ, WL P N ops Q l ((d, slcV A' ys.length) :: L) (Sat w0 T H G (Row m f K A' ys :: Φ))) : WL P N ops Q (o :: l) L (Sat w0 T H G Φ) := by
  obtain ⟨inf, hi', hq⟩ := Option.map_eq_some_iff.1 hi
  obtain ⟨hz, hsz, rfl⟩ : inf.zero = some z ∧ inf.size = m ∧ inf.bytes = by_ := by simpa using hq
  subst hn
  have hrm := roomL_parts hroom
  refine WL.op (X := SkL σ) (fun A' => slcV A' ys.length) (fun A' => Sat w0 T H G (Row m f K A' ys :: Φ)) (fun A' => (d, slcV A' ys.length) :: L) hg hk (fun w hS => ?_) (fun A' => ?_) h
  · have hR := hS.fact hΦ
    cases hys : ys with
    | nil =>
      subst hys
      refine ⟨A, w, run_appendOp ho ?_, hS.derive [] (by simp) fun w _ => RowP.empty fun _ => hc⟩
      rw [hs, hx]
      have hfc : (Builtin.firstCells inf.size 0 (slcV B 0)).run P w = .ok #[] w := by
        unfold slcV
        cases B.addr <;> simp [Builtin.firstCells, loadCells, loadCellsFrom]
      have hB : Builtin.lenOf (slcV B 0) = pure 0 := rfl
      have hA : slcV A 0 = .slice A.addr 0 0 := by unfold slcV; rw [hc]
      have e0 : slcV B ([] : List α).length = slcV B 0 := rfl
      have e1 : slcV A ([] : List α).length = slcV A 0 := rfl
      rw [e0, e1, hA]
      simp only [Builtin.append_, List.getElem?_toArray, List.getElem?_cons_zero, List.getElem?_cons_succ]
      simp only [Sem.run_bind, run_underlying ht, Result.andThen_ok, Go.sizeOf, typeInfo, hi', Sem.run_pure, hB]
      cases A.addr <;> simp [run_underlying ht, hi', hfc, storeCells]
    | cons y0 yr =>
      have hne : 0 < ys.length := by rw [hys]; simp
      rw [← hys]
      obtain ⟨b, o', hBa⟩ : ∃ b o', B.a = some (b, o') := by
        cases hb : B.a with
        | none => rw [(hR.nil hb).1] at hne; simp at hne
        | some p => exact ⟨p.1, p.2, rfl⟩
      have hlen := flatS_length (s := B.s) hf ys 0
      have hnews : ∀ (w2 : World), (∀ a, w2.cell? a = w.cell? a) → ∀ j v, (flatS f B.s 0 ys)[j]? = some v → w2.cell? ((⟨b, o', none⟩ : Addr).add j) = some v := fun w2 hw2 j v hv => by
        have hj : j < ys.length * m := by
          rcases Nat.lt_or_ge j (ys.length * m) with h1 | h1
          · exact h1
          · rw [List.getElem?_eq_none (by omega)] at hv; cases hv
        have hm : 0 < m := by
          rcases Nat.eq_zero_or_pos m with h0 | h0
          · rw [h0, Nat.mul_zero] at hj; omega
          · exact h0
        have hq' : j / m < ys.length := Nat.div_lt_of_lt_mul (by rw [Nat.mul_comm]; exact hj)
        have hr' : j % m < m := Nat.mod_lt _ hm
        have hd' : j / m * m + j % m = j := by rw [Nat.mul_comm]; exact Nat.div_add_mod _ _
        have hx' : ys[j / m]? = some ys[j / m] := List.getElem?_eq_getElem hq'
        have hlt : j % m < (f ys[j / m] (B.s (j / m))).length := by rw [hf]; exact hr'
        have h2 := flatS_get (n := 0) hf hx' (j := j % m) (v := (f ys[j / m] (B.s (j / m)))[j % m]) (by rw [Nat.zero_add]; exact List.getElem?_eq_getElem hlt)
        rw [hd', hv] at h2
        have h3 := hR.cells b o' hBa _ _ hx' (j % m) _ (List.getElem?_eq_getElem hlt)
        rw [addr_add, hw2, Option.some.inj h2]
        rwa [show o' + j / m * m + j % m = o' + j by omega] at h3
      let C := grownCap w ys.length 0 e
      have hCge : ys.length ≤ C := grownCap_ge w ys.length 0 e
      refine ⟨⟨some (w.heap.size, 0), C, B.s⟩, w.drew.alloc (.cells ((flatS f B.s 0 ys).toArray ++ Builtin.zeroCells z.cells (C - ys.length)) e), run_appendOp ho ?_, hS.newRow _ [Row m f K B ys] (fun ψ hψ => by rw [List.mem_singleton] at hψ; subst hψ; exact hΦ) fun w' hb hψ => ?_⟩
      · rw [hs, hx]
        have hBs : slcV B ys.length = .slice (some ⟨b, o', none⟩) ys.length B.c := by unfold slcV; rw [addr_of hBa]
        rw [hBs]
        have hfit : Builtin.nextslicecap ys.length 0 * inf.bytes ≤ 281474976710656 := growslice_fits hne hrm.1
        cases hA : A.a with
        | none =>
          have hAs : slcV A 0 = .slice none 0 0 := by simp [slcV, SkL.addr, hA, hc]
          rw [hAs]
          have hr := run_append_nil (P := P) w t o.type e inf z ht hi' hz ⟨b, o', none⟩ ys.length B.c (flatS f B.s 0 ys) (by rw [hlen, hsz]) (hnews w fun _ => rfl) hne (by omega) (by omega)
          exact hr
        | some p =>
          have hAs : slcV A 0 = .slice (some ⟨p.1, p.2, none⟩) 0 0 := by simp [slcV, SkL.addr, hA, hc]
          rw [hAs]
          have hr := run_append_grow (P := P) w t o.type e inf z ht hi' hz ⟨p.1, p.2, none⟩ 0 0 [] (by simp) (by simp) ⟨b, o', none⟩ ys.length B.c (flatS f B.s 0 ys) (by rw [hlen, hsz]) (hnews w fun _ => rfl) (by omega) (by omega) (by rw [Nat.zero_add]; exact hfit)
          simp only [Nat.zero_add, Array.empty_append] at hr
          exact hr
      · have hR' := hψ _ (List.mem_singleton.2 rfl)
        exact row_of_block (s := B.s) hb hf toList_prefix hCge (InK.of fun i x hx => by rw [Nat.zero_add]; exact hR'.inner i x hx)
  · unfold putE; rw [hd]; simp only [hdN]
end

/-! ### Facts, by their places -/
def pickL (is : List Nat) (F : List Pr) : List Pr := is.filterMap fun i => F[i]?
theorem sub_pick {F F' Γ : List Pr} (is : List Nat) (h : pickL is F = F') : ∀ φ ∈ F' ++ Γ, φ ∈ F ++ Γ := fun φ hφ => by
  subst h
  rw [List.mem_append] at hφ ⊢
  refine hφ.imp_left fun hm => ?_
  obtain ⟨i, _, hi⟩ := List.mem_filterMap.1 hm
  exact List.mem_of_getElem? hi
theorem Sat.lessF {w0 w : World} {T : Zone} {H : Heap} {G F F' Γ : List Pr} (h : Sat w0 T H G (F ++ Γ) w) (is : List Nat) (e : pickL is F = F') : Sat w0 T H G (F' ++ Γ) w := h.less (sub_pick is e)
theorem fact_at {F Γ : List Pr} {φ : Pr} (i : Nat) (h : F[i]? = some φ) : φ ∈ F ++ Γ := List.mem_append_left _ (List.mem_of_getElem? h)
theorem no_facts {Φ : List Pr} : ∀ ψ ∈ ([] : List Pr), ψ ∈ Φ := fun _ h => by cases h
theorem one_fact {Φ : List Pr} {φ : Pr} (h : φ ∈ Φ) : ∀ ψ ∈ [φ], ψ ∈ Φ := fun ψ hψ => by rw [List.mem_singleton] at hψ; subst hψ; exact h
theorem sub_facts {F Γ : List Pr} {Ψ : List Pr} (is : List Nat) (h : pickL is F = Ψ) : ∀ ψ ∈ Ψ, ψ ∈ F ++ Γ := fun φ hφ => by
  subst h
  obtain ⟨i, _, hi⟩ := List.mem_filterMap.1 hφ
  exact List.mem_append_left _ (List.mem_of_getElem? hi)

section
variable {P : Program} {fn : Func} {R : Ending → World → Prop} {N : Nat} {k : List KI} {ops : Array Oper} {Q : Exit → Act → World → Prop} {l : List Oper} {L L' : Env} {w0 : World} {T : Zone} {H H0 Hr : Heap} {G F F' Γ Φ : List Pr} {o : Oper}
theorem WP.lessF (is : List Nat) (e : pickL is F = F') (h : WP P fn R N k L (Sat w0 T H G (F' ++ Γ))) : WP P fn R N k L (Sat w0 T H G (F ++ Γ)) := WP.less (sub_pick is e) h
theorem WL.lessF (is : List Nat) (e : pickL is F = F') (h : WL P N ops Q l L (Sat w0 T H G (F' ++ Γ))) : WL P N ops Q l L (Sat w0 T H G (F ++ Γ)) := WL.less (sub_pick is e) h
theorem WP.know (φ : Pr) (is : List Nat) (Ψ : List Pr) (e : pickL is F = Ψ) (hd : ∀ w : World, (∀ ψ ∈ Ψ, ψ w) → φ w) (h : WP P fn R N k L (Sat w0 T H G ((φ :: F) ++ Γ))) : WP P fn R N k L (Sat w0 T H G (F ++ Γ)) := WP.derive Ψ (sub_facts is e) hd h
theorem WL.know (φ : Pr) (is : List Nat) (Ψ : List Pr) (e : pickL is F = Ψ) (hd : ∀ w : World, (∀ ψ ∈ Ψ, ψ w) → φ w) (h : WL P N ops Q l L (Sat w0 T H G ((φ :: F) ++ Γ))) : WL P N ops Q l L (Sat w0 T H G (F ++ Γ)) := WL.derive Ψ (sub_facts is e) hd h
theorem WP.ice {H' : Heap} (φ : Pr) (j : Nat) {b : Nat} {ob : Obj} (hj : H[j]? = some (b, ob)) (is : List Nat) (Ψ : List Pr) (e : pickL is F = Ψ) (hd : ∀ w : World, w.heap[b]? = some ob → (∀ ψ ∈ Ψ, ψ w) → φ w) (he : H.eraseIdx j = H') (h : WP P fn R N k L (Sat w0 T H' G ((φ :: F) ++ Γ))) : WP P fn R N k L (Sat w0 T H G (F ++ Γ)) := WP.freeze j hj Ψ (sub_facts is e) hd he h
theorem WL.ice {H' : Heap} (φ : Pr) (j : Nat) {b : Nat} {ob : Obj} (hj : H[j]? = some (b, ob)) (is : List Nat) (Ψ : List Pr) (e : pickL is F = Ψ) (hd : ∀ w : World, w.heap[b]? = some ob → (∀ ψ ∈ Ψ, ψ w) → φ w) (he : H.eraseIdx j = H') (h : WL P N ops Q l L (Sat w0 T H' G ((φ :: F) ++ Γ))) : WL P N ops Q l L (Sat w0 T H G (F ++ Γ)) := WL.freeze j hj Ψ (sub_facts is e) hd he h

/-- A call that hands back slices. -/
theorem WL.callX {F0 : List Pr} {f : FuncId} {args : Array Value} {X : Type} {V : X → Value} {H1 : X → Heap} {R : X → List Pr} (hs bs : List Nat) (m : List Bool) (L' : X → Env) (is : List Nat) (hF : pickL is F = F0)
    (hc : Does P f args H0 (F0 ++ Γ) V H1 (fun _ => []) (fun x => R x ++ (F0 ++ Γ))) (hm : maskT m H = H0) (hr : maskF m H = Hr) (he : enterE P o L H hs = some (f, args, bs, bs)) (hg : wantedE ops L o = some true) (hp : ∀ x, putE N o (V x) L = some (L' x))
    (h : ∀ x, WL P N ops Q l (L' x) (Sat w0 T (H1 x ++ Hr) G ((R x ++ F) ++ Γ))) : WL P N ops Q (o :: l) L (Sat w0 T H G (F ++ Γ)) := by
  refine WL.callD hs bs m L' hc hm hr (sub_pick is hF) he hg hp fun x => ?_
  refine fun a w hh hS => h x a w hh (hS.less fun φ hφ => ?_)
  simp only [List.mem_append] at hφ ⊢
  rcases hφ with (hφ | hφ) | hφ
  · exact .inl (.inl hφ)
  · exact .inr (.inl hφ)
  · exact .inr (.inr hφ)

/-- The same in a region's head. -/
theorem OpX.callX {F0 Ψ Φs : List Pr} {f : FuncId} {args : Array Value} {X Y : Type} {V : X → Value} {R : X → List Pr} {R' : Y → List Pr} {f' : Y → Value} (g : Y → X) (hs bs : List Nat) (hF : ∀ φ ∈ F0 ++ Γ, φ ∈ Φs) (hT : ∀ φ ∈ Ψ ++ Φ, φ ∈ Φs)
    (hc : Does P f args [] (F0 ++ Γ) V (fun _ => []) (fun _ => []) (fun x => R x ++ (F0 ++ Γ))) (hg : ∀ x, ∃ y, g y = x) (hV : ∀ y, f' y = V (g y)) (hR : ∀ y, R' y = R (g y)) (he : ∀ A, enterE P o L (H ++ A) hs = some (f, args, bs, bs)) :
    OpX P N (fun A => Sat w0 T (H ++ A) G Φs) (fun y A => Sat w0 T (H ++ A) G ((R' y ++ Ψ) ++ Φ)) L o f' := fun Q A a w K ha hS hK => by
  unfold Oper.wp
  rw [enterE_sound (he A) ha hS]
  obtain ⟨Z, h0, hback⟩ := hS.call []
  refine (hc w Z (h0.less hF)).mono fun e w' ⟨x, h1, h2⟩ => ?_
  subst h1
  obtain ⟨y, rfl⟩ := hg x
  rw [← hV]
  refine hK y w' ((hback _ _ _ _ h2).less fun φ hφ => ?_)
  rw [List.append_assoc, List.mem_append] at hφ
  rcases hφ with hφ | hφ
  · rw [hR] at hφ
    exact List.mem_append_left _ (List.mem_append_left _ hφ)
  · exact List.mem_append_right _ (hT φ hφ)

/-- A call that only computes may read what is ours. -/
theorem Pure.lend {f : FuncId} {args : Array Value} {v : Value} {Φ0 : List Pr} {w : World} (h : Pure P Φ0 f args v) (hS : Sat w0 T H G Φ w) (hΦ : ∀ φ ∈ Φ0, φ ∈ Φ ∨ ∃ F, Loc F φ w) : Calls P f args w fun e w' => e = .returned v ∧ Sat w0 T H G Φ w' := by
  have h0 : Sat w ⟨[], fun k => k < w.heap.size⟩ [] [] Φ0 w := ⟨rfl, rfl, rfl, Nat.le_refl _, fun _ _ _ => rfl, [], by simp [keys], by simp [keys], by simp, trivial, fun φ hφ => by
    rcases hΦ φ hφ with h1 | ⟨F, hF⟩
    · obtain ⟨Fs, ow⟩ := hS.own
      obtain ⟨F, hl, _, _⟩ := ow.ro φ h1
      exact ⟨F, hl, by simp [keys], fun k hk => .inl (hl.lt k hk)⟩
    · exact ⟨F, hF, by simp [keys], fun k hk => .inl (hF.lt k hk)⟩⟩
  exact (h w _ h0).mono fun e w' ⟨he, hS'⟩ => ⟨he, hS.away hS'.os hS'.tape hS'.output hS'.size fun k hk => hS'.frame k hk (by simp)⟩

theorem OpU.callL {d : Nat} {f : Nat → Value} {obj : Obj} {v : Value} {Φ0 : Nat → List Pr} {fn : FuncId} {args : Nat → Array Value} (φ : Nat → Pr) (hs : List Nat) (bs : Nat → List Nat) (hφ : ∀ (b : Nat) (w : World), w.heap[b]? = some obj → φ b w) (hΦ : ∀ b, ∀ ψ ∈ Φ0 b, ψ = φ b ∨ ψ ∈ Φ)
    (hc : ∀ b, Pure P (Φ0 b) fn (args b) v) (he : ∀ b A, enterE P o ((d, f b) :: L) (H ++ (b, obj) :: A) hs = some (fn, args b, bs b, bs b)) : OpU P N (fun A => Sat w0 T (H ++ A) G Φ) L o d f obj v := fun Q b A a w K ha hS hK => by
  unfold Oper.wp
  rw [enterE_sound (he b A) ha hS]
  have hb : w.heap[b]? = some obj := by
    obtain ⟨Fs, ow⟩ := hS.own
    exact ow.has (b, obj) (List.mem_append_right _ (List.mem_cons_self ..))
  have hlt : b < w.heap.size := by
    rcases Nat.lt_or_ge b w.heap.size with h1 | h1
    · exact h1
    · rw [Array.getElem?_eq_none h1] at hb; cases hb
  refine Calls.mono ((hc b).lend hS fun ψ hψ => (hΦ b ψ hψ).elim (fun e => ?_) .inl) fun e w' ⟨h1, h2⟩ => ?_
  · subst e
    refine .inr ⟨[b], hφ b w hb, fun k hk => ?_, fun w' hw' => hφ b w' ?_⟩
    · obtain rfl := List.mem_singleton.1 hk; exact hlt
    · rw [hw' b (List.mem_singleton.2 rfl)]; exact hb
  · subst h1
    exact hK w' h2
theorem OpU.know {φ : Pr} {v : Value} {d : Nat} {f : Nat → Value} {obj : Obj} (ψs : List Pr) (hs : ∀ ψ ∈ ψs, ψ ∈ Φ) (hd : ∀ w : World, (∀ ψ ∈ ψs, ψ w) → φ w) (h : OpU P N (fun A => Sat w0 T (H ++ A) G (φ :: Φ)) L o d f obj v) : OpU P N (fun A => Sat w0 T (H ++ A) G Φ) L o d f obj v :=
  fun Q b A a w K ha hS hK => h Q b A a w K ha (hS.derive ψs hs hd) fun w' hS' => hK w' (hS'.less fun φ hφ => List.mem_cons_of_mem _ hφ)
theorem lent {φ : Pr} {l S : List Pr} (h : ∀ ψ ∈ l, ψ = φ ∨ ψ ∈ S) : ∀ ψ ∈ φ :: l, ψ = φ ∨ ψ ∈ S := fun ψ hψ => by
  rw [List.mem_cons] at hψ
  exact hψ.elim .inl (h ψ)
theorem lent' {φ a : Pr} {l S : List Pr} (ha : a ∈ S) (h : ∀ ψ ∈ l, ψ = φ ∨ ψ ∈ S) : ∀ ψ ∈ a :: l, ψ = φ ∨ ψ ∈ S := fun ψ hψ => by
  rw [List.mem_cons] at hψ
  rcases hψ with rfl | hψ
  · exact .inr ha
  · exact h ψ hψ
theorem lent2 {φ : Pr} {l m S : List Pr} (h : ∀ ψ ∈ l, ψ = φ ∨ ψ ∈ S) (h' : ∀ ψ ∈ m, ψ ∈ S) : ∀ ψ ∈ l ++ m, ψ = φ ∨ ψ ∈ S := fun ψ hψ => (List.mem_append.1 hψ).elim (h ψ) fun h1 => .inr (h' ψ h1)
theorem lent0 {φ : Pr} {S : List Pr} : ∀ ψ ∈ ([] : List Pr), ψ = φ ∨ ψ ∈ S := fun _ h => by cases h
theorem OpX.know {φ : Pr} {X : Type} {S' : X → Heap → Pr} {V : X → Value} (ψs : List Pr) (hs : ∀ ψ ∈ ψs, ψ ∈ Φ) (hd : ∀ w : World, (∀ ψ ∈ ψs, ψ w) → φ w) (h : OpX P N (fun A => Sat w0 T (H ++ A) G (φ :: Φ)) S' L o V) : OpX P N (fun A => Sat w0 T (H ++ A) G Φ) S' L o V :=
  fun Q A a w K ha hS hK => h Q A a w K ha (hS.derive ψs hs hd) hK
theorem OpV.know {φ : Pr} {v : Value} (ψs : List Pr) (hs : ∀ ψ ∈ ψs, ψ ∈ Φ) (hd : ∀ w : World, (∀ ψ ∈ ψs, ψ w) → φ w) (h : OpV P N (fun A => Sat w0 T (H ++ A) G (φ :: Φ)) L o v) : OpV P N (fun A => Sat w0 T (H ++ A) G Φ) L o v :=
  fun Q A a w K ha hS hK => h Q A a w K ha (hS.derive ψs hs hd) fun w' hS' => hK w' (hS'.less fun φ hφ => List.mem_cons_of_mem _ hφ)
theorem OpV.callF {Φ0 : List Pr} {v : Value} {f : FuncId} {args : Array Value} (hs bs : List Nat) (hΦ : ∀ φ ∈ Φ0, φ ∈ Φ) (hc : Pure P Φ0 f args v) (he : ∀ A, enterE P o L (H ++ A) hs = some (f, args, bs, bs)) :
    OpV P N (fun A => Sat w0 T (H ++ A) G Φ) L o v := fun Q A a w K ha hS hK => by
  unfold Oper.wp
  rw [enterE_sound (he A) ha hS]
  refine Calls.mono (hc.at hΦ hS) fun e w' ⟨h1, h2⟩ => ?_
  subst h1
  exact hK w' h2
theorem mem2 {a : Pr} {l S : List Pr} (h : a ∈ S) (h' : ∀ φ ∈ l, φ ∈ S) : ∀ φ ∈ a :: l, φ ∈ S := fun φ hφ => by
  rw [List.mem_cons] at hφ
  rcases hφ with rfl | hφ
  · exact h
  · exact h' φ hφ
theorem app2 {A B S : List Pr} (h : ∀ φ ∈ A, φ ∈ S) (h' : ∀ φ ∈ B, φ ∈ S) : ∀ φ ∈ A ++ B, φ ∈ S := fun φ hφ => (List.mem_append.1 hφ).elim (h φ) (h' φ)
theorem sub_ret {F F0 R Γ : List Pr} (is js : List Nat) (h : pickL is F = R) (h' : pickL js F = F0) : ∀ φ ∈ R ++ (F0 ++ Γ), φ ∈ F ++ Γ := fun φ hφ => by
  rw [List.mem_append] at hφ
  rcases hφ with hφ | hφ
  · exact sub_facts is h φ hφ
  · exact sub_pick js h' φ hφ

/-- What is known of a slice without its memory. -/
theorem WP.ptr {α σ : Type} {m : Nat} {f : α → σ → List Value} {K : α → σ → Pr} {A : SkL σ} {xs : List α} (i : Nat) (hi : F[i]? = some (Row m f K A xs)) (h : (A.a = none → xs = []) ∧ xs.length ≤ A.c → WP P fn R N k L (Sat w0 T H G (F ++ Γ))) : WP P fn R N k L (Sat w0 T H G (F ++ Γ)) :=
  WP.fact (Row m f K A xs) (fact_at i hi) (fun w hw => hw.ptr) h
theorem WL.ptr {α σ : Type} {m : Nat} {f : α → σ → List Value} {K : α → σ → Pr} {A : SkL σ} {xs : List α} (i : Nat) (hi : F[i]? = some (Row m f K A xs)) (h : (A.a = none → xs = []) ∧ xs.length ≤ A.c → WL P N ops Q l L (Sat w0 T H G (F ++ Γ))) : WL P N ops Q l L (Sat w0 T H G (F ++ Γ)) :=
  WL.fact (Row m f K A xs) (fact_at i hi) (fun w hw => hw.ptr) h
end

theorem WP.byBool {P : Program} {fn : Func} {R : Ending → World → Prop} {N : Nat} {k : List KI} {L : Env} {S : Pr} (c : Bool) (ht : c = true → WP P fn R N k L S) (hf : c = false → WP P fn R N k L S) : WP P fn R N k L S := by
  cases c
  · exact hf rfl
  · exact ht rfl

/-! ### A part of a slice -/
def sliceL {α : Type} (xs : List α) (l h : Int) : Option (List α) := if 0 ≤ l ∧ l ≤ h ∧ h ≤ (xs.length : Int) then some ((xs.drop l.toNat).take (h.toNat - l.toNat)) else none
theorem sliceL_parts {α : Type} {xs t : List α} {l h : Int} (e : sliceL xs l h = some t) : (0 ≤ l ∧ l ≤ h ∧ h ≤ (xs.length : Int)) ∧ (xs.drop l.toNat).take (h.toNat - l.toNat) = t := by
  unfold sliceL at e
  split at e
  · rename_i hh; exact ⟨hh, Option.some.inj e⟩
  · cases e
def SkL.cut {σ : Type} (A : SkL σ) (l m : Nat) : SkL σ := ⟨if A.c = l then A.a else match A.a with | none => none | some p => some (p.1, p.2 + l * m), A.c - l, fun i => A.s (l + i)⟩

theorem RowP.cut {α σ : Type} {m : Nat} {f : α → σ → List Value} {K : α → σ → Pr} {A : SkL σ} {xs t : List α} {w : World} {l h : Int} (hR : RowP m f K A xs w) (e : sliceL xs l h = some t) : RowP m f K (A.cut l.toNat m) t w := by
  obtain ⟨hh, rfl⟩ := sliceL_parts e
  have hle := hR.le
  by_cases hc : A.c = l.toNat
  · have hn : (xs.drop l.toNat).take (h.toNat - l.toNat) = [] := by
      apply List.eq_nil_of_length_eq_zero
      rw [List.length_take, List.length_drop]; omega
    rw [hn]
    exact RowP.empty fun _ => by simp [SkL.cut]; omega
  · refine ⟨by rw [List.length_take, List.length_drop]; simp only [SkL.cut]; omega, fun ha => ?_, fun b o hb i x hx j v hv => ?_, fun i x hx => ?_⟩
    · simp only [SkL.cut, if_neg hc] at ha
      cases hA : A.a with
      | none =>
        obtain ⟨h1, h2⟩ := hR.nil hA
        subst h1
        refine ⟨by simp, by simp only [SkL.cut]; omega⟩
      | some p => rw [hA] at ha; cases ha
    · simp only [SkL.cut, if_neg hc] at hb
      cases hA : A.a with
      | none => rw [hA] at hb; cases hb
      | some p =>
        rw [hA] at hb
        simp only [Option.some.injEq, Prod.mk.injEq] at hb
        obtain ⟨rfl, rfl⟩ := hb
        have hlt : i < h.toNat - l.toNat := by
          rcases Nat.lt_or_ge i (h.toNat - l.toNat) with h1 | h1
          · exact h1
          · rw [List.getElem?_eq_none (by rw [List.length_take]; omega)] at hx; cases hx
        rw [List.getElem?_take, if_pos hlt, List.getElem?_drop] at hx
        have := hR.cells p.1 p.2 hA (l.toNat + i) x hx j v hv
        rwa [show p.2 + (l.toNat + i) * m + j = p.2 + l.toNat * m + i * m + j by rw [Nat.add_mul]; omega] at this
    · have hlt : i < h.toNat - l.toNat := by
        rcases Nat.lt_or_ge i (h.toNat - l.toNat) with h1 | h1
        · exact h1
        · rw [List.getElem?_eq_none (by rw [List.length_take]; omega)] at hx; cases hx
      rw [List.getElem?_take, if_pos hlt, List.getElem?_drop] at hx
      exact hR.inner (l.toNat + i) x hx

section
variable {P : Program} {ρ : Operand → Value} {w : World} {dst : Option Tmp} {ty : TypeId} {pos : String} {af : Array Edge} {g : Option (Nat × Bool)} {t : TypeId} {x lo hi : Operand}
theorem run_slice_core {α σ : Type} {A : SkL σ} {xs r : List α} {l h : Int} {e m : Nat} (ht : P.underlying t = some (.slice e)) (hsz : (P.info? e).map (·.size) = some m) (hp : (A.a = none → xs = []) ∧ xs.length ≤ A.c) (hr : sliceL xs l h = some r) (vl vh : Option Value)
    (hl : match vl with | none => l = 0 | some v => ∃ k, v = .int k l) (hh : match vh with | none => h = xs.length | some v => ∃ k, v = .int k h) :
    (Instr.sliceAt t (slcV A xs.length) vl vh none).run P w = .ok (slcV (A.cut l.toNat m) r.length) w := by
  obtain ⟨hb, rfl⟩ := sliceL_parts hr
  obtain ⟨inf, hi, hm⟩ := Option.map_eq_some_iff.1 hsz
  subst hm
  have hc := hp.2
  have hlen : ((xs.drop l.toNat).take (h.toNat - l.toNat)).length = h.toNat - l.toNat := by rw [List.length_take, List.length_drop]; omega
  have e1 : (match vh with | some v => Instr.sliceBound v A.c .sliceAcap | none => pure xs.length).run P w = .ok h.toNat w := by
    cases vh with
    | none => subst hh; simp
    | some v => obtain ⟨k, rfl⟩ := hh; exact sliceBound_run ⟨by omega, by omega⟩
  have e2 : (match vl with | some v => Instr.sliceBound v h.toNat .sliceB | none => pure 0).run P w = .ok l.toNat w := by
    cases vl with
    | none => subst hl; simp
    | some v => obtain ⟨k, rfl⟩ := hl; exact sliceBound_run ⟨hb.1, by omega⟩
  have hbounds : (Instr.sliceBounds true xs.length A.c vl vh none).run P w = .ok (l.toNat, h.toNat, A.c) w := by
    unfold Instr.sliceBounds
    cases vh <;> cases vl <;> simp_all [Sem.run_bind]
  have haddr : (if A.c = l.toNat then A.addr else A.addr.map (·.add (l.toNat * inf.size))) = (A.cut l.toNat inf.size).addr := by
    unfold SkL.addr SkL.cut
    by_cases hcl : A.c = l.toNat
    · rw [if_pos hcl, if_pos hcl]
    · rw [if_neg hcl, if_neg hcl]
      cases A.a with
      | none => rfl
      | some p => simp [addr_add]
  unfold Instr.sliceAt
  rw [Sem.run_bindE (und ht)]
  simp only
  unfold Instr.slice
  rw [Sem.run_bindE (und ht)]
  simp only
  rw [Sem.run_bindE hbounds]
  simp only
  rw [Sem.run_bindE (sizeOf_run hi)]
  simp only [Sem.run_pure, hlen, haddr]
  rfl

theorem run_sliceRow {α σ : Type} {A : SkL σ} {xs r : List α} {kl kh : IntKind} {l h : Int} {e m : Nat} (ht : P.underlying t = some (.slice e)) (hsz : (P.info? e).map (·.size) = some m) (hp : (A.a = none → xs = []) ∧ xs.length ≤ A.c) (hr : sliceL xs l h = some r) (hx : ρ x = slcV A xs.length) (hl : ρ lo = .int kl l) (hh : ρ hi = .int kh h) :
    (execOp ρ ⟨dst, .slice t x (some lo) (some hi) none, ty, pos, af, g⟩).run P w = .ok (.value (slcV (A.cut l.toNat m) r.length)) w := by
  have := run_slice_core (P := P) (w := w) ht hsz hp hr (some (.int kl l)) (some (.int kh h)) ⟨kl, rfl⟩ ⟨kh, rfl⟩
  simp only [execOp, hx, hl, hh, Option.map_some, Option.map_none]
  rw [Sem.run_bindE this]; rfl
theorem run_sliceRow_lo {α σ : Type} {A : SkL σ} {xs r : List α} {kl : IntKind} {l : Int} {e m : Nat} (ht : P.underlying t = some (.slice e)) (hsz : (P.info? e).map (·.size) = some m) (hp : (A.a = none → xs = []) ∧ xs.length ≤ A.c) (hr : sliceL xs l (xs.length : Int) = some r) (hx : ρ x = slcV A xs.length) (hl : ρ lo = .int kl l) :
    (execOp ρ ⟨dst, .slice t x (some lo) none none, ty, pos, af, g⟩).run P w = .ok (.value (slcV (A.cut l.toNat m) r.length)) w := by
  have := run_slice_core (P := P) (w := w) ht hsz hp hr (some (.int kl l)) none ⟨kl, rfl⟩ rfl
  simp only [execOp, hx, hl, Option.map_some, Option.map_none]
  rw [Sem.run_bindE this]; rfl
theorem run_sliceRow_hi {α σ : Type} {A : SkL σ} {xs r : List α} {kh : IntKind} {h : Int} {e m : Nat} (ht : P.underlying t = some (.slice e)) (hsz : (P.info? e).map (·.size) = some m) (hp : (A.a = none → xs = []) ∧ xs.length ≤ A.c) (hr : sliceL xs 0 h = some r) (hx : ρ x = slcV A xs.length) (hh : ρ hi = .int kh h) :
    (execOp ρ ⟨dst, .slice t x none (some hi) none, ty, pos, af, g⟩).run P w = .ok (.value (slcV (A.cut 0 m) r.length)) w := by
  have := run_slice_core (P := P) (w := w) ht hsz hp hr none (some (.int kh h)) rfl ⟨kh, rfl⟩
  simp only [execOp, hx, hh, Option.map_some, Option.map_none]
  rw [Sem.run_bindE this]; rfl
end

/-! ### Elements, by the fact alone -/
abbrev ptrV {σ : Type} (A : SkL σ) (k : Nat) : Value := .pointer (match A.a with
  | none => none
  | some p => some ⟨p.1, p.2 + k, none⟩)

theorem row_at {α σ : Type} {m : Nat} {f : α → σ → List Value} {K : α → σ → Pr} {A : SkL σ} {xs : List α} {i : Int} {r : α} {w : World} (hR : RowP m f K A xs w) (h : getL xs.length xs i = some r) : ∃ b o, A.a = some (b, o) := ptr_of hR.ptr h
theorem ptrV_of {σ : Type} {A : SkL σ} {b o : Nat} (hA : A.a = some (b, o)) (k : Nat) : ptrV A k = .pointer (some ⟨b, o + k, none⟩) := by simp [ptrV, hA]

section
variable {P : Program} {ρ : Operand → Value} {w : World} {dst : Option Tmp} {ty : TypeId} {pos : String} {af : Array Edge} {g : Option (Nat × Bool)} {t : TypeId} {x y lo hi : Operand} {α σ : Type} {m : Nat} {f : α → σ → List Value} {K : α → σ → Pr} {A : SkL σ} {xs r' : List α} {i : Int} {r : α} {k kl kh : IntKind} {e : TypeId}
theorem run_indexRowF (ht : P.underlying t = some (.slice e)) (hi : (P.info? e).map (·.size) = some m) (h : getL xs.length xs i = some r) (hx : ρ x = slcV A xs.length) (hy : ρ y = .int k i) (hR : RowP m f K A xs w) :
    (execOp ρ ⟨dst, .indexAddr t x y, ty, pos, af, g⟩).run P w = .ok (.value (ptrV A (i.toNat * m))) w := by
  obtain ⟨b, o, hA⟩ := row_at hR h
  rw [ptrV_of hA]
  exact run_indexRow ht hi hA hx hy (getL_parts h).1
theorem run_fieldRowF {s : TypeId} {j n n' : Nat} (h : getL xs.length xs i = some r) (hp : ρ x = ptrV A n) (hf : ∀ b o, (Instr.fieldAt s (.pointer (some ⟨b, o + n, none⟩)) j).run P w = .ok (.pointer (some ⟨b, o + n', none⟩)) w) (hR : RowP m f K A xs w) :
    (execOp ρ ⟨dst, .fieldAddr s x j, ty, pos, af, g⟩).run P w = .ok (.value (ptrV A n')) w := by
  obtain ⟨b, o, hA⟩ := row_at hR h
  rw [ptrV_of hA] at hp ⊢
  simp only [execOp, hp]
  rw [Sem.run_bindE (hf b o)]
  rfl
theorem run_nilRowF {n : Nat} (h : getL xs.length xs i = some r) (hp : ρ x = ptrV A n) (hR : RowP m f K A xs w) : (execOp ρ ⟨dst, .nilCheck x, ty, pos, af, g⟩).run P w = .ok (.value (ptrV A n)) w := by
  obtain ⟨b, o, hA⟩ := row_at hR h
  rw [ptrV_of hA] at hp ⊢
  simp [execOp, hp]
theorem run_loadRowF {j : Nat} {v : Value} (h : getL xs.length xs i = some r) (hagg : ∀ w, (isAgg t).run P w = .ok false w) (hp : ρ x = ptrV A (i.toNat * m + j)) (hv : (f r (A.s i.toNat))[j]? = some v) (hR : RowP m f K A xs w) :
    (execOp ρ ⟨dst, .load t x, ty, pos, af, g⟩).run P w = .ok (.value v) w := by
  obtain ⟨b, o, hA⟩ := row_at hR h
  rw [ptrV_of hA, ← Nat.add_assoc] at hp
  exact run_loadRow hA h hagg hp hv hR
theorem run_loadRowFA {j n : Nat} {vs : List Value} (h : getL xs.length xs i = some r) (hagg : ∀ w, (isAgg t).run P w = .ok true w) (hsz : (P.info? t).map (·.size) = some n) (hp : ρ x = ptrV A (i.toNat * m + j)) (hv : ((f r (A.s i.toNat)).drop j).take n = vs) (hl : vs.length = n) (hR : RowP m f K A xs w) :
    (execOp ρ ⟨dst, .load t x, ty, pos, af, g⟩).run P w = .ok (.value (.agg vs.toArray)) w := by
  obtain ⟨b, o, hA⟩ := row_at hR h
  rw [ptrV_of hA, ← Nat.add_assoc] at hp
  exact run_loadRowA hA h hagg hsz hp hv hl hR
end
end Eng

/- THE ENGINE, part 6: from a law's walk to its row: the arguments opened, the row closed. -/
namespace Eng
open Go Go.RowKit Go.ChangeShapes
set_option linter.unusedVariables false
set_option linter.unusedSimpArgs false

/-- What the row gives about one argument. -/
def Arg (P : Program) (W : World) (t : TypeId) (v : Value) : Prop :=
  ∃ (H : Type) (enc : TypeId × Value → H) (base : Nat) (d : DataW H) (ps : List MemPlace),
    Value.okWide P W .any base t v ∧ DataW.Trod enc P W 0 (fun _ => true) true t v d ps ∧ (d.weights P t).all (· ≤ reachBytes) = true

theorem trodAll_each {H : Type} {enc : TypeId × Value → H} {P : Program} {W : World} {base : Nat} {sp : Nat → Bool} {held : Bool} : ∀ {ts : List TypeId} {vs : List Value} {ds : List (DataW H)} {ps : List MemPlace},
    DataW.TrodAll enc P W base sp held ts vs ds ps → vs.length = ts.length ∧ ds.length = ts.length ∧ ∀ (j : Nat) t v, ts[j]? = some t → vs[j]? = some v → ∃ d p, ds[j]? = some d ∧ DataW.Trod enc P W base sp held t v d p
  | [], vs, ds, ps, h => by
    obtain ⟨rfl, rfl, rfl⟩ := trodAll_nil h
    exact ⟨rfl, rfl, fun j t v ht => by simp at ht⟩
  | t :: ts, vs, ds, ps, h => by
    obtain ⟨v, vs', d, ds', p, q, rfl, rfl, rfl, h0, hr⟩ := trodAll_cons h
    obtain ⟨e1, e2, e3⟩ := trodAll_each hr
    refine ⟨by simp [e1], by simp [e2], fun j t' v' ht hv => ?_⟩
    cases j with
    | zero =>
      simp only [List.getElem?_cons_zero, Option.some.injEq] at ht hv
      subst ht; subst hv
      exact ⟨d, p, rfl, h0⟩
    | succ j =>
      simp only [List.getElem?_cons_succ] at ht hv ⊢
      exact e3 j t' v' ht hv

theorem trodAll_after {H : Type} {enc : TypeId × Value → H} {P : Program} (hl : laidOutB P = true) {W W' : World} (hb : Below W.heap.size W W') : ∀ {ts : List TypeId} {vs : List Value} {ds : List (DataW H)} {ps : List MemPlace},
    ts.all (fun t => P.readableRec t && decide (t < P.types.size)) = true → DataW.TrodAll enc P W 0 (fun _ => true) true ts vs ds ps →
    ∃ pa, DataW.TrodAll enc P W' 0 (fun b => decide (b < W.heap.size)) true ts vs ds pa
  | [], vs, ds, ps, _, h => by
    obtain ⟨rfl, rfl, rfl⟩ := trodAll_nil h
    exact ⟨[], trodAll_mk0⟩
  | t :: ts, vs, ds, ps, ht, h => by
    simp only [List.all_cons, Bool.and_eq_true, decide_eq_true_eq] at ht
    obtain ⟨v, vs', d, ds', p, q, rfl, rfl, rfl, h0, hr⟩ := trodAll_cons h
    obtain ⟨pa, hpa⟩ := trodAll_after hl hb ht.2 hr
    have hlt : ∀ x ∈ p, x.block < W.heap.size := by
      obtain ⟨m, hm⟩ := h0
      exact DataW.trod_lt m _ _ _ hm
    exact ⟨_, trodAll_cons_mk (Below.trod hl ht.1.1 ht.1.2 h0 hb hlt) hpa⟩

theorem Sat.below {w0 w : World} {Φ : List Pr} (h : Sat w0 ⟨[], fun _ => True⟩ [] [] Φ w) : Below w0.heap.size w0 w :=
  ⟨h.os, h.tape, h.output, h.size, fun k hk => h.frame k hk (by simp)⟩

theorem Sat.start {w : World} {φ : Pr} (hφ : ∃ F, Loc F φ w) : Sat w ⟨[], fun _ => True⟩ [] [] [φ] w := by
  obtain ⟨F, hF⟩ := hφ
  refine ⟨rfl, rfl, rfl, Nat.le_refl _, fun _ _ _ => rfl, [], by simp [keys], by simp [keys], by simp, trivial, fun ψ hψ => ?_⟩
  obtain rfl := List.mem_singleton.1 hψ
  exact ⟨F, hF, by simp [keys], fun k _ => .inl trivial⟩

theorem Loc.cellAt {w : World} {a : Addr} {v : Value} (h : w.cell? a = some v) : ∃ F, Loc F (fun w => w.cell? a = some v) w := by
  have hlt : a.block < w.heap.size := by
    apply Classical.byContradiction
    intro hn
    have : w.heap[a.block]? = none := Array.getElem?_eq_none (by omega)
    simp [World.cell?, this] at h
  refine ⟨[a.block], h, fun k hk => ?_, fun w' hk => ?_⟩
  · obtain rfl := List.mem_singleton.1 hk
    exact hlt
  · show w'.cell? a = some v
    rw [World.cell?_of_block (w := w) (hk a.block (by simp))]
    exact h

/-- THE ROW, out of the law's own walk. -/
theorem lift_law {C : Checked} {os : Os} {f : FuncId} {fn : Func} {s : ChangeSpec} {X : World → Prop} (tb : TypeId)
    (hX : ∀ w w' : World, w.heap = w'.heap → X w → X w') (own : ownKnob C.prog.godebug = none) (started : os.Started) (noInit : C.prog.inits.idxOf? f = none) (hfn : C.prog.funcs[f]? = some fn)
    (hvars : s.vars = []) (hspec : ∀ (H : Type) (ds : List (DataW H)), ds.length = fn.params.size → s.fn H ds = { results := [.lit (.bool true)], args := ds })
    (hres : fn.resultTypes = #[tb]) (htb : C.prog.underlying tb = some .bool) (hl : laidOutB C.prog = true)
    (hts : fn.params.toList.all (fun t => C.prog.readableRec t && decide (t < C.prog.types.size)) = true)
    (H : Type) (enc : TypeId × Value → H)
    (witness : ∃ (w : World) (tape : Tape) (i : Input), w.os = os ∧ (w.forCall tape i).Shaped C.prog ∧ i.vars = [] ∧ Input.okWide C.prog (w.forCall tape i) .any w.heap.size f i ∧
      ((s.pre enc C.prog fn [] false (w.forCall tape i).memory i.args ∧ X (w.forCall tape i).memory) ∧ sizedMet enc C.prog fn (OpenSpec.ofChange s) false (w.forCall tape i).memory i.args) ∧ ({} : Assume).holds C.prog (lone (Frame.enter C.prog f i.args .normal) [] (w.forCall tape i)))
    (hc : ∀ (W : World) (args : Array Value), args.size = fn.params.size → (∀ (j : Nat) t v, fn.params[j]? = some t → args[j]? = some v → Arg C.prog W t v) → X W →
      Calls C.prog f args W fun e w' => e = .returned (.bool true) ∧ Below W.heap.size W w') :
    ReturnsInHanded {} C os f .any (fun w args => (s.pre enc C.prog fn [] false w args ∧ X w) ∧ sizedMet enc C.prog fn (OpenSpec.ofChange s) false w args)
      (s.post enc C.prog fn false true false false) := by
  refine returnsInHanded_of_change_and (X := fun w _ => X w) (fun w w' _ hh h => hX w w' hh h) own started noInit hfn witness ?_
  intro W base args ds gs before hval hW _ hz hx _
  have hW' := hW
  obtain ⟨p, q, hA, hV, rfl, hfz, hnd⟩ := hW
  rw [hvars] at hV
  obtain ⟨rfl, rfl⟩ := trodVars_none hV
  obtain ⟨e1, e2, e3⟩ := trodAll_each hA
  simp only [Array.length_toList] at e1 e2
  have harg : ∀ (j : Nat) t v, fn.params[j]? = some t → args[j]? = some v → Arg C.prog W t v := fun j t v ht hv => by
    have ht' : fn.params.toList[j]? = some t := by simpa using ht
    have hv' : args.toList[j]? = some v := by simpa using hv
    obtain ⟨d, p0, hd, h0⟩ := e3 j t v ht' hv'
    refine ⟨H, enc, base, d, p0, hval j t v ht hv, h0, List.all_eq_true.2 fun n hn => ?_⟩
    refine List.all_eq_true.1 hz n (DataW.weights_mem_each (j := j) (t := t) (d := d) ?_ ?_ n hn)
    · rw [List.getElem?_append_left (by
        rcases Nat.lt_or_ge j fn.params.toList.length with h | h
        · exact h
        · rw [List.getElem?_eq_none h] at ht'; cases ht')]
      exact ht'
    · simpa using hd
  refine (hc W args e1 harg hx).mono fun e W' ⟨he, bel⟩ => ?_
  subst he
  obtain ⟨pa, hpa⟩ := trodAll_after hl bel hts hA
  have es := hspec H (ds ++ []) (by simpa using e2)
  refine ⟨_, rfl, _, _, _, [], pa, [], hW', ?_, ?_, ?_, bel.frame _, fun h => by cases h⟩
  · rw [es, hres]
    exact trodAll_mk1 (shut_bool htb true)
  · rw [es]
    simpa using hpa
  · rw [es, hvars]
    exact rfl

/-! ### Plain arguments: whole numbers, bools, strings, and structs of them -/
inductive Leaf where
  | bool
  | int (k : IntKind)
  | str

def Leaf.Val : Leaf → Value → Prop
  | .bool, v => ∃ b, v = .bool b
  | .int k, v => ∃ n, v = .int k n ∧ (Lit.int k n).wf = true
  | .str, v => ∃ s : ByteArray, v = .string s ∧ s.size ≤ reachBytes

def LeafAll : List Leaf → List Value → Prop
  | [], [] => True
  | l :: L, v :: vs => l.Val v ∧ LeafAll L vs
  | _, _ => False

theorem LeafAll.length : ∀ {L : List Leaf} {vs : List Value}, LeafAll L vs → vs.length = L.length
  | [], [], _ => rfl
  | l :: L, v :: vs, h => by simp [LeafAll.length h.2]
  | [], _ :: _, h => h.elim
  | _ :: _, [], h => h.elim

theorem LeafAll.append : ∀ {L M : List Leaf} {vs ws : List Value}, LeafAll L vs → LeafAll M ws → LeafAll (L ++ M) (vs ++ ws)
  | [], _, [], _, _, h => h
  | l :: L, _, v :: vs, _, h, h' => ⟨h.1, LeafAll.append h.2 h'⟩
  | [], _, _ :: _, _, h, _ => h.elim
  | _ :: _, _, [], _, h, _ => h.elim

def leavesF (P : Program) (g : TypeId → Option (List Leaf)) : Nat → List Field → Option (List Leaf)
  | _, [] => some []
  | o, f :: fs => match g f.type with
    | some L => if Nat.beq f.offset o && Nat.beq (P.cellsOf f.type) L.length then (match leavesF P g (o + L.length) fs with | some M => some (L ++ M) | none => none) else none
    | none => none

/-- The leaves of a plain type, in the order of its cells. -/
def leaves (P : Program) : Nat → TypeId → Option (List Leaf)
  | 0, _ => none
  | n + 1, t => match P.underlying t with
    | some .bool => some [.bool]
    | some (.int k) => some [.int k]
    | some .string => some [.str]
    | some (.struct fs) => match leavesF P (leaves P n) 0 fs.toList with
      | some L => if Nat.beq (P.cellsOf t) L.length then some L else none
      | none => none
    | _ => none

section
variable {H : Type} {enc : TypeId × Value → H} {P : Program} {w : World} {base : Nat} {sp : Nat → Bool} {held : Bool}

theorem trod_fields {g : TypeId → Option (List Leaf)} {m : Nat} {cs : List Value}
    (ih : ∀ t L, g t = some L → ∀ cs x, DataW.trod enc P w base sp held m t cs = some x → (x.1.weights P t).all (· ≤ reachBytes) = true → LeafAll L cs) :
    ∀ (fs : List Field) (o : Nat) (L : List Leaf) (xs : List (DataW H × List MemPlace)), leavesF P g o fs = some L →
      fs.mapM (fun f => DataW.trod enc P w base sp held m f.type ((cs.drop f.offset).take (P.cellsOf f.type))) = some xs →
      (DataW.weightsEach P (fs.map (·.type)) (xs.map (·.1))).all (· ≤ reachBytes) = true → LeafAll L ((cs.drop o).take L.length)
  | [], o, L, xs, hL, h, hw => by
    simp only [leavesF, Option.some.injEq] at hL
    subst hL
    exact trivial
  | f :: fs, o, L, xs, hL, h, hw => by
    simp only [leavesF] at hL
    split at hL
    · next L0 h0 =>
      split at hL
      · next hc =>
        simp only [Bool.and_eq_true, Nat.beq_eq] at hc
        split at hL
        · next M hM =>
          simp only [Option.some.injEq] at hL
          subst hL
          rw [List.mapM_cons] at h
          simp only [bind, Option.bind_eq_some_iff, pure, Option.some.injEq] at h
          obtain ⟨x, hx, ys, hys, rfl⟩ := h
          simp only [List.map_cons, DataW.weightsEach, List.all_append, Bool.and_eq_true] at hw
          have a1 := ih f.type L0 h0 _ x hx hw.1
          have a2 := trod_fields ih fs _ M ys hM hys hw.2
          rw [hc.1, hc.2] at a1
          have : (cs.drop o).take (L0 ++ M).length = (cs.drop o).take L0.length ++ (cs.drop (o + L0.length)).take M.length := by
            rw [List.length_append, List.take_add, List.drop_drop]
          rw [this]
          exact a1.append a2
        · cases hL
      · cases hL
    · cases hL

theorem trod_leaves : ∀ (n : Nat) (t : TypeId) (L : List Leaf), leaves P n t = some L → ∀ (m : Nat) (cs : List Value) (x : DataW H × List MemPlace),
    DataW.trod enc P w base sp held m t cs = some x → (x.1.weights P t).all (· ≤ reachBytes) = true → LeafAll L cs
  | 0, t, L, hL, _, _, _, _, _ => by cases hL
  | n + 1, t, L, hL, 0, cs, x, h, hw => by simp [DataW.trod] at h
  | n + 1, t, L, hL, m + 1, cs, x, h, hw => by
    unfold leaves at hL
    split at hL
    · next hu =>
      simp only [Option.some.injEq] at hL
      subst hL
      obtain ⟨b, rfl, _⟩ := DataW.trod_bool hu h
      exact ⟨⟨b, rfl⟩, trivial⟩
    · next k hu =>
      simp only [Option.some.injEq] at hL
      subst hL
      obtain ⟨b, rfl, _, hb⟩ := DataW.trod_int hu h
      exact ⟨⟨b, rfl, hb⟩, trivial⟩
    · next hu =>
      simp only [Option.some.injEq] at hL
      subst hL
      obtain ⟨b, rfl, rfl, hb⟩ := DataW.trod_string hu h
      refine ⟨⟨b, rfl, ?_⟩, trivial⟩
      simpa [DataW.weights] using hw
    · next fs hu =>
      split at hL
      · next L0 hL0 =>
        split at hL
        · next hlL =>
          simp only [Option.some.injEq] at hL
          subst hL
          simp only [Nat.beq_eq] at hlL
          simp only [DataW.trod, hu] at h
          split at h
          · next hlen =>
            simp only [Option.map_eq_some_iff] at h
            obtain ⟨xs, hxs, rfl⟩ := h
            simp only [DataW.weights, hu] at hw
            have := trod_fields (cs := cs) (fun t L hL cs x hx hw => trod_leaves n t L hL m cs x hx hw) fs.toList 0 L0 xs hL0 hxs hw
            rw [List.drop_zero, List.take_of_length_le (by rw [hlen, hlL]; exact Nat.le_refl _)] at this
            exact this
          · cases h
        · cases hL
      · cases hL
    · cases hL
end

theorem Arg.bool {P : Program} {W : World} {t : TypeId} {v : Value} (ht : P.underlying t = some .bool) (h : Arg P W t v) : ∃ b, v = .bool b := by
  obtain ⟨H, enc, base, d, ps, h1, h2, h3⟩ := h
  obtain ⟨b, rfl, _⟩ := open_bool ht h1 h2
  exact ⟨b, rfl⟩
theorem Arg.int {P : Program} {W : World} {t : TypeId} {v : Value} {k : IntKind} (ht : P.underlying t = some (.int k)) (h : Arg P W t v) : ∃ n, v = .int k n ∧ (Lit.int k n).wf = true := by
  obtain ⟨H, enc, base, d, ps, h1, h2, h3⟩ := h
  obtain ⟨b, rfl, _, _, hw⟩ := open_int ht h1 h2
  exact ⟨b, rfl, hw⟩
theorem Arg.str {P : Program} {W : World} {t : TypeId} {v : Value} (ht : P.underlying t = some .string) (h : Arg P W t v) : ∃ s : ByteArray, v = .string s ∧ s.size ≤ reachBytes := by
  obtain ⟨H, enc, base, d, ps, h1, h2, h3⟩ := h
  obtain ⟨b, rfl, rfl, _, _⟩ := Go.ChangeMaps.open_string ht h1 h2
  exact ⟨b, rfl, by simpa [DataW.weights] using h3⟩
theorem Arg.agg {P : Program} {W : World} {t : TypeId} {v : Value} {fs : Array Field} {L : List Leaf} (n : Nat) (ht : P.underlying t = some (.struct fs)) (hL : leaves P n t = some L) (h : Arg P W t v) : ∃ cs : List Value, v = .agg cs.toArray ∧ LeafAll L cs := by
  obtain ⟨H, enc, base, d, ps, h1, ⟨fuel, h2⟩, h3⟩ := h
  simp only [Value.okWide, ht] at h1
  obtain ⟨cs, rfl, _, _⟩ := h1
  exact ⟨cs.toList, rfl, trod_leaves n t L hL fuel _ _ h2 h3⟩

theorem LeafAll.cons {l : Leaf} {L : List Leaf} {vs : List Value} (h : LeafAll (l :: L) vs) : ∃ v vs', vs = v :: vs' ∧ l.Val v ∧ LeafAll L vs' := by
  cases vs with
  | nil => exact h.elim
  | cons v vs => exact ⟨v, vs, rfl, h.1, h.2⟩
theorem LeafAll.nil {vs : List Value} (h : LeafAll [] vs) : vs = [] := by
  cases vs with
  | nil => rfl
  | cons v vs => exact h.elim

theorem args_one {args : Array Value} (h : args.size = 1) : ∃ a, args = #[a] := by
  obtain ⟨l⟩ := args
  match l, h with
  | [a], _ => exact ⟨a, rfl⟩
theorem args_two {args : Array Value} (h : args.size = 2) : ∃ a b, args = #[a, b] := by
  obtain ⟨l⟩ := args
  match l, h with
  | [a, b], _ => exact ⟨a, b, rfl⟩
theorem args_three {args : Array Value} (h : args.size = 3) : ∃ a b c, args = #[a, b, c] := by
  obtain ⟨l⟩ := args
  match l, h with
  | [a, b, c], _ => exact ⟨a, b, c, rfl⟩
theorem wf_i64 {n : Int} (h : (Lit.int .i64 n).wf = true) : -9223372036854775808 ≤ n ∧ n ≤ 9223372036854775807 := by
  simp [Lit.wf, IntKind.min, IntKind.max, IntKind.bits, IntKind.signed] at h; omega
theorem wf_u64 {n : Int} (h : (Lit.int .u64 n).wf = true) : 0 ≤ n ∧ n ≤ 18446744073709551615 := by
  simp [Lit.wf, IntKind.min, IntKind.max, IntKind.bits, IntKind.signed] at h; omega
theorem wf_u32 {n : Int} (h : (Lit.int .u32 n).wf = true) : 0 ≤ n ∧ n ≤ 4294967295 := by
  simp [Lit.wf, IntKind.min, IntKind.max, IntKind.bits, IntKind.signed] at h; omega
theorem wf_u16 {n : Int} (h : (Lit.int .u16 n).wf = true) : 0 ≤ n ∧ n ≤ 65535 := by
  simp [Lit.wf, IntKind.min, IntKind.max, IntKind.bits, IntKind.signed] at h; omega
theorem wf_u8 {n : Int} (h : (Lit.int .u8 n).wf = true) : 0 ≤ n ∧ n ≤ 255 := by
  simp [Lit.wf, IntKind.min, IntKind.max, IntKind.bits, IntKind.signed] at h; omega

theorem noStand {P : Program} {fn : Func} (h : fn.params.toList.all (fun t => !P.wantsStandIn t) = true) (j : Nat) (t : TypeId) (ht : fn.params[j]? = some t) : P.wantsStandIn t = false := by
  have hm : t ∈ fn.params.toList := List.mem_of_getElem? (i := j) (by simpa using ht)
  simpa using List.all_eq_true.1 h t hm
end Eng

/- THE ENGINE, part 7: the models' words, in plain arithmetic. -/
namespace Eng
open Go
set_option linter.unusedVariables false
set_option linter.unusedSimpArgs false

/-! ### Wrapping -/
theorem i64_id {n : Int} (h : -9223372036854775808 ≤ n ∧ n ≤ 9223372036854775807) : i64 n = n := by
  simp [i64, IntKind.wrap, IntKind.bits, IntKind.signed]; omega
theorem u64_id {n : Int} (h : 0 ≤ n ∧ n ≤ 18446744073709551615) : u64 n = n := by
  simp [u64, IntKind.wrap, IntKind.bits, IntKind.signed]; omega
theorem u8_id {n : Int} (h : 0 ≤ n ∧ n ≤ 255) : u8 n = n := by
  simp [u8, IntKind.wrap, IntKind.bits, IntKind.signed]; omega
theorem u8_mod (n : Int) : u8 n = n % 256 := by simp [u8, IntKind.wrap, IntKind.bits, IntKind.signed]
theorem u64_mod (n : Int) : u64 n = n % 18446744073709551616 := by simp [u64, IntKind.wrap, IntKind.bits, IntKind.signed]

/-! ### Bits -/
theorem bOr_i64 {x y : Nat} (hx : x < 2 ^ 63) (hy : y < 2 ^ 63) : bOr .i64 x y = ((x ||| y : Nat) : Int) := by
  have h : x ||| y < 2 ^ 63 := Nat.or_lt_two_pow hx hy
  show IntKind.i64.wrap ((BitVec.ofInt 64 x ||| BitVec.ofInt 64 y).toNat : Int) = _
  rw [BitVec.toNat_or, BitVec.ofInt_natCast, BitVec.ofInt_natCast, BitVec.toNat_ofNat, BitVec.toNat_ofNat]
  rw [Nat.mod_eq_of_lt (by omega), Nat.mod_eq_of_lt (by omega)]
  exact i64_id (by omega)
theorem bOr_u64 {x y : Nat} (hx : x < 2 ^ 64) (hy : y < 2 ^ 64) : bOr .u64 x y = ((x ||| y : Nat) : Int) := by
  have h : x ||| y < 2 ^ 64 := Nat.or_lt_two_pow hx hy
  show IntKind.u64.wrap ((BitVec.ofInt 64 x ||| BitVec.ofInt 64 y).toNat : Int) = _
  rw [BitVec.toNat_or, BitVec.ofInt_natCast, BitVec.ofInt_natCast, BitVec.toNat_ofNat, BitVec.toNat_ofNat]
  rw [Nat.mod_eq_of_lt (by omega), Nat.mod_eq_of_lt (by omega)]
  exact u64_id (by omega)
theorem bAnd_i64 {x y : Nat} (hx : x < 2 ^ 63) (hy : y < 2 ^ 63) : bAnd .i64 x y = ((x &&& y : Nat) : Int) := by
  have h : x &&& y < 2 ^ 63 := Nat.and_lt_two_pow x hy
  show IntKind.i64.wrap ((BitVec.ofInt 64 x &&& BitVec.ofInt 64 y).toNat : Int) = _
  rw [BitVec.toNat_and, BitVec.ofInt_natCast, BitVec.ofInt_natCast, BitVec.toNat_ofNat, BitVec.toNat_ofNat]
  rw [Nat.mod_eq_of_lt (by omega), Nat.mod_eq_of_lt (by omega)]
  exact i64_id (by omega)
theorem or_add (i : Nat) {x y : Nat} (hy : y < 2 ^ i) : x * 2 ^ i ||| y = x * 2 ^ i + y := by
  rw [← Nat.shiftLeft_eq, Nat.shiftLeft_add_eq_or_of_lt hy]
theorem and_mask (i : Nat) (x : Nat) : x &&& (2 ^ i - 1) = x % 2 ^ i := Nat.and_two_pow_sub_one_eq_mod x i
/-- The low twelve bits of whatever number. -/
theorem bAnd_4095 (a : Int) : 0 ≤ bAnd .i64 a 4095 ∧ bAnd .i64 a 4095 ≤ 4095 := by
  have h : (BitVec.ofInt 64 a).toNat &&& 4095 ≤ 4095 := Nat.and_le_right
  show 0 ≤ IntKind.i64.wrap ((BitVec.ofInt 64 a &&& BitVec.ofInt 64 4095).toNat : Int) ∧ IntKind.i64.wrap ((BitVec.ofInt 64 a &&& BitVec.ofInt 64 4095).toNat : Int) ≤ 4095
  rw [BitVec.toNat_and]
  have e : (BitVec.ofInt 64 4095).toNat = 4095 := by decide
  rw [e]
  have := i64_id (n := (((BitVec.ofInt 64 a).toNat &&& 4095 : Nat) : Int)) (by omega)
  simp only [i64] at this
  rw [this]
  omega
theorem bAnd_4096 {x : Nat} (hx : x < 2 ^ 63) : bAnd .i64 x 4096 = (((x / 4096 % 2) * 4096 : Nat) : Int) := by
  have := bAnd_i64 (x := x) (y := 4096) hx (by decide)
  rw [show ((4096 : Nat) : Int) = 4096 from rfl] at this
  rw [this]
  congr 1
  refine Nat.eq_of_testBit_eq fun i => ?_
  rw [show (4096 : Nat) = 2 ^ 12 from rfl, Nat.testBit_and, Nat.testBit_two_pow, Nat.testBit_mul_two_pow]
  by_cases h : 12 = i
  · subst h
    rw [Nat.testBit_eq_decide_div_mod_eq, Nat.testBit_eq_decide_div_mod_eq]
    simp
  · by_cases h2 : 12 ≤ i
    · have : (x / 2 ^ 12 % 2).testBit (i - 12) = false := Nat.testBit_lt_two_pow (Nat.lt_of_lt_of_le (Nat.mod_lt _ (by decide)) (by
        have : 2 ^ 1 ≤ 2 ^ (i - 12) := Nat.pow_le_pow_right (by decide) (by omega)
        omega))
      simp [h, this]
    · simp [h, h2]

/-! ### Strings as lists -/
def L (s : ByteArray) : List UInt8 := s.data.toList
theorem L_inj {s t : ByteArray} (h : L s = L t) : s = t := by
  cases s with | mk a => cases t with | mk b => simp only [L] at h; exact congrArg _ (Array.toList_inj.1 h)
theorem L_length (s : ByteArray) : (L s).length = s.size := Array.length_toList
theorem L_append (s t : ByteArray) : L (s ++ t) = L s ++ L t := ByteArray.toList_data_append
theorem L_empty : L (⟨#[]⟩ : ByteArray) = [] := rfl
theorem L_mk (l : List UInt8) : L ⟨l.toArray⟩ = l := rfl
theorem L_extract (s : ByteArray) (l h : Nat) : L (s.extract l h) = ((L s).drop l).take (h - l) := by
  show (s.extract l h).data.toList = _
  rw [ByteArray.data_extract, Array.toList_extract, List.extract_eq_take_drop]
  rfl
theorem toList_eq (s : ByteArray) : s.toList = L s := ByteArray.toList_eq s

theorem bytes_beq (a b : ByteArray) : (a == b) = (L a == L b) := by
  cases a with | mk x => cases b with | mk y =>
    show (x == y) = (x.toList == y.toList)
    by_cases h : x = y
    · subst h; simp
    · have : ¬ x.toList = y.toList := fun e => h (Array.toList_inj.1 e)
      rw [beq_eq_false_iff_ne.2 h, beq_eq_false_iff_ne.2 this]
theorem bytes_refl (a : ByteArray) : (a == a) = true := by rw [bytes_beq]; simp

theorem catS_eq {s t : ByteArray} (h : s.size + t.size ≤ 9223372036854775807) : catS s t = some (s ++ t) := if_pos h
theorem sliceS_eq {s : ByteArray} {l h : Int} (hh : 0 ≤ l ∧ l ≤ h ∧ h ≤ (s.size : Int)) : sliceS s l h = some (s.extract l.toNat h.toNat) := if_pos hh

/-! ### Numbers as bytes, the highest first -/
def beL : Nat → Nat → List UInt8
  | 0, _ => []
  | n + 1, v => UInt8.ofNat (v / 256 ^ n % 256) :: beL n v
def be (n v : Nat) : ByteArray := ⟨(beL n v).toArray⟩
def beV (l : List UInt8) : Nat := l.foldl (fun a b => a * 256 + b.toNat) 0
theorem beL_length (n v : Nat) : (beL n v).length = n := by induction n with | zero => rfl | succ n ih => simp [beL, ih]
theorem be_size (n v : Nat) : (be n v).size = n := by simp [be, ByteArray.size, beL_length]
theorem L_be (n v : Nat) : L (be n v) = beL n v := rfl

theorem foldl_be (l : List UInt8) (a : Nat) : l.foldl (fun a b => a * 256 + b.toNat) a = a * 256 ^ l.length + beV l := by
  induction l generalizing a with
  | nil => simp [beV]
  | cons b l ih =>
    simp only [List.foldl_cons, List.length_cons, beV, Nat.zero_mul, Nat.zero_add]
    rw [ih, ih b.toNat, Nat.pow_succ]
    simp only [Nat.add_mul]
    rw [show 256 ^ l.length * 256 = 256 * 256 ^ l.length from Nat.mul_comm _ _, Nat.mul_assoc]
    omega
theorem beV_lt (l : List UInt8) : beV l < 256 ^ l.length := by
  induction l with
  | nil => simp [beV]
  | cons b l ih =>
    have : beV (b :: l) = b.toNat * 256 ^ l.length + beV l := by
      show (b :: l).foldl _ 0 = _
      rw [List.foldl_cons, foldl_be]; simp
    rw [this, List.length_cons, Nat.pow_succ]
    have hb := b.toNat_lt
    have : b.toNat * 256 ^ l.length ≤ 255 * 256 ^ l.length := Nat.mul_le_mul_right _ (by omega)
    omega
theorem beV_cons (b : UInt8) (l : List UInt8) : beV (b :: l) = b.toNat * 256 ^ l.length + beV l := by
  show (b :: l).foldl _ 0 = _
  rw [List.foldl_cons, foldl_be]; simp
theorem beL_mod (n v : Nat) : ∀ m, n ≤ m → beL n (v % 256 ^ m) = beL n v := by
  induction n with
  | zero => intro _ _; rfl
  | succ n ih =>
    intro m hm
    simp only [beL]
    rw [ih m (by omega)]
    have : v % 256 ^ m / 256 ^ n % 256 = v / 256 ^ n % 256 := by
      obtain ⟨d, rfl⟩ := Nat.exists_eq_add_of_le hm
      rw [show n + 1 + d = n + (d + 1) by omega, Nat.pow_add, Nat.mod_mul_right_div_self, Nat.pow_succ, Nat.mul_comm, Nat.mod_mul_right_mod]
    rw [this]
theorem beV_beL (n v : Nat) : beV (beL n v) = v % 256 ^ n := by
  induction n with
  | zero => simp [beL, beV, Nat.mod_one]
  | succ n ih =>
    simp only [beL]
    rw [beV_cons, beL_length, ih]
    have : (UInt8.ofNat (v / 256 ^ n % 256)).toNat = v / 256 ^ n % 256 := by simp
    rw [this, Nat.pow_succ, Nat.mod_mul]
    rw [Nat.mul_comm, Nat.add_comm]
theorem beL_beV (l : List UInt8) : beL l.length (beV l) = l := by
  induction l with
  | nil => rfl
  | cons b l ih =>
    simp only [List.length_cons, beL]
    rw [beV_cons]
    have h := beV_lt l
    have h1 : (b.toNat * 256 ^ l.length + beV l) / 256 ^ l.length = b.toNat := by
      rw [Nat.mul_comm, Nat.mul_add_div (Nat.pow_pos (by decide)), Nat.div_eq_of_lt h]; omega
    rw [h1, Nat.mod_eq_of_lt b.toNat_lt]
    congr 1
    · simp
    · rw [← beL_mod _ _ l.length (Nat.le_refl _), Nat.mul_comm, Nat.mul_add_mod, Nat.mod_eq_of_lt h]
      exact ih
end Eng
