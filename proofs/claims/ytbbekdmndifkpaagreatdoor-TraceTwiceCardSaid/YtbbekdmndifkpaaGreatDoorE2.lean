/- A general engine for walks through Go programs in the given model: no statement of the program stands here; what is shown holds without conditions. -/
import Derived.Test.YtbbekdmndifkpaaGreatDoorE1
import Derived.ArgAppend
import Derived.RangeFuncRecord
import Derived.RangeFuncSeq
import Derived.Shelf.Strings.OnBuilder
import Derived.Below
import Derived.Carry
import Derived.ChangeSame
import Derived.ChangeVars
import Derived.ChangeOld
import Derived.ChangeMaps5
import Derived.SizedLaws
import Derived.JoinedOf
import Derived.RowKit
import Derived.RowKitTokens
import Derived.LaidLaws
import Derived.LaidHandle
import Derived.Handed
import Derived.OpenShut
import Derived.SevenTiedAt
import Derived.Stop.Joined
import Derived.ChangeArms
import Derived.Laws.Strings

/- THE ENGINE, part 10: append. -/
namespace Eng
open Go
set_option linter.unusedVariables false
set_option linter.unusedSimpArgs false

/-- May so many elements be made? -/
def roomL (by_ n : Nat) : Option Unit := if n * by_ ≤ 140737488355328 ∧ n ≤ 4611686018427387904 then some () else none
theorem roomL_parts {by_ n : Nat} {u : Unit} (h : roomL by_ n = some u) : n * by_ ≤ 140737488355328 ∧ n ≤ 4611686018427387904 := by
  unfold roomL at h
  split at h
  · assumption
  · cases h

theorem run_appendOp {P : Program} {ρ : Operand → Value} {w w' : World} {o : Oper} {s x : Operand} {t t' : TypeId} {v : Value} (ho : o.op = .call { callee := .builtin .append, args := #[s, x], argTypes := #[t, t'] })
    (hr : (Builtin.append_ #[t, t'] o.type #[ρ s, ρ x]).run P w = .ok v w') : (execOp ρ o).run P w = .ok (.value v) w' := by
  unfold execOp
  simp only [ho, resolve, invoke, builtin, Sem.run_bind, Sem.run_pure, Result.andThen_ok, List.map_toArray, List.map_cons, List.map_nil, hr]

/-- A new block that nobody will write. -/
theorem Sat.newRow {w0 w : World} {T : Zone} {H : Heap} {G Φ : List Pr} (h : Sat w0 T H G Φ w) (ob : Obj) (ψs : List Pr) {φ : Pr} (hs : ∀ ψ ∈ ψs, ψ ∈ Φ) (hd : ∀ w' : World, w'.heap[w.heap.size]? = some ob → (∀ ψ ∈ ψs, ψ w') → φ w') :
    Sat w0 T H G (φ :: Φ) (w.drew.alloc ob) := by
  have h1 : Sat w0 T (H ++ [(w.heap.size, ob)]) G Φ (w.drew.alloc ob) := h.drew.alloc ob
  have h2 := h1.freeze H.length (b := w.heap.size) (o := ob) (by simp) ψs hs hd
  rwa [show (H ++ [(w.heap.size, ob)]).eraseIdx H.length = H by rw [List.eraseIdx_append_of_length_le (Nat.le_refl _)]; simp] at h2

section
variable {P : Program} {N : Nat} {ops : Array Oper} {Q : Exit → Act → World → Prop} {o : Oper} {l : List Oper} {L : Env} {w0 : World} {T : Zone} {H : Heap} {G Φ : List Pr} {α σ : Type}

theorem toList_prefix {xs : List Value} {zs : Array Value} : xs <+: (xs.toArray ++ zs).toList := by simp

/-- append to a slice without room: a copy. -/
theorem Sat.copyRow {w : World} {m by_ e ty : Nat} {z : Value} {f : α → σ → List Value} {K : α → σ → Pr} {A B : SkL σ} {ys : List α} {t : TypeId} (hS : Sat w0 T H G Φ w) (ht : P.underlying t = some (.slice e)) (hi : (P.info? e).map (fun q => (q.zero, q.size, q.bytes)) = some (some z, m, by_)) (hf : ∀ x s, (f x s).length = m)
    (hc : A.c = 0) (hΦ : Row m f K B ys ∈ Φ) {u : Unit} (hroom : roomL by_ ys.length = some u) : ∃ (A' : SkL σ) (w' : World), (Builtin.append_ #[t, t] ty #[slcV A 0, slcV B ys.length]).run P w = .ok (slcV A' ys.length) w' ∧ Sat w0 T H G (Row m f K A' ys :: Φ) w' := by
  obtain ⟨inf, hi', hq⟩ := Option.map_eq_some_iff.1 hi
  obtain ⟨hz, hsz, rfl⟩ : inf.zero = some z ∧ inf.size = m ∧ inf.bytes = by_ := by simpa using hq
  have hrm := roomL_parts hroom
  have hR := hS.fact hΦ
  cases hys : ys with
  | nil =>
    subst hys
    refine ⟨A, w, ?_, hS.derive [] (by simp) fun w _ => RowP.empty fun _ => hc⟩
    skip
    have hfc : (Builtin.firstCells inf.size 0 (slcV B 0)).run P w = .ok #[] w := by
      unfold slcV
      cases B.addr <;> simp [Builtin.firstCells, loadCells, loadCellsFrom]
    have hB : Builtin.lenOf (slcV B 0) = pure 0 := rfl
    have hA : slcV A 0 = .slice A.addr 0 0 := by unfold slcV; rw [hc]
    have e0 : slcV B ([] : List α).length = slcV B 0 := rfl
    have e1 : slcV A ([] : List α).length = slcV A 0 := rfl
    rw [e0, e1, hA]
    simp only [Builtin.append_, List.getElem?_toArray, List.getElem?_cons_zero, List.getElem?_cons_succ]
    simp only [Sem.run_bind, run_underlying ht, Result.andThen_ok, Go.sizeOf, typeInfo, hi', Sem.run_pure, hB]
    cases A.addr <;> simp [run_underlying ht, hi', hfc, storeCells]
  | cons y0 yr =>
    have hne : 0 < ys.length := by rw [hys]; simp
    rw [← hys]
    obtain ⟨b, o', hBa⟩ : ∃ b o', B.a = some (b, o') := by
      cases hb : B.a with
      | none => rw [(hR.nil hb).1] at hne; simp at hne
      | some p => exact ⟨p.1, p.2, rfl⟩
    have hlen := flatS_length (s := B.s) hf ys 0
    have hnews : ∀ (w2 : World), (∀ a, w2.cell? a = w.cell? a) → ∀ j v, (flatS f B.s 0 ys)[j]? = some v → w2.cell? ((⟨b, o', none⟩ : Addr).add j) = some v := fun w2 hw2 j v hv => by
      have hj : j < ys.length * m := by
        rcases Nat.lt_or_ge j (ys.length * m) with h1 | h1
        · exact h1
        · rw [List.getElem?_eq_none (by omega)] at hv; cases hv
      have hm : 0 < m := by
        rcases Nat.eq_zero_or_pos m with h0 | h0
        · rw [h0, Nat.mul_zero] at hj; omega
        · exact h0
      have hq' : j / m < ys.length := Nat.div_lt_of_lt_mul (by rw [Nat.mul_comm]; exact hj)
      have hr' : j % m < m := Nat.mod_lt _ hm
      have hd' : j / m * m + j % m = j := by rw [Nat.mul_comm]; exact Nat.div_add_mod _ _
      have hx' : ys[j / m]? = some ys[j / m] := List.getElem?_eq_getElem hq'
      have hlt : j % m < (f ys[j / m] (B.s (j / m))).length := by rw [hf]; exact hr'
      have h2 := flatS_get (n := 0) hf hx' (j := j % m) (v := (f ys[j / m] (B.s (j / m)))[j % m]) (by rw [Nat.zero_add]; exact List.getElem?_eq_getElem hlt)
      rw [hd', hv] at h2
      have h3 := hR.cells b o' hBa _ _ hx' (j % m) _ (List.getElem?_eq_getElem hlt)
      rw [addr_add, hw2, Option.some.inj h2]
      rwa [show o' + j / m * m + j % m = o' + j by omega] at h3
    let C := grownCap w ys.length 0 e
    have hCge : ys.length ≤ C := grownCap_ge w ys.length 0 e
    refine ⟨⟨some (w.heap.size, 0), C, B.s, none⟩, w.drew.alloc (.cells ((flatS f B.s 0 ys).toArray ++ Builtin.zeroCells z.cells (C - ys.length)) e), ?_, hS.newRow _ [Row m f K B ys] (fun ψ hψ => by rw [List.mem_singleton] at hψ; subst hψ; exact hΦ) fun w' hb hψ => ?_⟩
    · skip
      have hBs : slcV B ys.length = .slice (some ⟨b, o', none⟩) ys.length B.c := by unfold slcV; rw [addr_of hBa]
      rw [hBs]
      have hfit : Builtin.nextslicecap ys.length 0 * inf.bytes ≤ 281474976710656 := growslice_fits hne hrm.1
      cases hA : A.addr with
      | none =>
        have hAs : slcV A 0 = .slice none 0 0 := by simp [slcV, hA, hc]
        rw [hAs]
        have hr := run_append_nil (P := P) w t ty e inf z ht hi' hz ⟨b, o', none⟩ ys.length B.c (flatS f B.s 0 ys) (by rw [hlen, hsz]) (hnews w fun _ => rfl) hne (by omega) (by omega)
        exact hr
      | some p =>
        have hAs : slcV A 0 = .slice (some p) 0 0 := by simp [slcV, hA, hc]
        rw [hAs]
        have hr := run_append_grow (P := P) w t ty e inf z ht hi' hz p 0 0 [] (by simp) (by simp) ⟨b, o', none⟩ ys.length B.c (flatS f B.s 0 ys) (by rw [hlen, hsz]) (hnews w fun _ => rfl) (by omega) (by omega) (by rw [Nat.zero_add]; exact hfit)
        simp only [Nat.zero_add, Array.empty_append] at hr
        exact hr
    · have hR' := hψ _ (List.mem_singleton.2 rfl)
      exact row_of_block (s := B.s) hb hf toList_prefix hCge (InK.of fun i x hx => by rw [Nat.zero_add]; exact hR'.inner i x hx)

theorem WL.appendCopy {m by_ n e : Nat} {z : Value} {f : α → σ → List Value} {K : α → σ → Pr} {A B : SkL σ} {ys : List α} {s x : Operand} {t : TypeId} {d : Nat} (ho : o.op = .call { callee := .builtin .append, args := #[s, x], argTypes := #[t, t] })
    (hd : o.dst = some d) (hdN : Nat.blt d N = true) (ht : P.underlying t = some (.slice e)) (hi : (P.info? e).map (fun q => (q.zero, q.size, q.bytes)) = some (some z, m, by_)) (hf : ∀ x s, (f x s).length = m)
    (hk : (o.op.operands.all (known L) && !isSelect o.op) = true) (hs : evalE L s = slcV A n) (hn : n = 0) (hc : A.c = 0) (hx : evalE L x = slcV B ys.length) (hΦ : Row m f K B ys ∈ Φ) {u : Unit} (hroom : roomL by_ ys.length = some u) (hg : wantedE ops L o = some true)
    (h : ∀ A' : SkL σ, WL P N ops Q l ((d, slcV A' ys.length) :: L) (Sat w0 T H G (Row m f K A' ys :: Φ))) : WL P N ops Q (o :: l) L (Sat w0 T H G Φ) := by
  subst hn
  refine WL.op (X := SkL σ) (fun A' => slcV A' ys.length) (fun A' => Sat w0 T H G (Row m f K A' ys :: Φ)) (fun A' => (d, slcV A' ys.length) :: L) hg hk (fun w hS => ?_) (fun A' => ?_) h
  · obtain ⟨A', w', h1, h2⟩ := hS.copyRow (P := P) (ty := o.type) ht hi hf hc hΦ hroom
    exact ⟨A', w', run_appendOp ho (by rw [hs, hx]; exact h1), h2⟩
  · unfold putE; rw [hd]; simp only [hdN]
end

/-! ### Facts, by their places -/
def pickL (is : List Nat) (F : List Pr) : List Pr := is.filterMap fun i => F[i]?
theorem sub_pick {F F' Γ : List Pr} (is : List Nat) (h : pickL is F = F') : ∀ φ ∈ F' ++ Γ, φ ∈ F ++ Γ := fun φ hφ => by
  subst h
  rw [List.mem_append] at hφ ⊢
  refine hφ.imp_left fun hm => ?_
  obtain ⟨i, _, hi⟩ := List.mem_filterMap.1 hm
  exact List.mem_of_getElem? hi
theorem Sat.lessF {w0 w : World} {T : Zone} {H : Heap} {G F F' Γ : List Pr} (h : Sat w0 T H G (F ++ Γ) w) (is : List Nat) (e : pickL is F = F') : Sat w0 T H G (F' ++ Γ) w := h.less (sub_pick is e)
theorem fact_at {F Γ : List Pr} {φ : Pr} (i : Nat) (h : F[i]? = some φ) : φ ∈ F ++ Γ := List.mem_append_left _ (List.mem_of_getElem? h)
theorem no_facts {Φ : List Pr} : ∀ ψ ∈ ([] : List Pr), ψ ∈ Φ := fun _ h => by cases h
theorem one_fact {Φ : List Pr} {φ : Pr} (h : φ ∈ Φ) : ∀ ψ ∈ [φ], ψ ∈ Φ := fun ψ hψ => by rw [List.mem_singleton] at hψ; subst hψ; exact h
theorem sub_facts {F Γ : List Pr} {Ψ : List Pr} (is : List Nat) (h : pickL is F = Ψ) : ∀ ψ ∈ Ψ, ψ ∈ F ++ Γ := fun φ hφ => by
  subst h
  obtain ⟨i, _, hi⟩ := List.mem_filterMap.1 hφ
  exact List.mem_append_left _ (List.mem_of_getElem? hi)

section
variable {P : Program} {fn : Func} {R : Ending → World → Prop} {N : Nat} {k : List KI} {ops : Array Oper} {Q : Exit → Act → World → Prop} {l : List Oper} {L L' : Env} {w0 : World} {T : Zone} {H H0 Hr : Heap} {G F F' Γ Φ : List Pr} {o : Oper}
theorem WP.lessF (is : List Nat) (e : pickL is F = F') (h : WP P fn R N k L (Sat w0 T H G (F' ++ Γ))) : WP P fn R N k L (Sat w0 T H G (F ++ Γ)) := WP.less (sub_pick is e) h
theorem WL.lessF (is : List Nat) (e : pickL is F = F') (h : WL P N ops Q l L (Sat w0 T H G (F' ++ Γ))) : WL P N ops Q l L (Sat w0 T H G (F ++ Γ)) := WL.less (sub_pick is e) h
theorem WP.know (φ : Pr) (is : List Nat) (Ψ : List Pr) (e : pickL is F = Ψ) (hd : ∀ w : World, (∀ ψ ∈ Ψ, ψ w) → φ w) (h : WP P fn R N k L (Sat w0 T H G ((φ :: F) ++ Γ))) : WP P fn R N k L (Sat w0 T H G (F ++ Γ)) := WP.derive Ψ (sub_facts is e) hd h
theorem WL.know (φ : Pr) (is : List Nat) (Ψ : List Pr) (e : pickL is F = Ψ) (hd : ∀ w : World, (∀ ψ ∈ Ψ, ψ w) → φ w) (h : WL P N ops Q l L (Sat w0 T H G ((φ :: F) ++ Γ))) : WL P N ops Q l L (Sat w0 T H G (F ++ Γ)) := WL.derive Ψ (sub_facts is e) hd h
theorem WP.ice {H' : Heap} (φ : Pr) (j : Nat) {b : Nat} {ob : Obj} (hj : H[j]? = some (b, ob)) (is : List Nat) (Ψ : List Pr) (e : pickL is F = Ψ) (hd : ∀ w : World, w.heap[b]? = some ob → (∀ ψ ∈ Ψ, ψ w) → φ w) (he : H.eraseIdx j = H') (h : WP P fn R N k L (Sat w0 T H' G ((φ :: F) ++ Γ))) : WP P fn R N k L (Sat w0 T H G (F ++ Γ)) := WP.freeze j hj Ψ (sub_facts is e) hd he h
theorem WL.ice {H' : Heap} (φ : Pr) (j : Nat) {b : Nat} {ob : Obj} (hj : H[j]? = some (b, ob)) (is : List Nat) (Ψ : List Pr) (e : pickL is F = Ψ) (hd : ∀ w : World, w.heap[b]? = some ob → (∀ ψ ∈ Ψ, ψ w) → φ w) (he : H.eraseIdx j = H') (h : WL P N ops Q l L (Sat w0 T H' G ((φ :: F) ++ Γ))) : WL P N ops Q l L (Sat w0 T H G (F ++ Γ)) := WL.freeze j hj Ψ (sub_facts is e) hd he h

/-- A call that hands back slices. -/
theorem WL.callX {F0 : List Pr} {f : FuncId} {args : Array Value} {X : Type} {V : X → Value} {H1 : X → Heap} {R : X → List Pr} (hs bs : List Nat) (m : List Bool) (L' : X → Env) (is : List Nat) (hF : pickL is F = F0)
    (hc : Does P f args H0 (F0 ++ Γ) V H1 (fun _ => []) (fun x => R x ++ (F0 ++ Γ))) (hm : maskT m H = H0) (hr : maskF m H = Hr) (he : enterE P o L H hs = some (f, args, bs, bs)) (hg : wantedE ops L o = some true) (hp : ∀ x, putE N o (V x) L = some (L' x))
    (h : ∀ x, WL P N ops Q l (L' x) (Sat w0 T (H1 x ++ Hr) G ((R x ++ F) ++ Γ))) : WL P N ops Q (o :: l) L (Sat w0 T H G (F ++ Γ)) := by
  refine WL.callD hs bs m L' hc hm hr (sub_pick is hF) he hg hp fun x => ?_
  refine fun a w hh hS => h x a w hh (hS.less fun φ hφ => ?_)
  simp only [List.mem_append] at hφ ⊢
  rcases hφ with (hφ | hφ) | hφ
  · exact .inl (.inl hφ)
  · exact .inr (.inl hφ)
  · exact .inr (.inr hφ)

/-- The same in a region's head. -/
theorem OpX.callX {F0 Ψ Φs : List Pr} {f : FuncId} {args : Array Value} {X Y : Type} {V : X → Value} {R : X → List Pr} {R' : Y → List Pr} {f' : Y → Value} (g : Y → X) (hs bs : List Nat) (hF : ∀ φ ∈ F0 ++ Γ, φ ∈ Φs) (hT : ∀ φ ∈ Ψ ++ Φ, φ ∈ Φs)
    (hc : Does P f args [] (F0 ++ Γ) V (fun _ => []) (fun _ => []) (fun x => R x ++ (F0 ++ Γ))) (hg : ∀ x, ∃ y, g y = x) (hV : ∀ y, f' y = V (g y)) (hR : ∀ y, R' y = R (g y)) (he : ∀ A, enterE P o L (H ++ A) hs = some (f, args, bs, bs)) :
    OpX P N (fun A => Sat w0 T (H ++ A) G Φs) (fun y A => Sat w0 T (H ++ A) G ((R' y ++ Ψ) ++ Φ)) L o f' := fun Q A a w K ha hS hK => by
  unfold Oper.wp
  rw [enterE_sound (he A) ha hS]
  obtain ⟨Z, h0, hback⟩ := hS.call []
  refine (hc w Z (h0.less hF)).mono fun e w' ⟨x, h1, h2⟩ => ?_
  subst h1
  obtain ⟨y, rfl⟩ := hg x
  rw [← hV]
  refine hK y w' ((hback _ _ _ _ h2).less fun φ hφ => ?_)
  rw [List.append_assoc, List.mem_append] at hφ
  rcases hφ with hφ | hφ
  · rw [hR] at hφ
    exact List.mem_append_left _ (List.mem_append_left _ hφ)
  · exact List.mem_append_right _ (hT φ hφ)

theorem OpU.know {φ : Pr} {v : Value} {d : Nat} {f : Nat → Value} {obj : Obj} (ψs : List Pr) (hs : ∀ ψ ∈ ψs, ψ ∈ Φ) (hd : ∀ w : World, (∀ ψ ∈ ψs, ψ w) → φ w) (h : OpU P N (fun A => Sat w0 T (H ++ A) G (φ :: Φ)) L o d f obj v) : OpU P N (fun A => Sat w0 T (H ++ A) G Φ) L o d f obj v :=
  fun Q b A a w K ha hS hK => h Q b A a w K ha (hS.derive ψs hs hd) fun w' hS' => hK w' (hS'.less fun φ hφ => List.mem_cons_of_mem _ hφ)
theorem OpX.know {φ : Pr} {X : Type} {S' : X → Heap → Pr} {V : X → Value} (ψs : List Pr) (hs : ∀ ψ ∈ ψs, ψ ∈ Φ) (hd : ∀ w : World, (∀ ψ ∈ ψs, ψ w) → φ w) (h : OpX P N (fun A => Sat w0 T (H ++ A) G (φ :: Φ)) S' L o V) : OpX P N (fun A => Sat w0 T (H ++ A) G Φ) S' L o V :=
  fun Q A a w K ha hS hK => h Q A a w K ha (hS.derive ψs hs hd) hK
theorem OpV.know {φ : Pr} {v : Value} (ψs : List Pr) (hs : ∀ ψ ∈ ψs, ψ ∈ Φ) (hd : ∀ w : World, (∀ ψ ∈ ψs, ψ w) → φ w) (h : OpV P N (fun A => Sat w0 T (H ++ A) G (φ :: Φ)) L o v) : OpV P N (fun A => Sat w0 T (H ++ A) G Φ) L o v :=
  fun Q A a w K ha hS hK => h Q A a w K ha (hS.derive ψs hs hd) fun w' hS' => hK w' (hS'.less fun φ hφ => List.mem_cons_of_mem _ hφ)
theorem OpV.callF {Φ0 : List Pr} {v : Value} {f : FuncId} {args : Array Value} (hs bs : List Nat) (hΦ : ∀ φ ∈ Φ0, φ ∈ Φ) (hc : Pure P Φ0 f args v) (he : ∀ A, enterE P o L (H ++ A) hs = some (f, args, bs, bs)) :
    OpV P N (fun A => Sat w0 T (H ++ A) G Φ) L o v := fun Q A a w K ha hS hK => by
  unfold Oper.wp
  rw [enterE_sound (he A) ha hS]
  refine Calls.mono (hc.at hΦ hS) fun e w' ⟨h1, h2⟩ => ?_
  subst h1
  exact hK w' h2
theorem mem2 {a : Pr} {l S : List Pr} (h : a ∈ S) (h' : ∀ φ ∈ l, φ ∈ S) : ∀ φ ∈ a :: l, φ ∈ S := fun φ hφ => by
  rw [List.mem_cons] at hφ
  rcases hφ with rfl | hφ
  · exact h
  · exact h' φ hφ
theorem app2 {A B S : List Pr} (h : ∀ φ ∈ A, φ ∈ S) (h' : ∀ φ ∈ B, φ ∈ S) : ∀ φ ∈ A ++ B, φ ∈ S := fun φ hφ => (List.mem_append.1 hφ).elim (h φ) (h' φ)
theorem sub_ret {F F0 R Γ : List Pr} (is js : List Nat) (h : pickL is F = R) (h' : pickL js F = F0) : ∀ φ ∈ R ++ (F0 ++ Γ), φ ∈ F ++ Γ := fun φ hφ => by
  rw [List.mem_append] at hφ
  rcases hφ with hφ | hφ
  · exact sub_facts is h φ hφ
  · exact sub_pick js h' φ hφ

/-- What is known of a slice without its memory. -/
theorem WP.ptr {α σ : Type} {m : Nat} {f : α → σ → List Value} {K : α → σ → Pr} {A : SkL σ} {xs : List α} (i : Nat) (hi : F[i]? = some (Row m f K A xs)) (h : (A.a = none → xs = []) ∧ xs.length ≤ A.c → WP P fn R N k L (Sat w0 T H G (F ++ Γ))) : WP P fn R N k L (Sat w0 T H G (F ++ Γ)) :=
  WP.fact (Row m f K A xs) (fact_at i hi) (fun w hw => hw.ptr) h
theorem WL.ptr {α σ : Type} {m : Nat} {f : α → σ → List Value} {K : α → σ → Pr} {A : SkL σ} {xs : List α} (i : Nat) (hi : F[i]? = some (Row m f K A xs)) (h : (A.a = none → xs = []) ∧ xs.length ≤ A.c → WL P N ops Q l L (Sat w0 T H G (F ++ Γ))) : WL P N ops Q l L (Sat w0 T H G (F ++ Γ)) :=
  WL.fact (Row m f K A xs) (fact_at i hi) (fun w hw => hw.ptr) h
end

theorem WP.byBool {P : Program} {fn : Func} {R : Ending → World → Prop} {N : Nat} {k : List KI} {L : Env} {S : Pr} (c : Bool) (ht : c = true → WP P fn R N k L S) (hf : c = false → WP P fn R N k L S) : WP P fn R N k L S := by
  cases c
  · exact hf rfl
  · exact ht rfl

/-! ### A part of a slice -/
def sliceL {α : Type} (xs : List α) (l h : Int) : Option (List α) := if 0 ≤ l ∧ l ≤ h ∧ h ≤ (xs.length : Int) then some ((xs.drop l.toNat).take (h.toNat - l.toNat)) else none
theorem sliceL_parts {α : Type} {xs t : List α} {l h : Int} (e : sliceL xs l h = some t) : (0 ≤ l ∧ l ≤ h ∧ h ≤ (xs.length : Int)) ∧ (xs.drop l.toNat).take (h.toNat - l.toNat) = t := by
  unfold sliceL at e
  split at e
  · rename_i hh; exact ⟨hh, Option.some.inj e⟩
  · cases e
def SkL.cut {σ : Type} (A : SkL σ) (l m : Nat) : SkL σ := ⟨if A.c = l then A.a else match A.a with | none => none | some p => some (p.1, p.2 + l * m), A.c - l, fun i => A.s (l + i), if A.c = l then A.z else A.z.map (·.add (l * m))⟩

theorem RowP.cut {α σ : Type} {m : Nat} {f : α → σ → List Value} {K : α → σ → Pr} {A : SkL σ} {xs t : List α} {w : World} {l h : Int} (hR : RowP m f K A xs w) (e : sliceL xs l h = some t) : RowP m f K (A.cut l.toNat m) t w := by
  obtain ⟨hh, rfl⟩ := sliceL_parts e
  have hle := hR.le
  by_cases hc : A.c = l.toNat
  · have hn : (xs.drop l.toNat).take (h.toNat - l.toNat) = [] := by
      apply List.eq_nil_of_length_eq_zero
      rw [List.length_take, List.length_drop]; omega
    rw [hn]
    exact RowP.empty fun _ => by simp [SkL.cut]; omega
  · refine ⟨by rw [List.length_take, List.length_drop]; simp only [SkL.cut]; omega, fun ha => ?_, fun b o hb i x hx j v hv => ?_, fun i x hx => ?_⟩
    · simp only [SkL.cut, if_neg hc] at ha
      cases hA : A.a with
      | none =>
        obtain ⟨h1, h2⟩ := hR.nil hA
        subst h1
        refine ⟨by simp, by simp only [SkL.cut]; omega⟩
      | some p => rw [hA] at ha; cases ha
    · simp only [SkL.cut, if_neg hc] at hb
      cases hA : A.a with
      | none => rw [hA] at hb; cases hb
      | some p =>
        rw [hA] at hb
        simp only [Option.some.injEq, Prod.mk.injEq] at hb
        obtain ⟨rfl, rfl⟩ := hb
        have hlt : i < h.toNat - l.toNat := by
          rcases Nat.lt_or_ge i (h.toNat - l.toNat) with h1 | h1
          · exact h1
          · rw [List.getElem?_eq_none (by rw [List.length_take]; omega)] at hx; cases hx
        rw [List.getElem?_take, if_pos hlt, List.getElem?_drop] at hx
        have := hR.cells p.1 p.2 hA (l.toNat + i) x hx j v hv
        rwa [show p.2 + (l.toNat + i) * m + j = p.2 + l.toNat * m + i * m + j by rw [Nat.add_mul]; omega] at this
    · have hlt : i < h.toNat - l.toNat := by
        rcases Nat.lt_or_ge i (h.toNat - l.toNat) with h1 | h1
        · exact h1
        · rw [List.getElem?_eq_none (by rw [List.length_take]; omega)] at hx; cases hx
      rw [List.getElem?_take, if_pos hlt, List.getElem?_drop] at hx
      exact hR.inner (l.toNat + i) x hx

section
variable {P : Program} {ρ : Operand → Value} {w : World} {dst : Option Tmp} {ty : TypeId} {pos : String} {af : Array Edge} {g : Option (Nat × Bool)} {t : TypeId} {x lo hi : Operand}
theorem run_slice_core {α σ : Type} {A : SkL σ} {xs r : List α} {l h : Int} {e m : Nat} (ht : P.underlying t = some (.slice e)) (hsz : (P.info? e).map (·.size) = some m) (hp : (A.a = none → xs = []) ∧ xs.length ≤ A.c) (hr : sliceL xs l h = some r) (vl vh : Option Value)
    (hl : match vl with | none => l = 0 | some v => ∃ k, v = .int k l) (hh : match vh with | none => h = xs.length | some v => ∃ k, v = .int k h) :
    (Instr.sliceAt t (slcV A xs.length) vl vh none).run P w = .ok (slcV (A.cut l.toNat m) r.length) w := by
  obtain ⟨hb, rfl⟩ := sliceL_parts hr
  obtain ⟨inf, hi, hm⟩ := Option.map_eq_some_iff.1 hsz
  subst hm
  have hc := hp.2
  have hlen : ((xs.drop l.toNat).take (h.toNat - l.toNat)).length = h.toNat - l.toNat := by rw [List.length_take, List.length_drop]; omega
  have e1 : (match vh with | some v => Instr.sliceBound v A.c .sliceAcap | none => pure xs.length).run P w = .ok h.toNat w := by
    cases vh with
    | none => subst hh; simp
    | some v => obtain ⟨k, rfl⟩ := hh; exact sliceBound_run ⟨by omega, by omega⟩
  have e2 : (match vl with | some v => Instr.sliceBound v h.toNat .sliceB | none => pure 0).run P w = .ok l.toNat w := by
    cases vl with
    | none => subst hl; simp
    | some v => obtain ⟨k, rfl⟩ := hl; exact sliceBound_run ⟨hb.1, by omega⟩
  have hbounds : (Instr.sliceBounds true xs.length A.c vl vh none).run P w = .ok (l.toNat, h.toNat, A.c) w := by
    unfold Instr.sliceBounds
    cases vh <;> cases vl <;> simp_all [Sem.run_bind]
  have haddr : (if A.c = l.toNat then A.addr else A.addr.map (·.add (l.toNat * inf.size))) = (A.cut l.toNat inf.size).addr := by
    unfold SkL.addr SkL.cut
    by_cases hcl : A.c = l.toNat
    · rw [if_pos hcl, if_pos hcl, if_pos hcl]
    · rw [if_neg hcl, if_neg hcl, if_neg hcl]
      cases A.a with
      | none => rfl
      | some p => simp [addr_add]
  unfold Instr.sliceAt
  rw [Sem.run_bindE (und ht)]
  simp only
  unfold Instr.slice
  rw [Sem.run_bindE (und ht)]
  simp only
  rw [Sem.run_bindE hbounds]
  simp only
  rw [Sem.run_bindE (sizeOf_run hi)]
  simp only [Sem.run_pure, hlen, haddr]
  rfl

theorem run_sliceRow_hi {α σ : Type} {A : SkL σ} {xs r : List α} {kh : IntKind} {h : Int} {e m : Nat} (ht : P.underlying t = some (.slice e)) (hsz : (P.info? e).map (·.size) = some m) (hp : (A.a = none → xs = []) ∧ xs.length ≤ A.c) (hr : sliceL xs 0 h = some r) (hx : ρ x = slcV A xs.length) (hh : ρ hi = .int kh h) :
    (execOp ρ ⟨dst, .slice t x none (some hi) none, ty, pos, af, g⟩).run P w = .ok (.value (slcV (A.cut 0 m) r.length)) w := by
  have := run_slice_core (P := P) (w := w) ht hsz hp hr none (some (.int kh h)) rfl ⟨kh, rfl⟩
  simp only [execOp, hx, hh, Option.map_some, Option.map_none]
  rw [Sem.run_bindE this]; rfl
end

/-! ### Elements, by the fact alone -/
abbrev ptrV {σ : Type} (A : SkL σ) (k : Nat) : Value := .pointer (match A.a with
  | none => none
  | some p => some ⟨p.1, p.2 + k, none⟩)

theorem row_at {α σ : Type} {m : Nat} {f : α → σ → List Value} {K : α → σ → Pr} {A : SkL σ} {xs : List α} {i : Int} {r : α} {w : World} (hR : RowP m f K A xs w) (h : getL xs.length xs i = some r) : ∃ b o, A.a = some (b, o) := ptr_of hR.ptr h
theorem ptrV_of {σ : Type} {A : SkL σ} {b o : Nat} (hA : A.a = some (b, o)) (k : Nat) : ptrV A k = .pointer (some ⟨b, o + k, none⟩) := by simp [ptrV, hA]

section
variable {P : Program} {ρ : Operand → Value} {w : World} {dst : Option Tmp} {ty : TypeId} {pos : String} {af : Array Edge} {g : Option (Nat × Bool)} {t : TypeId} {x y lo hi : Operand} {α σ : Type} {m : Nat} {f : α → σ → List Value} {K : α → σ → Pr} {A : SkL σ} {xs r' : List α} {i : Int} {r : α} {k kl kh : IntKind} {e : TypeId}
theorem run_indexRowF (ht : P.underlying t = some (.slice e)) (hi : (P.info? e).map (·.size) = some m) (h : getL xs.length xs i = some r) (hx : ρ x = slcV A xs.length) (hy : ρ y = .int k i) (hR : RowP m f K A xs w) :
    (execOp ρ ⟨dst, .indexAddr t x y, ty, pos, af, g⟩).run P w = .ok (.value (ptrV A (i.toNat * m))) w := by
  obtain ⟨b, o, hA⟩ := row_at hR h
  rw [ptrV_of hA]
  exact run_indexRow ht hi hA hx hy (getL_parts h).1
theorem run_fieldRowF {s : TypeId} {j n n' : Nat} (h : getL xs.length xs i = some r) (hp : ρ x = ptrV A n) (hf : ∀ b o, (Instr.fieldAt s (.pointer (some ⟨b, o + n, none⟩)) j).run P w = .ok (.pointer (some ⟨b, o + n', none⟩)) w) (hR : RowP m f K A xs w) :
    (execOp ρ ⟨dst, .fieldAddr s x j, ty, pos, af, g⟩).run P w = .ok (.value (ptrV A n')) w := by
  obtain ⟨b, o, hA⟩ := row_at hR h
  rw [ptrV_of hA] at hp ⊢
  simp only [execOp, hp]
  rw [Sem.run_bindE (hf b o)]
  rfl
theorem run_loadRowF {j : Nat} {v : Value} (h : getL xs.length xs i = some r) (hagg : ∀ w, (isAgg t).run P w = .ok false w) (hp : ρ x = ptrV A (i.toNat * m + j)) (hv : (f r (A.s i.toNat))[j]? = some v) (hR : RowP m f K A xs w) :
    (execOp ρ ⟨dst, .load t x, ty, pos, af, g⟩).run P w = .ok (.value v) w := by
  obtain ⟨b, o, hA⟩ := row_at hR h
  rw [ptrV_of hA, ← Nat.add_assoc] at hp
  exact run_loadRow hA h hagg hp hv hR
theorem run_loadRowFA {j n : Nat} {vs : List Value} (h : getL xs.length xs i = some r) (hagg : ∀ w, (isAgg t).run P w = .ok true w) (hsz : (P.info? t).map (·.size) = some n) (hp : ρ x = ptrV A (i.toNat * m + j)) (hv : ((f r (A.s i.toNat)).drop j).take n = vs) (hl : vs.length = n) (hR : RowP m f K A xs w) :
    (execOp ρ ⟨dst, .load t x, ty, pos, af, g⟩).run P w = .ok (.value (.agg vs.toArray)) w := by
  obtain ⟨b, o, hA⟩ := row_at hR h
  rw [ptrV_of hA, ← Nat.add_assoc] at hp
  exact run_loadRowA hA h hagg hsz hp hv hl hR
end
end Eng

/- THE ENGINE, part 11: rows that grow. -/
namespace Eng
open Go
set_option linter.unusedVariables false
set_option linter.unusedSimpArgs false

/-- A row of ours, as append makes it. -/
def OwnR {α σ : Type} (m e : Nat) (f : α → σ → List Value) (A : SkL σ) (xs : List α) : Pr := fun w => A.z = none ∧ w.ownsRow 0 e m (slcV A xs.length) xs.length (flatS f A.s 0 xs)
/-- What lies inside its elements. -/
abbrev GIn {α σ : Type} (K : α → σ → Pr) (A : SkL σ) (xs : List α) : Pr := fun w => InK K A.s 0 xs w

/-! ### What is ours beside the blocks, in another order -/
theorem GS.split {w : World} : ∀ {Fs : List (List Nat)} {G1 G2 : List Pr}, GS Fs (G1 ++ G2) w → ∃ F1 F2, Fs = F1 ++ F2 ∧ GS F1 G1 w ∧ GS F2 G2 w
  | Fs, [], G2, h => ⟨[], Fs, rfl, trivial, h⟩
  | [], _ :: _, _, h => h.elim
  | F :: Fs, g :: G1, G2, h => by
    obtain ⟨F1, F2, rfl, h1, h2⟩ := GS.split (G1 := G1) h.2
    exact ⟨F :: F1, F2, rfl, ⟨h.1, h1⟩, h2⟩
theorem GS.perm {w : World} {G G' : List Pr} (hp : G.Perm G') : ∀ {Fs : List (List Nat)}, GS Fs G w → ∃ Fs', Fs.Perm Fs' ∧ GS Fs' G' w := by
  induction hp with
  | nil => intro Fs h; exact ⟨Fs, .refl _, h⟩
  | cons g hp ih =>
    intro Fs h
    cases Fs with
    | nil => exact h.elim
    | cons F Fs =>
      obtain ⟨Fs', h1, h2⟩ := ih h.2
      exact ⟨F :: Fs', h1.cons F, h.1, h2⟩
  | swap g g' l =>
    intro Fs h
    match Fs, h with
    | F :: F' :: Fs, h => exact ⟨F' :: F :: Fs, .swap .., h.2.1, h.1, h.2.2⟩
    | [_], h => exact h.2.elim
    | [], h => exact h.elim
  | trans h1 h2 ih1 ih2 =>
    intro Fs h
    obtain ⟨F1, p1, g1⟩ := ih1 h
    obtain ⟨F2, p2, g2⟩ := ih2 g1
    exact ⟨F2, p1.trans p2, g2⟩

theorem perm_flatten {a b : List (List Nat)} (h : a.Perm b) : a.flatten.Perm b.flatten := by
  induction h with
  | nil => exact .refl _
  | cons x _ ih => simp only [List.flatten_cons]; exact ih.append_left x
  | swap x y l => simp only [List.flatten_cons, ← List.append_assoc]; exact List.perm_append_comm.append_right _
  | trans _ _ h1 h2 => exact h1.trans h2

theorem Sat.permG {w0 w : World} {T : Zone} {H : Heap} {G G' Φ : List Pr} (h : Sat w0 T H G Φ w) (hp : G.Perm G') : Sat w0 T H G' Φ w := by
  obtain ⟨Fs, o⟩ := h.own
  obtain ⟨Fs', h1, h2⟩ := o.g.perm hp
  have hf : (keys H ++ Fs.flatten).Perm (keys H ++ Fs'.flatten) := (perm_flatten h1).append_left _
  exact ⟨h.os, h.tape, h.output, h.size, h.frame, Fs', hf.nodup_iff.1 o.nd, fun k hk => o.mine k (hf.mem_iff.2 hk), o.has, h2, fun φ hφ => by
    obtain ⟨F, a, b, c⟩ := o.ro φ hφ
    exact ⟨F, a, fun k hk hk' => b k hk (hf.mem_iff.2 hk'), c⟩⟩

theorem Sat.dropG {w0 w : World} {T : Zone} {H : Heap} {G1 G2 Φ : List Pr} (h : Sat w0 T H (G1 ++ G2) Φ w) : Sat w0 T H G1 Φ w := by
  obtain ⟨Fs, o⟩ := h.own
  obtain ⟨F1, F2, rfl, h1, _⟩ := GS.split o.g
  have hs : (keys H ++ F1.flatten).Sublist (keys H ++ (F1 ++ F2).flatten) := by
    rw [List.flatten_append, ← List.append_assoc]
    exact List.sublist_append_left _ _
  exact ⟨h.os, h.tape, h.output, h.size, h.frame, F1, o.nd.sublist hs, fun k hk => o.mine k (hs.mem hk), o.has, h1, fun φ hφ => by
    obtain ⟨F, a, b, c⟩ := o.ro φ hφ
    exact ⟨F, a, fun k hk hk' => b k hk (hs.mem hk'), c⟩⟩

theorem fm_map {α β : Type} {f : α → Option β} {g : α → β} : ∀ (l : List α), (∀ i ∈ l, f i = some (g i)) → l.filterMap f = l.map g
  | [], _ => rfl
  | a :: l, h => by rw [List.filterMap_cons, h a (List.mem_cons_self ..), List.map_cons, fm_map l fun i hi => h i (List.mem_cons_of_mem _ hi)]
theorem pickL_range (G : List Pr) : (List.range G.length).filterMap (fun i => G[i]?) = G := by
  rw [fm_map (g := fun i => G.getD i (fun _ => True)) _ fun i hi => by
    have := List.mem_range.1 hi
    simp [List.getD, List.getElem?_eq_getElem this]]
  apply List.ext_getElem?
  intro i
  rcases Nat.lt_or_ge i G.length with h | h
  · simp [h, List.getD]
  · rw [List.getElem?_eq_none h, List.getElem?_eq_none (by simpa using h)]
theorem perm_at {α : Type _} : ∀ {G : List α} {i : Nat} {x : α}, G[i]? = some x → G.Perm (x :: G.eraseIdx i)
  | [], i, x, h => by simp at h
  | y :: G, 0, x, h => by
    simp only [List.getElem?_cons_zero, Option.some.injEq] at h
    subst h
    exact .refl _
  | y :: G, i + 1, x, h => by
    simp only [List.getElem?_cons_succ] at h
    rw [List.eraseIdx_cons_succ]
    exact ((perm_at h).cons y).trans (.swap ..)
theorem pickL_append (a b : List Nat) (G : List Pr) : pickL (a ++ b) G = pickL a G ++ pickL b G := by simp [pickL]

/-- Of what is ours beside the blocks only these, in this order. -/
theorem Sat.pickG {w0 w : World} {T : Zone} {H : Heap} {G G' Φ : List Pr} (h : Sat w0 T H G Φ w) (is js : List Nat) (n : Nat) (hn : G.length = n) (hp : (is ++ js).isPerm (List.range n) = true) (e : pickL is G = G') : Sat w0 T H G' Φ w := by
  subst e
  subst hn
  have h1 : G.Perm (pickL is G ++ pickL js G) := by
    rw [← pickL_append]
    have := (List.isPerm_iff.1 hp).filterMap fun i => G[i]?
    rw [pickL_range] at this
    exact this.symm
  exact (h.permG h1).dropG

/-! ### Beginnings -/
theorem Sat.growNil {w0 w : World} {T : Zone} {H : Heap} {G Φ : List Pr} (h : Sat w0 T H G Φ w) {α σ : Type} (m e : Nat) (f : α → σ → List Value) (s : Nat → σ) : Sat w0 T H (OwnR m e f (SkL.nil s) ([] : List α) :: G) Φ w := by
  obtain ⟨Fs, o⟩ := h.own
  refine ⟨h.os, h.tape, h.output, h.size, h.frame, [] :: Fs, by simpa using o.nd, by simpa using o.mine, o.has, ⟨⟨⟨rfl, World.ownsRow_nil w 0 e m⟩, by simp, fun w' _ => ⟨rfl, World.ownsRow_nil w' 0 e m⟩⟩, o.g⟩, fun φ hφ => ?_⟩
  obtain ⟨F, a, b, c⟩ := o.ro φ hφ
  exact ⟨F, a, by simpa using b, c⟩

theorem Sat.growLit {w0 w : World} {T : Zone} {H : Heap} {G Φ : List Pr} (h : Sat w0 T H G Φ w) {α σ : Type} {m e : Nat} {f : α → σ → List Value} (j : Nat) {b : Nat} {cs : Array Value} (s : Nat → σ) (xs : List α)
    (hj : H[j]? = some (b, .cells cs e (0, 0))) (hf : ∀ x s, (f x s).length = m) (hcs : flatS f s 0 xs = cs.toList) (hm : xs.length ≤ maxLen) : Sat w0 T (H.eraseIdx j) (OwnR m e f (SkL.at b xs.length s) xs :: G) Φ w := by
  obtain ⟨Fs, o⟩ := h.own
  have hp := mem_erase_key hj
  have hkp : (keys H ++ Fs.flatten).Perm (keys (H.eraseIdx j) ++ ([b] :: Fs).flatten) := by
    have h1 := (keys_perm hp).append_right Fs.flatten
    refine h1.trans ?_
    show ((b :: keys (H.eraseIdx j)) ++ Fs.flatten).Perm (keys (H.eraseIdx j) ++ (b :: Fs.flatten))
    rw [List.cons_append]
    exact List.perm_middle.symm
  have hb := o.has (b, .cells cs e (0, 0)) (hp.mem_iff.2 (List.mem_cons_self ..))
  have hbm := o.mine b (hkp.mem_iff.2 (by simp))
  have hlen := flatS_length (s := s) hf xs 0
  have own : ∀ w' : World, w'.heap[b]? = some (.cells cs e (0, 0)) → OwnR m e f (SkL.at b xs.length s) xs w' := fun w' hb' =>
    ⟨rfl, hlen, .inr ⟨b, xs.length, cs, rfl, Nat.zero_le _, hb', Nat.le_refl _, hm, by rw [← Array.length_toList, ← hcs, hlen], by rw [← hcs, ← hlen, List.take_length]⟩⟩
  refine ⟨h.os, h.tape, h.output, h.size, h.frame, [b] :: Fs, hkp.nodup_iff.1 o.nd, fun k hk => o.mine k (hkp.mem_iff.2 hk), fun p hpm => o.has p (hp.mem_iff.2 (List.mem_cons_of_mem _ hpm)), ⟨⟨own w hb, fun k hk => ?_, fun w' hw' => own w' ((hw' b (List.mem_singleton.2 rfl)).trans hb)⟩, o.g⟩, fun φ hφ => ?_⟩
  · obtain rfl := List.mem_singleton.1 hk
    exact hbm.2
  · obtain ⟨F, a1, a2, a3⟩ := o.ro φ hφ
    exact ⟨F, a1, fun k hk hk' => a2 k hk (hkp.mem_iff.2 hk'), a3⟩

/-! ### Ends: a row that nobody writes any more -/
theorem OwnR.row {α σ : Type} {m e : Nat} {f : α → σ → List Value} {K : α → σ → Pr} {A : SkL σ} {xs : List α} {w : World} (h : OwnR m e f A xs w) (hf : ∀ x s, (f x s).length = m) (hin : InK K A.s 0 xs w) : RowP m f K A xs w := by
  obtain ⟨hz, hl, h2⟩ := h
  rcases h2 with ⟨h3, h4⟩ | ⟨g, cap, cur, h3, _, hg, hn, _, hs, ht⟩
  · have : xs = [] := List.eq_nil_of_length_eq_zero h4
    subst this
    refine RowP.empty fun _ => ?_
    simp only [slcV, Value.slice.injEq] at h3
    exact h3.2.2
  · simp only [slcV, Value.slice.injEq, true_and] at h3
    obtain ⟨h5, h6⟩ := h3
    subst h6
    have ha : A.a = some (g, 0) := by
      unfold SkL.addr at h5
      cases hA : A.a with
      | none => rw [hA] at h5; rw [hz] at h5; cases h5
      | some p => rw [hA] at h5; simp only [Option.some.injEq, Addr.mk.injEq, and_true] at h5; rw [← h5.1, ← h5.2]
    obtain ⟨a, c, s, z⟩ := A
    simp only at ha hz
    subst ha
    subst hz
    exact row_of_block hg hf (by rw [← ht]; exact List.take_prefix _ _) hn hin

theorem Sat.growIce {w0 w : World} {T : Zone} {H : Heap} {G Φ : List Pr} {α σ : Type} {m e : Nat} {f : α → σ → List Value} {K : α → σ → Pr} {A : SkL σ} {xs : List α} (h : Sat w0 T H (OwnR m e f A xs :: G) Φ w) (hf : ∀ x s, (f x s).length = m) (hin : GIn K A xs ∈ Φ) :
    Sat w0 T H G (Row m f K A xs :: Φ) w := by
  obtain ⟨Fs, o⟩ := h.own
  cases Fs with
  | nil => exact o.g.elim
  | cons F Fs =>
    obtain ⟨hF, hG⟩ := o.g
    have hsub : (keys H ++ Fs.flatten).Sublist (keys H ++ (F :: Fs).flatten) := by
      rw [List.flatten_cons]
      exact (List.sublist_append_right F Fs.flatten).append_left (keys H)
    have hdis : ∀ k ∈ F, k ∉ keys H ++ Fs.flatten := fun k hk hk' => by
      have hnd := o.nd
      rw [List.flatten_cons] at hnd
      have hp : (keys H ++ (F ++ Fs.flatten)).Perm (F ++ (keys H ++ Fs.flatten)) := by
        rw [← List.append_assoc, ← List.append_assoc]
        exact List.perm_append_comm.append_right _
      exact (List.nodup_append.1 (hp.nodup_iff.1 hnd)).2.2 k hk k hk' rfl
    obtain ⟨F2, l2, n2, a2⟩ := o.ro _ hin
    refine ⟨h.os, h.tape, h.output, h.size, h.frame, Fs, o.nd.sublist hsub, fun k hk => o.mine k (hsub.mem hk), o.has, hG, fun φ hφ => ?_⟩
    rw [List.mem_cons] at hφ
    rcases hφ with rfl | hφ
    · refine ⟨F ++ F2, ⟨hF.now.row hf l2.now, fun k hk => ?_, fun w' hw' => (hF.stays w' fun k hk => hw' k (List.mem_append_left _ hk)).row hf (l2.stays w' fun k hk => hw' k (List.mem_append_right _ hk))⟩, fun k hk => ?_, fun k hk => ?_⟩
      · exact (List.mem_append.1 hk).elim (hF.lt k) (l2.lt k)
      · exact (List.mem_append.1 hk).elim (hdis k) fun hk' hm => n2 k hk' (hsub.mem hm)
      · exact (List.mem_append.1 hk).elim (fun hk' => .inr (o.mine k (by rw [List.flatten_cons]; exact List.mem_append_right _ (List.mem_append_left _ hk'))).1) (a2 k)
    · obtain ⟨F', b1, b2, b3⟩ := o.ro φ hφ
      exact ⟨F', b1, fun k hk hm => b2 k hk (hsub.mem hm), b3⟩

/-! ### Steps -/
theorem ownsRow_free {w : World} {e size n : Nat} {v : Value} {xs : List Value} {g : Nat} (h : w.ownsRow 0 e size v n xs) (hv : v.ownBlock = some g) : ∃ cur, w.heap[g]? = some (.cells cur e (0, 0)) := by
  rcases h.2 with ⟨rfl, _⟩ | ⟨g', cap, cur, rfl, _, hg, _⟩
  · cases hv
  · simp only [Value.ownBlock, Option.some.injEq] at hv
    subst hv
    exact ⟨cur, hg⟩

/-- The footprint of a row has its block. -/
theorem OwnR.mem {α σ : Type} {m e : Nat} {f : α → σ → List Value} {A : SkL σ} {xs : List α} {w : World} {F : List Nat} (h : Loc F (OwnR m e f A xs) w) {g : Nat} (hg : (slcV A xs.length).ownBlock = some g) : g ∈ F := by
  apply Classical.byContradiction
  intro hn
  let w' : World := { w with heap := w.heap.setIfInBounds g (.map #[] 0) }
  have h1 : OwnR m e f A xs w' := h.stays w' fun k hk => by
    have hne : g ≠ k := fun e => hn (e ▸ hk)
    show (w.heap.setIfInBounds g _)[k]? = w.heap[k]?
    rw [Array.getElem?_setIfInBounds_ne hne]
  obtain ⟨cur, h2⟩ := ownsRow_free h1.2 hg
  obtain ⟨cur', h3⟩ := ownsRow_free h.now.2 hg
  have hlt : g < w.heap.size := (Array.getElem?_eq_some_iff.1 h3).1
  have h4 : w'.heap[g]? = some (.map #[] 0) := by
    show (w.heap.setIfInBounds g _)[g]? = _
    rw [Array.getElem?_setIfInBounds_self_of_lt hlt]
  rw [h4] at h2
  cases h2

theorem Sat.growStep {w0 w w' : World} {T : Zone} {H : Heap} {G Φ : List Pr} {α σ : Type} {m e : Nat} {f : α → σ → List Value} {A A' : SkL σ} {xs xs' : List α} (h : Sat w0 T H (OwnR m e f A xs :: G) Φ w)
    (hz : A'.z = none) (hown : w'.ownsRow 0 e m (slcV A' xs'.length) xs'.length (flatS f A'.s 0 xs')) (hg : w.grownBy w' (slcV A xs.length).ownBlock)
    (hb : (slcV A' xs'.length).ownBlock = (slcV A xs.length).ownBlock ∨ ∃ g, (slcV A' xs'.length).ownBlock = some g ∧ w.heap.size ≤ g) : Sat w0 T H (OwnR m e f A' xs' :: G) Φ w' := by
  obtain ⟨Fs, o⟩ := h.own
  cases Fs with
  | nil => exact o.g.elim
  | cons F Fs =>
    obtain ⟨hF, hG⟩ := o.g
    have hnd := o.nd
    rw [List.flatten_cons] at hnd
    have hp : (keys H ++ (F ++ Fs.flatten)).Perm (F ++ (keys H ++ Fs.flatten)) := by
      rw [← List.append_assoc, ← List.append_assoc]
      exact List.perm_append_comm.append_right _
    have hnd2 := List.nodup_append.1 (hp.nodup_iff.1 hnd)
    have hmine : ∀ k ∈ keys H ++ Fs.flatten, (k ∈ T.t ∨ w0.heap.size ≤ k) ∧ k < w.heap.size := fun k hk => o.mine k (by rw [List.flatten_cons]; exact hp.mem_iff.2 (List.mem_append_right _ hk))
    -- what is no part of the row is as it was
    have keep : ∀ k, k < w.heap.size → k ∉ F → w'.heap[k]? = w.heap[k]? := fun k hk hn => hg.block k hk fun e => hn (OwnR.mem hF e.symm)
    let F' : List Nat := (slcV A' xs'.length).ownBlock.toList
    have hF' : ∀ k ∈ F', (slcV A' xs'.length).ownBlock = some k := fun k hk => by simpa [F'] using hk
    have lt' : ∀ k ∈ F', k < w'.heap.size := fun k hk => by
      obtain ⟨cur, h1⟩ := ownsRow_free hown (hF' k hk)
      exact (Array.getElem?_eq_some_iff.1 h1).1
    have in' : ∀ k ∈ F', k ∈ F ∨ w.heap.size ≤ k := fun k hk => by
      have h1 := hF' k hk
      rcases hb with h2 | ⟨g, h2, h3⟩
      · exact .inl (OwnR.mem hF (h2 ▸ h1))
      · rw [h1] at h2
        cases h2
        exact .inr h3
    have hnf : ∀ k ∈ keys H ++ Fs.flatten, k ∉ F := fun k hk hk' => hnd2.2.2 k hk' k hk rfl
    have nd' : (F' ++ (keys H ++ Fs.flatten)).Nodup := by
      rw [List.nodup_append]
      refine ⟨?_, hnd2.2.1, fun a ha b hb' e => ?_⟩
      · show ((slcV A' xs'.length).ownBlock.toList).Nodup
        cases (slcV A' xs'.length).ownBlock <;> simp
      · subst e
        rcases in' a ha with h1 | h1
        · exact hnf a hb' h1
        · have := (hmine a hb').2; omega
    refine ⟨hg.os.trans h.os, hg.tape.trans h.tape, hg.output.trans h.output, Nat.le_trans h.size hg.size, fun k hk hT => ?_, F' :: Fs, ?_, fun k hk => ?_, fun p hpm => ?_, ⟨⟨⟨hz, hown⟩, lt', fun w2 hw2 => ⟨hz, hown.1, ?_⟩⟩, ?_⟩, fun φ hφ => ?_⟩
    · have hk' : k < w.heap.size := Nat.lt_of_lt_of_le hk h.size
      rw [keep k hk' fun hm => ?_]
      · exact h.frame k hk hT
      · have := (o.mine k (by rw [List.flatten_cons]; exact List.mem_append_right _ (List.mem_append_left _ hm))).1
        rcases this with h1 | h1
        · exact hT h1
        · omega
    · rw [List.flatten_cons]
      have hp' : (keys H ++ (F' ++ Fs.flatten)).Perm (F' ++ (keys H ++ Fs.flatten)) := by
        rw [← List.append_assoc, ← List.append_assoc]
        exact List.perm_append_comm.append_right _
      exact hp'.nodup_iff.2 nd'
    · rw [List.flatten_cons, List.mem_append, List.mem_append] at hk
      rcases hk with hk | hk | hk
      · have := hmine k (List.mem_append_left _ hk)
        exact ⟨this.1, Nat.lt_of_lt_of_le this.2 hg.size⟩
      · refine ⟨?_, lt' k hk⟩
        rcases in' k hk with h1 | h1
        · exact (o.mine k (by rw [List.flatten_cons]; exact List.mem_append_right _ (List.mem_append_left _ h1))).1
        · exact .inr (Nat.le_trans h.size h1)
      · have := hmine k (List.mem_append_right _ hk)
        exact ⟨this.1, Nat.lt_of_lt_of_le this.2 hg.size⟩
    · have hm : p.1 ∈ keys H := by rw [keys, List.mem_map]; exact ⟨p, hpm, rfl⟩
      rw [keep p.1 (hmine p.1 (List.mem_append_left _ hm)).2 (hnf p.1 (List.mem_append_left _ hm))]
      exact o.has p hpm
    · rcases hown.2 with h1 | ⟨g, cap, cur, h1, h2, h3, h4⟩
      · exact .inl h1
      · refine .inr ⟨g, cap, cur, h1, h2, ?_, h4⟩
        rw [hw2 g (by show g ∈ (slcV A' xs'.length).ownBlock.toList; rw [h1]; simp [Value.ownBlock])]
        exact h3
    · exact hG.mono hg.size fun k hk => keep k (hmine k (List.mem_append_right _ hk)).2 (hnf k (List.mem_append_right _ hk))
    · obtain ⟨Fr, b1, b2, b3⟩ := o.ro φ hφ
      refine ⟨Fr, b1.mono hg.size fun k hk => keep k (b1.lt k hk) fun hm => b2 k hk (by rw [List.flatten_cons]; exact List.mem_append_right _ (List.mem_append_left _ hm)), fun k hk hm => ?_, b3⟩
      rw [List.flatten_cons, List.mem_append, List.mem_append] at hm
      rcases hm with hm | hm | hm
      · exact b2 k hk (List.mem_append_left _ hm)
      · rcases in' k hm with h1 | h1
        · exact b2 k hk (by rw [List.flatten_cons]; exact List.mem_append_right _ (List.mem_append_left _ h1))
        · have := b1.lt k hk; omega
      · exact b2 k hk (by rw [List.flatten_cons]; exact List.mem_append_right _ (List.mem_append_right _ hm))

/-! ### append -/
def joinS {σ : Type} (n : Nat) (s t : Nat → σ) : Nat → σ := fun i => if i < n then s i else t (i - n)
theorem flatS_joinS {α σ : Type} (f : α → σ → List Value) (s t : Nat → σ) (xs ys : List α) : flatS f (joinS xs.length s t) 0 (xs ++ ys) = flatS f s 0 xs ++ flatS f t 0 ys := by
  rw [flatS_append, Nat.zero_add]
  congr 1
  · exact flatS_congr xs 0 0 fun i hi => by simp [joinS, hi]
  · refine flatS_congr ys xs.length 0 fun i hi => ?_
    show (if xs.length + i < xs.length then s (xs.length + i) else t (xs.length + i - xs.length)) = t (0 + i)
    rw [if_neg (by omega), Nat.add_sub_cancel_left, Nat.zero_add]
theorem InK.joinS {α σ : Type} {K : α → σ → Pr} {s t : Nat → σ} {xs ys : List α} {w : World} (h : InK K s 0 xs w) (h' : InK K t 0 ys w) : InK K (joinS xs.length s t) 0 (xs ++ ys) w := by
  refine InK.of fun i x hx => ?_
  rw [Nat.zero_add]
  by_cases hi : i < xs.length
  · rw [List.getElem?_append_left hi] at hx
    have := h.get hx
    rw [Nat.zero_add] at this
    simpa [Eng.joinS, hi] using this
  · rw [List.getElem?_append_right (by omega)] at hx
    have := h'.get hx
    rw [Nat.zero_add] at this
    simpa [Eng.joinS, hi] using this

/-- The cells of a row that is known. -/
theorem RowP.flat {α σ : Type} {m : Nat} {f : α → σ → List Value} {K : α → σ → Pr} {B : SkL σ} {ys : List α} {w : World} (hR : RowP m f K B ys w) (hf : ∀ x s, (f x s).length = m) {b o' : Nat} (hBa : B.a = some (b, o')) :
    ∀ j v, (flatS f B.s 0 ys)[j]? = some v → w.cell? ((⟨b, o', none⟩ : Addr).add j) = some v := fun j v hv => by
  have hlen := flatS_length (s := B.s) hf ys 0
  have hj : j < ys.length * m := by
    rcases Nat.lt_or_ge j (ys.length * m) with h1 | h1
    · exact h1
    · rw [List.getElem?_eq_none (by omega)] at hv; cases hv
  have hm : 0 < m := by
    rcases Nat.eq_zero_or_pos m with h0 | h0
    · rw [h0, Nat.mul_zero] at hj; omega
    · exact h0
  have hq' : j / m < ys.length := Nat.div_lt_of_lt_mul (by rw [Nat.mul_comm]; exact hj)
  have hr' : j % m < m := Nat.mod_lt _ hm
  have hd' : j / m * m + j % m = j := by rw [Nat.mul_comm]; exact Nat.div_add_mod _ _
  have hx' : ys[j / m]? = some ys[j / m] := List.getElem?_eq_getElem hq'
  have hlt : j % m < (f ys[j / m] (B.s (j / m))).length := by rw [hf]; exact hr'
  have h2 := flatS_get (n := 0) hf hx' (j := j % m) (v := (f ys[j / m] (B.s (j / m)))[j % m]) (by rw [Nat.zero_add]; exact List.getElem?_eq_getElem hlt)
  rw [hd', hv] at h2
  have h3 := hR.cells b o' hBa _ _ hx' (j % m) _ (List.getElem?_eq_getElem hlt)
  rw [addr_add, Option.some.inj h2]
  rwa [show o' + j / m * m + j % m = o' + j by omega] at h3

theorem flatS_all {α σ : Type} {f : α → σ → List Value} {s : Nat → σ} {p : Value → Bool} (h : ∀ x s, (f x s).all p = true) : ∀ (xs : List α) (n : Nat), ∀ u ∈ flatS f s n xs, p u = true
  | [], _, u, hu => by cases hu
  | x :: r, n, u, hu => by
    rw [flatS, List.mem_append] at hu
    exact hu.elim (fun hu => List.all_eq_true.1 (h x (s n)) u hu) (flatS_all h r (n + 1) u)

section
variable {P : Program} {N : Nat} {ops : Array Oper} {Q : Exit → Act → World → Prop} {o : Oper} {l : List Oper} {L : Env} {w0 : World} {T : Zone} {H : Heap} {G Φ : List Pr} {α σ : Type}

theorem run_append_none {w : World} {t ty e : Nat} {inf : TypeInfo} {A B : SkL σ} {n : Nat} (ht : P.underlying t = some (.slice e)) (hi : P.info? e = some inf) (hn : n ≤ A.c) :
    (Builtin.append_ #[t, t] ty #[slcV A n, slcV B 0]).run P w = .ok (slcV A n) w := by
  have hfc : (Builtin.firstCells inf.size 0 (slcV B 0)).run P w = .ok #[] w := by
    unfold slcV
    cases B.addr <;> simp [Builtin.firstCells, loadCells, loadCellsFrom]
  have hB : Builtin.lenOf (slcV B 0) = pure 0 := rfl
  simp only [Builtin.append_, List.getElem?_toArray, List.getElem?_cons_zero, List.getElem?_cons_succ]
  simp only [Sem.run_bind, run_underlying ht, Result.andThen_ok, Go.sizeOf, typeInfo, hi, Sem.run_pure, hB]
  unfold slcV
  cases A.addr <;> simp [run_underlying ht, hi, hfc, storeCells, hn]

/-- A row of ours, longer. -/
theorem run_append_row {w : World} {t ty e m by_ : Nat} {inf : TypeInfo} {z : Value} {f : α → σ → List Value} {K : α → σ → Pr} {A B : SkL σ} {xs ys : List α} (ht : P.underlying t = some (.slice e)) (hi : P.info? e = some inf) (hz : inf.zero = some z) (hsz : inf.size = m) (hby : inf.bytes = by_)
    (hzs : z.cells.size = m) (hm : 0 < m) (hf : ∀ x s, (f x s).length = m) (h1 : ∀ x s, (f x s).all Value.oneCell' = true) (hA : OwnR m e f A xs w) (hR : RowP m f K B ys w) {u : Unit} (hroom : roomL by_ (xs ++ ys).length = some u) :
    ∃ (A' : SkL σ) (w' : World), (Builtin.append_ #[t, t] ty #[slcV A xs.length, slcV B ys.length]).run P w = .ok (slcV A' (xs ++ ys).length) w' ∧ A'.z = none ∧ A'.s = joinS xs.length A.s B.s ∧
      w'.ownsRow 0 e m (slcV A' (xs ++ ys).length) (xs ++ ys).length (flatS f A'.s 0 (xs ++ ys)) ∧ w.grownBy w' (slcV A xs.length).ownBlock ∧
      ((slcV A' (xs ++ ys).length).ownBlock = (slcV A xs.length).ownBlock ∨ ∃ g, (slcV A' (xs ++ ys).length).ownBlock = some g ∧ w.heap.size ≤ g) := by
  obtain ⟨hAz, hown⟩ := hA
  obtain ⟨hr1, hr2⟩ := roomL_parts hroom
  rw [List.length_append] at hr1 hr2
  have hflat : ∀ s, flatS f (joinS xs.length A.s s) 0 (xs ++ ys) = flatS f A.s 0 xs ++ flatS f s 0 ys := fun s => flatS_joinS f A.s s xs ys
  have lx := flatS_length (s := A.s) hf xs 0
  have ly := flatS_length (s := B.s) hf ys 0
  -- a row told by its value gives the slice's parts
  have conv : ∀ (w' : World) (v' : Value) (bs : Nat), w'.ownsRow bs e m v' (xs.length + ys.length) (flatS f A.s 0 xs ++ flatS f B.s 0 ys) → ∃ A' : SkL σ, v' = slcV A' (xs ++ ys).length ∧ A'.z = none ∧ A'.s = joinS xs.length A.s B.s ∧ w'.ownsRow 0 e m (slcV A' (xs ++ ys).length) (xs ++ ys).length (flatS f A'.s 0 (xs ++ ys)) := fun w' v' bs ho => by
    obtain ⟨hl, h2⟩ := ho
    rcases h2 with ⟨rfl, h3⟩ | ⟨g, cap, cur, rfl, _, hg, rest⟩
    · have hx : xs = [] := List.eq_nil_of_length_eq_zero (by omega)
      have hy : ys = [] := List.eq_nil_of_length_eq_zero (by omega)
      subst hx; subst hy
      exact ⟨⟨none, 0, joinS 0 A.s B.s, none⟩, rfl, rfl, rfl, World.ownsRow_nil w' 0 e m⟩
    · refine ⟨⟨some (g, 0), cap, joinS xs.length A.s B.s, none⟩, by rw [List.length_append]; rfl, rfl, rfl, ?_⟩
      rw [hflat, List.length_append]
      exact ⟨hl, .inr ⟨g, cap, cur, rfl, Nat.zero_le _, hg, rest⟩⟩
  by_cases hys : ys = []
  · subst hys
    have hc : xs.length ≤ A.c := by
      rcases hown.2 with ⟨h3, h4⟩ | ⟨g, cap, cur, h3, _, _, h5, _⟩
      · omega
      · simp only [slcV, Value.slice.injEq, true_and] at h3
        rw [h3.2]; exact h5
    obtain ⟨A', e1, e2, e3, e4⟩ := conv w (slcV A xs.length) 0 (by simpa [flatS] using hown)
    exact ⟨A', w, (run_append_none ht hi hc).trans (by rw [← e1]), e2, e3, e4, ⟨rfl, rfl, rfl, Nat.le_refl _, fun _ _ _ => rfl⟩, .inl (by rw [← e1])⟩
  have hne : 0 < ys.length := by
    cases ys with
    | nil => exact absurd rfl hys
    | cons => simp
  obtain ⟨b, o', hBa⟩ : ∃ b o', B.a = some (b, o') := by
    cases hb : B.a with
    | none => rw [(hR.nil hb).1] at hne; simp at hne
    | some p => exact ⟨p.1, p.2, rfl⟩
  have hBs : slcV B ys.length = .slice (some ⟨b, o', none⟩) ys.length B.c := by unfold slcV; rw [addr_of hBa]
  have hnews := hR.flat hf hBa
  have hmax : xs.length + ys.length ≤ maxLen := by simp only [maxLen]; omega
  rw [hBs]
  subst hsz
  subst hby
  rcases hown.2 with ⟨h3, h4⟩ | ⟨g, cap, cur, h3, _, hg, hnc, hcm, hcs, htake⟩
  · have hx : xs = [] := List.eq_nil_of_length_eq_zero h4
    subst hx
    simp only [List.length_nil, Nat.zero_add] at hr1 hr2 h3 hmax
    have hr := run_append_nil (P := P) w t ty e inf z ht hi hz ⟨b, o', none⟩ ys.length B.c (flatS f B.s 0 ys) ly hnews hne (by omega) (by omega)
    obtain ⟨A', e1, e2, e3, e4⟩ := conv (w.drew.alloc (.cells ((flatS f B.s 0 ys).toArray ++ Builtin.zeroCells z.cells (grownCap w ys.length 0 e - ys.length)) e)) (.slice (some ⟨w.heap.size, 0, none⟩) ys.length (grownCap w ys.length 0 e)) 0
      ⟨by simp [flatS, ly], .inr ⟨w.heap.size, grownCap w ys.length 0 e, _, by simp, Nat.zero_le _, heap_alloc_new w.drew _, by simpa using grownCap_ge w ys.length 0 e, grownCap_le_maxLen w ys.length 0 e hmax, by
        have := grownCap_ge w ys.length 0 e
        simp only [Array.size_append, List.size_toArray, size_zeroCells, hzs, ly, ← Nat.add_mul]
        congr 1; omega, by
        simp only [Array.toList_append, List.length_nil, Nat.zero_add, ← ly, flatS, List.nil_append]
        exact List.take_left⟩⟩
    refine ⟨A', _, ?_, e2, e3, e4, ⟨rfl, rfl, rfl, by simp, fun k hk _ => heap_alloc_old w.drew _ hk⟩, .inr ⟨w.heap.size, by rw [← e1]; rfl, Nat.le_refl _⟩⟩
    show (Builtin.append_ #[t, t] ty #[slcV A 0, _]).run P w = _
    rw [h3, hr, e1]
  · have hs : slcV A xs.length = .slice (some ⟨g, 0, none⟩) xs.length cap := h3
    by_cases hfit : xs.length + ys.length ≤ cap
    · have hsize : xs.length * inf.size + (flatS f B.s 0 ys).length ≤ cur.size := by rw [ly, hcs, ← Nat.add_mul]; exact Nat.mul_le_mul_right _ hfit
      have hr := run_append_room (P := P) w t ty e inf ht hi g xs.length cap cur hg ⟨b, o', none⟩ ys.length B.c (flatS f B.s 0 ys) ly hnews (flatS_all h1 ys 0) hfit hsize
      obtain ⟨A', e1, e2, e3, e4⟩ := conv (w.setRow g (cur.toList.take (xs.length * inf.size) ++ flatS f B.s 0 ys ++ cur.toList.drop (xs.length * inf.size + (flatS f B.s 0 ys).length)).toArray) (.slice (some ⟨g, 0, none⟩) (xs.length + ys.length) cap) 0
        ⟨by rw [List.length_append, lx, ly, Nat.add_mul], .inr ⟨g, cap, _, rfl, Nat.zero_le _, setRow_heap w g cur _ e _ hg, hfit, hcm, by
          simp only [List.size_toArray, List.length_append, List.length_take, List.length_drop, Array.length_toList]
          omega, by
          show ((cur.toList.take (xs.length * inf.size) ++ flatS f B.s 0 ys) ++ _).take _ = _
          rw [htake]
          have : (xs.length + ys.length) * inf.size = (flatS f A.s 0 xs ++ flatS f B.s 0 ys).length := by rw [List.length_append, lx, ly, Nat.add_mul]
          rw [this]
          exact List.take_left⟩⟩
      refine ⟨A', _, ?_, e2, e3, e4, ?_, .inl (by rw [← e1, hs]; rfl)⟩
      · rw [hs, hr, e1]
      · rw [hs]
        exact ⟨rfl, rfl, rfl, by simp, fun k _ hk => setRow_other w g k _ (fun e => hk (by simp [Value.ownBlock, e]))⟩
    · have holds : ∀ j u, (flatS f A.s 0 xs)[j]? = some u → w.cell? ((⟨g, 0, none⟩ : Addr).add j) = some u := by
        have := World.ownsRow.cells hown (g := g) (by rw [hs]; rfl)
        exact this
      obtain ⟨v', w', r1, r2, r3⟩ := run_append_arg_grows (P := P) w t ty e inf z inf.size inf.bytes ht hi hz rfl rfl hzs hm ⟨g, 0, none⟩ xs.length cap (flatS f A.s 0 xs) lx holds ⟨b, o', none⟩ ys.length B.c (flatS f B.s 0 ys) ly hnews (by omega) hmax hr1
      obtain ⟨A', e1, e2, e3, e4⟩ := conv w' v' w.heap.size r2
      refine ⟨A', w', ?_, e2, e3, e4, ⟨r3.os, r3.tape, r3.output, r3.size, fun k hk _ => r3.block k hk (by simp)⟩, ?_⟩
      · rw [hs, r1, e1]
      · rcases r2.2 with ⟨_, h5⟩ | ⟨g', cap', cur', h5, h6, _⟩
        · omega
        · exact .inr ⟨g', by rw [← e1, h5]; rfl, h6⟩

theorem WL.growApp {m by_ e : Nat} {z : Value} {f : α → σ → List Value} {K : α → σ → Pr} {A B : SkL σ} {xs ys : List α} {s x : Operand} {t : TypeId} {d : Nat} (i : Nat) {G' : List Pr} (ho : o.op = .call { callee := .builtin .append, args := #[s, x], argTypes := #[t, t] })
    (hd : o.dst = some d) (hdN : Nat.blt d N = true) (ht : P.underlying t = some (.slice e)) (hi : (P.info? e).map (fun q => (q.zero, q.size, q.bytes)) = some (some z, m, by_)) (hzs : Nat.beq z.cells.size m = true) (hm : Nat.blt 0 m = true) (hf : ∀ x s, (f x s).length = m) (h1 : ∀ x s, (f x s).all Value.oneCell' = true)
    (hk : (o.op.operands.all (known L) && !isSelect o.op) = true) (hs : evalE L s = slcV A xs.length) (hx : evalE L x = slcV B ys.length) (hG : G[i]? = some (OwnR m e f A xs)) (hG' : G.eraseIdx i = G') (hin : GIn K A xs ∈ Φ) (hΦ : Row m f K B ys ∈ Φ)
    {u : Unit} (hroom : roomL by_ (xs ++ ys).length = some u) (hg : wantedE ops L o = some true)
    (h : ∀ A' : SkL σ, WL P N ops Q l ((d, slcV A' (xs ++ ys).length) :: L) (Sat w0 T H (OwnR m e f A' (xs ++ ys) :: G') (GIn K A' (xs ++ ys) :: Φ))) : WL P N ops Q (o :: l) L (Sat w0 T H G Φ) := by
  obtain ⟨inf, hi', hq⟩ := Option.map_eq_some_iff.1 hi
  obtain ⟨hz, hsz, hby⟩ : inf.zero = some z ∧ inf.size = m ∧ inf.bytes = by_ := by simpa using hq
  subst hG'
  refine WL.op (X := SkL σ) (fun A' => slcV A' (xs ++ ys).length) (fun A' => Sat w0 T H (OwnR m e f A' (xs ++ ys) :: G.eraseIdx i) (GIn K A' (xs ++ ys) :: Φ)) (fun A' => (d, slcV A' (xs ++ ys).length) :: L) hg hk (fun w hS => ?_) (fun A' => ?_) h
  · have hperm : G.Perm (OwnR m e f A xs :: G.eraseIdx i) := perm_at hG
    have hS1 := hS.permG hperm
    obtain ⟨Fs, ow⟩ := hS1.own
    have hA : OwnR m e f A xs w := by
      cases Fs with
      | nil => exact ow.g.elim
      | cons F Fs => exact ow.g.1.now
    have hR := hS.fact hΦ
    obtain ⟨A', w', r1, r2, r3, r4, r5, r6⟩ := run_append_row (P := P) (ty := o.type) ht hi' hz hsz hby (Nat.eq_of_beq_eq_true hzs) (Nat.le_of_ble_eq_true hm) hf h1 hA hR hroom
    refine ⟨A', w', run_appendOp ho ?_, ?_⟩
    · rw [hs, hx]; exact r1
    · refine (hS1.growStep r2 r4 r5 r6).derive [GIn K A xs, Row m f K B ys] (fun ψ hψ => ?_) fun w2 hψ => ?_
      · simp only [List.mem_cons, List.not_mem_nil, or_false] at hψ
        rcases hψ with rfl | rfl
        · exact hin
        · exact hΦ
      · have a1 := hψ (GIn K A xs) (List.mem_cons_self ..)
        have a2 := hψ (Row m f K B ys) (List.mem_cons_of_mem _ (List.mem_cons_self ..))
        show InK K A'.s 0 (xs ++ ys) w2
        rw [r3]
        exact InK.joinS a1 (InK.of fun i x hx => by rw [Nat.zero_add]; exact a2.inner i x hx)
  · unfold putE; rw [hd]; simp only [hdN]
end

/-! ### The rules -/
section
variable {P : Program} {fn : Func} {R : Ending → World → Prop} {N : Nat} {k : List KI} {ops : Array Oper} {Q : Exit → Act → World → Prop} {l : List Oper} {L : Env} {w0 : World} {T : Zone} {H H' : Heap} {G G' F F' Γ Φ : List Pr} {α σ : Type}
theorem WP.pickG (is js : List Nat) (n : Nat) (hn : G.length = n) (hp : (is ++ js).isPerm (List.range n) = true) (e : pickL is G = G') (h : WP P fn R N k L (Sat w0 T H G' Φ)) : WP P fn R N k L (Sat w0 T H G Φ) := fun a w hh hS => h a w hh (hS.pickG is js n hn hp e)
theorem WL.pickG (is js : List Nat) (n : Nat) (hn : G.length = n) (hp : (is ++ js).isPerm (List.range n) = true) (e : pickL is G = G') (h : WL P N ops Q l L (Sat w0 T H G' Φ)) : WL P N ops Q l L (Sat w0 T H G Φ) := fun a w hh hS => h a w hh (hS.pickG is js n hn hp e)
theorem WP.growNil (m e : Nat) (f : α → σ → List Value) (K : α → σ → Pr) (s : Nat → σ) (h : WP P fn R N k L (Sat w0 T H (OwnR m e f (SkL.nil s) ([] : List α) :: G) ((GIn K (SkL.nil s) ([] : List α) :: F) ++ Γ))) : WP P fn R N k L (Sat w0 T H G (F ++ Γ)) := fun a w hh hS => h a w hh ((hS.growNil m e f s).derive [] (by simp) fun _ _ => trivial)
theorem WL.growNil (m e : Nat) (f : α → σ → List Value) (K : α → σ → Pr) (s : Nat → σ) (h : WL P N ops Q l L (Sat w0 T H (OwnR m e f (SkL.nil s) ([] : List α) :: G) ((GIn K (SkL.nil s) ([] : List α) :: F) ++ Γ))) : WL P N ops Q l L (Sat w0 T H G (F ++ Γ)) := fun a w hh hS => h a w hh ((hS.growNil m e f s).derive [] (by simp) fun _ _ => trivial)
theorem WP.growLit {m e : Nat} {f : α → σ → List Value} (K : α → σ → Pr) (j : Nat) {b : Nat} {cs : Array Value} (s : Nat → σ) (xs : List α) (hj : H[j]? = some (b, .cells cs e (0, 0))) (hf : ∀ x s, (f x s).length = m) (hcs : flatS f s 0 xs = cs.toList) (hm : xs.length ≤ maxLen)
    (is : List Nat) (Ψ : List Pr) (eΨ : pickL is F = Ψ) (hin : ∀ w : World, (∀ ψ ∈ Ψ, ψ w) → InK K s 0 xs w) (he : H.eraseIdx j = H') (h : WP P fn R N k L (Sat w0 T H' (OwnR m e f (SkL.at b xs.length s) xs :: G) ((GIn K (SkL.at b xs.length s) xs :: F) ++ Γ))) : WP P fn R N k L (Sat w0 T H G (F ++ Γ)) :=
  fun a w hh hS => h a w hh (he ▸ (hS.growLit j s xs hj hf hcs hm).derive Ψ (sub_facts is eΨ) hin)
theorem WL.growLit {m e : Nat} {f : α → σ → List Value} (K : α → σ → Pr) (j : Nat) {b : Nat} {cs : Array Value} (s : Nat → σ) (xs : List α) (hj : H[j]? = some (b, .cells cs e (0, 0))) (hf : ∀ x s, (f x s).length = m) (hcs : flatS f s 0 xs = cs.toList) (hm : xs.length ≤ maxLen)
    (is : List Nat) (Ψ : List Pr) (eΨ : pickL is F = Ψ) (hin : ∀ w : World, (∀ ψ ∈ Ψ, ψ w) → InK K s 0 xs w) (he : H.eraseIdx j = H') (h : WL P N ops Q l L (Sat w0 T H' (OwnR m e f (SkL.at b xs.length s) xs :: G) ((GIn K (SkL.at b xs.length s) xs :: F) ++ Γ))) : WL P N ops Q l L (Sat w0 T H G (F ++ Γ)) :=
  fun a w hh hS => h a w hh (he ▸ (hS.growLit j s xs hj hf hcs hm).derive Ψ (sub_facts is eΨ) hin)
theorem WP.growIce {m e : Nat} {f : α → σ → List Value} {K : α → σ → Pr} {A : SkL σ} {xs : List α} (i j : Nat) (hG : G[i]? = some (OwnR m e f A xs)) (hG' : G.eraseIdx i = G') (hf : ∀ x s, (f x s).length = m) (hin : F[j]? = some (GIn K A xs))
    (h : WP P fn R N k L (Sat w0 T H G' ((Row m f K A xs :: F) ++ Γ))) : WP P fn R N k L (Sat w0 T H G (F ++ Γ)) := fun a w hh hS => h a w hh (by
  subst hG'
  exact (hS.permG (perm_at hG)).growIce hf (fact_at j hin))
theorem WL.growIce {m e : Nat} {f : α → σ → List Value} {K : α → σ → Pr} {A : SkL σ} {xs : List α} (i j : Nat) (hG : G[i]? = some (OwnR m e f A xs)) (hG' : G.eraseIdx i = G') (hf : ∀ x s, (f x s).length = m) (hin : F[j]? = some (GIn K A xs))
    (h : WL P N ops Q l L (Sat w0 T H G' ((Row m f K A xs :: F) ++ Γ))) : WL P N ops Q l L (Sat w0 T H G (F ++ Γ)) := fun a w hh hS => h a w hh (by
  subst hG'
  exact (hS.permG (perm_at hG)).growIce hf (fact_at j hin))
end
end Eng

/- THE ENGINE, part 13: rows that grow, handed on, read and written; slices made where choices are made. -/
namespace Eng
open Go
set_option linter.unusedVariables false
set_option linter.unusedSimpArgs false

/-! ### A call that is handed rows -/
theorem Sat.callG {w0 w : World} {T : Zone} {H : Heap} {G0 Gr Φ : List Pr} (h : Sat w0 T H (G0 ++ Gr) Φ w) (m : List Bool) :
    ∃ Z : Zone, Sat w Z (maskT m H) G0 Φ w ∧ ∀ H1 G1 Φ1 w', Sat w Z H1 G1 Φ1 w' → Sat w0 T (H1 ++ maskF m H) (G1 ++ Gr) (Φ1 ++ Φ) w' := by
  obtain ⟨Fs, o⟩ := h.own
  obtain ⟨F0, Fr, rfl, g0, gr⟩ := GS.split o.g
  have hp : (keys H ++ (F0 ++ Fr).flatten).Perm ((keys (maskT m H) ++ F0.flatten) ++ (keys (maskF m H) ++ Fr.flatten)) := by
    refine ((keys_perm (mask_perm m H)).append_right (F0 ++ Fr).flatten).symm.trans ?_
    rw [keys_append, List.flatten_append, List.append_assoc, List.append_assoc]
    refine List.Perm.append_left _ ?_
    rw [← List.append_assoc, ← List.append_assoc]
    exact List.perm_append_comm.append_right _
  have hmem : ∀ k, k ∈ keys H ++ (F0 ++ Fr).flatten ↔ k ∈ keys (maskT m H) ++ F0.flatten ∨ k ∈ keys (maskF m H) ++ Fr.flatten := fun k => by rw [hp.mem_iff, List.mem_append]
  have hnd := List.nodup_append.1 (hp.nodup_iff.1 o.nd)
  have m0 : ∀ k ∈ keys (maskT m H) ++ F0.flatten, (k ∈ T.t ∨ w0.heap.size ≤ k) ∧ k < w.heap.size := fun k hk => o.mine k ((hmem k).2 (.inl hk))
  have mr : ∀ k ∈ keys (maskF m H) ++ Fr.flatten, (k ∈ T.t ∨ w0.heap.size ≤ k) ∧ k < w.heap.size := fun k hk => o.mine k ((hmem k).2 (.inr hk))
  have dis : ∀ k ∈ keys (maskT m H) ++ F0.flatten, k ∉ keys (maskF m H) ++ Fr.flatten := fun k hk hk' => hnd.2.2 k hk k hk' rfl
  let A : Nat → Prop := fun k => k ∉ keys H ++ (F0 ++ Fr).flatten ∧ (T.a k ∨ k ∈ T.t ∨ w0.heap.size ≤ k)
  refine ⟨⟨keys (maskT m H) ++ F0.flatten, A⟩, ⟨rfl, rfl, rfl, Nat.le_refl _, fun _ _ _ => rfl, F0, hnd.1, fun k hk => ⟨.inl hk, (m0 k hk).2⟩, fun p hpm => o.has p ((mask_mem m H p).2 (.inl hpm)), g0, fun φ hφ => ?_⟩, fun H1 G1 Φ1 w' h' => ?_⟩
  · obtain ⟨F, hl, hn, ha⟩ := o.ro φ hφ
    exact ⟨F, hl, fun k hkF hk => hn k hkF ((hmem k).2 (.inl hk)), fun k hkF => .inl ⟨hn k hkF, ha k hkF⟩⟩
  · obtain ⟨Fs1, o1⟩ := h'.own
    have hstay : ∀ k, k < w.heap.size → k ∉ keys (maskT m H) ++ F0.flatten → w'.heap[k]? = w.heap[k]? := fun k hk hn => h'.frame k hk hn
    have n1 : ∀ k ∈ keys H1 ++ Fs1.flatten, k ∉ keys (maskF m H) ++ Fr.flatten := fun k hk hr => by
      rcases (o1.mine k hk).1 with h0 | h0
      · exact dis k h0 hr
      · have := (mr k hr).2; omega
    have hp1 : (keys (H1 ++ maskF m H) ++ (Fs1 ++ Fr).flatten).Perm ((keys H1 ++ Fs1.flatten) ++ (keys (maskF m H) ++ Fr.flatten)) := by
      rw [keys_append, List.flatten_append, List.append_assoc, List.append_assoc]
      refine List.Perm.append_left _ ?_
      rw [← List.append_assoc, ← List.append_assoc]
      exact List.perm_append_comm.append_right _
    have nd1 : ((keys H1 ++ Fs1.flatten) ++ (keys (maskF m H) ++ Fr.flatten)).Nodup := List.nodup_append.2 ⟨o1.nd, hnd.2.1, fun a ha b hb e => n1 a ha (e ▸ hb)⟩
    refine ⟨h'.os.trans h.os, h'.tape.trans h.tape, h'.output.trans h.output, Nat.le_trans h.size h'.size, fun k hk0 hT => ?_, Fs1 ++ Fr, hp1.nodup_iff.2 nd1, fun k hk => ?_, fun p hpm => ?_, GS.append o1.g (gr.mono h'.size fun k hk => hstay k (mr k (List.mem_append_right _ hk)).2 fun h0 => dis k h0 (List.mem_append_right _ hk)), fun φ hφ => ?_⟩
    · rw [hstay k (Nat.lt_of_lt_of_le hk0 h.size) fun h0 => ?_]
      · exact h.frame k hk0 hT
      · rcases (m0 k h0).1 with h1 | h1
        · exact hT h1
        · omega
    · rw [hp1.mem_iff, List.mem_append] at hk
      rcases hk with hk | hk
      · refine ⟨?_, (o1.mine k hk).2⟩
        rcases (o1.mine k hk).1 with h0 | h0
        · exact (m0 k h0).1
        · exact .inr (Nat.le_trans h.size h0)
      · exact ⟨(mr k hk).1, Nat.lt_of_lt_of_le (mr k hk).2 h'.size⟩
    · rw [List.mem_append] at hpm
      rcases hpm with hpm | hpm
      · exact o1.has p hpm
      · have hk : p.1 ∈ keys (maskF m H) ++ Fr.flatten := List.mem_append_left _ (by rw [keys, List.mem_map]; exact ⟨p, hpm, rfl⟩)
        rw [hstay p.1 (mr _ hk).2 fun h0 => dis _ h0 hk]
        exact o.has p ((mask_mem m H p).2 (.inr hpm))
    · rw [List.mem_append] at hφ
      rcases hφ with hφ | hφ
      · obtain ⟨F, hl, hn, ha⟩ := o1.ro φ hφ
        refine ⟨F, hl, fun k hkF hk => ?_, fun k hkF => ?_⟩
        · rw [hp1.mem_iff, List.mem_append] at hk
          rcases hk with hk | hk
          · exact hn k hkF hk
          · rcases ha k hkF with h0 | h0 | h0
            · exact h0.1 ((hmem k).2 (.inr hk))
            · exact dis k h0 hk
            · have h2 := (mr k hk).2
              have h3 : w.heap.size ≤ k := h0
              omega
        · rcases ha k hkF with h0 | h0 | h0
          · exact h0.2
          · exact .inr (m0 k h0).1
          · exact .inr (.inr (Nat.le_trans h.size h0))
      · obtain ⟨F, hl, hn, ha⟩ := o.ro φ hφ
        refine ⟨F, hl.mono h'.size fun k hkF => hstay k (hl.lt k hkF) fun h0 => hn k hkF ((hmem k).2 (.inl h0)), fun k hkF hk => ?_, ha⟩
        rw [hp1.mem_iff, List.mem_append] at hk
        rcases hk with hk | hk
        · rcases (o1.mine k hk).1 with h0 | h0
          · exact hn k hkF ((hmem k).2 (.inl h0))
          · have h2 := hl.lt k hkF
            have h3 : w.heap.size ≤ k := h0
            omega
        · exact hn k hkF ((hmem k).2 (.inr hk))

/-- The contract of a function that is handed blocks and rows. -/
def DoesG (P : Program) (f : FuncId) (args : Array Value) (H0 : Heap) (G0 Φ0 : List Pr) {X : Type} (V : X → Value) (H1 : X → Heap) (G1 Φ1 : X → List Pr) : Prop :=
  ∀ w Z, Sat w Z H0 G0 Φ0 w → Calls P f args w fun e w' => ∃ x, e = .returned (V x) ∧ Sat w Z (H1 x) (G1 x) (Φ1 x) w'

section
variable {P : Program} {N : Nat} {ops : Array Oper} {Q : Exit → Act → World → Prop} {l : List Oper} {L L' : Env} {w0 : World} {T : Zone} {H H0 Hr : Heap} {G G0 Gr F F' Γ Φ : List Pr} {o : Oper} {α σ : Type}
theorem WL.callG {F0 : List Pr} {f : FuncId} {args : Array Value} {X : Type} {V : X → Value} {H1 : X → Heap} {G1 R : X → List Pr} (hs bs : List Nat) (m : List Bool) (L' : X → Env) (is : List Nat) (hF : pickL is F = F0)
    (hc : DoesG P f args H0 G0 (F0 ++ Γ) V H1 G1 (fun x => R x ++ (F0 ++ Γ))) (hm : maskT m H = H0) (hr : maskF m H = Hr) (hG : G = G0 ++ Gr) (he : enterE P o L H hs = some (f, args, bs, bs)) (hg : wantedE ops L o = some true) (hp : ∀ x, putE N o (V x) L = some (L' x))
    (h : ∀ x, WL P N ops Q l (L' x) (Sat w0 T (H1 x ++ Hr) (G1 x ++ Gr) ((R x ++ F) ++ Γ))) : WL P N ops Q (o :: l) L (Sat w0 T H G (F ++ Γ)) := by
  subst hG
  refine WL.call (X := X) hs bs V (fun x => Sat w0 T (H1 x ++ Hr) (G1 x ++ Gr) ((R x ++ F) ++ Γ)) L' he hg (fun w hS => ?_) hp h
  obtain ⟨Z, h0, hback⟩ := hS.callG m
  subst hm; subst hr
  refine (hc w Z (h0.less (sub_pick is hF))).mono fun e w' ⟨x, a, b⟩ => ⟨x, a, (hback _ _ _ _ b).less fun φ hφ => ?_⟩
  rw [List.append_assoc, List.mem_append] at hφ
  rcases hφ with hφ | hφ
  · exact List.mem_append_left _ (List.mem_append_left _ hφ)
  · exact List.mem_append_right _ hφ

/-! ### Reading a row of ours -/
theorem Sat.rowG {w : World} {m e : Nat} {f : α → σ → List Value} {K : α → σ → Pr} {A : SkL σ} {xs : List α} (hS : Sat w0 T H G Φ w) {i : Nat} (hG : G[i]? = some (OwnR m e f A xs)) (hf : ∀ x s, (f x s).length = m) (hin : GIn K A xs ∈ Φ) : RowP m f K A xs w := by
  have hS1 := hS.permG (perm_at hG)
  obtain ⟨Fs, ow⟩ := hS1.own
  cases Fs with
  | nil => exact ow.g.elim
  | cons F Fs => exact ow.g.1.now.row hf (hS.fact hin)
theorem WL.valG {m e : Nat} {f : α → σ → List Value} {K : α → σ → Pr} {A : SkL σ} {xs : List α} {v : Value} (i : Nat) (hG : G[i]? = some (OwnR m e f A xs)) (hf : ∀ x s, (f x s).length = m) (hin : GIn K A xs ∈ Φ) (hr : ∀ w, Row m f K A xs w → (execOp (evalE L) o).run P w = .ok (.value v) w)
    (hk : (o.op.operands.all (known L) && !isSelect o.op) = true) (hg : wantedE ops L o = some true) (hp : putE N o v L = some L') (h : WL P N ops Q l L' (Sat w0 T H G Φ)) : WL P N ops Q (o :: l) L (Sat w0 T H G Φ) := fun a w hh hS => by
  unfold wpList
  rw [wanted_of hh hg, if_pos rfl]
  refine .inl ?_
  unfold Oper.wp
  rw [hh.exec hk, hr w (hS.rowG hG hf hin)]
  exact h _ w (hh.putE hp) hS
theorem QL.valG {m e : Nat} {f : α → σ → List Value} {K : α → σ → Pr} {A : SkL σ} {xs : List α} {v : Value} {Q : Act → Prop} (i : Nat) (hG : G[i]? = some (OwnR m e f A xs)) (hf : ∀ x s, (f x s).length = m) (hin : GIn K A xs ∈ Φ) (hr : ∀ w, Row m f K A xs w → (execOp (evalE L) o).run P w = .ok (.value v) w)
    (hk : (o.op.operands.all (known L) && !isSelect o.op) = true) (hg : wantedE ops L o = some true) (hp : putE N o v L = some L') (h : QL P N ops (Sat w0 T H G Φ) Q l L') : QL P N ops (Sat w0 T H G Φ) Q (o :: l) L := fun a hh => by
  unfold wpQuiet
  rw [wanted_of hh hg, if_pos rfl]
  refine ⟨v, fun w hC => ?_, h _ (hh.putE hp)⟩
  unfold Oper.quietAt
  rw [hh.exec hk, hr w (hC.rowG hG hf hin)]
  exact ⟨rfl, rfl⟩
theorem OpV.valG {m e : Nat} {f : α → σ → List Value} {K : α → σ → Pr} {A : SkL σ} {xs : List α} {v : Value} (i : Nat) (hG : G[i]? = some (OwnR m e f A xs)) (hf : ∀ x s, (f x s).length = m) (hin : GIn K A xs ∈ Φ) (hr : ∀ w, Row m f K A xs w → (execOp (evalE L) o).run P w = .ok (.value v) w)
    (hk : (o.op.operands.all (known L) && !isSelect o.op) = true) : OpV P N (fun A => Sat w0 T (H ++ A) G Φ) L o v := fun Q A a w K ha hS hK => by
  unfold Oper.wp
  rw [ha.exec hk, hr w (hS.rowG hG hf hin)]
  exact hK w hS
theorem WL.retell {H' : Heap} (hL : L = L') (hH : H = H') (h : WL P N ops Q l L' (Sat w0 T H' G Φ)) : WL P N ops Q l L (Sat w0 T H G Φ) := by
  subst hL; subst hH; exact h
/-! ### Writing an element of a row of ours: elements with nothing inside -/
theorem flatS_set {f : α → σ → List Value} {m : Nat} {s : Nat → σ} (hf : ∀ x s, (f x s).length = m) : ∀ {xs : List α} {n i : Nat} {x : α}, i < xs.length → flatS f s n (xs.set i x) = (flatS f s n xs).take (i * m) ++ f x (s (n + i)) ++ (flatS f s n xs).drop (i * m + m)
  | [], n, i, x, h => by simp at h
  | y :: ys, n, 0, x, h => by
    rw [List.set_cons_zero, flatS, flatS, Nat.zero_mul, List.take_zero, List.nil_append, Nat.zero_add, List.drop_left' (hf _ _)]
    rfl
  | y :: ys, n, i + 1, x, h => by
    have e : (i + 1) * m = (f y (s n)).length + i * m := by rw [hf, Nat.succ_mul, Nat.add_comm]
    have e2 : (i + 1) * m + m = (f y (s n)).length + (i * m + m) := by rw [e]; omega
    rw [List.set_cons_succ, flatS, flatS, flatS_set hf (by simpa using h), e2, e, List.take_append, Nat.add_sub_cancel_left, List.take_of_length_le (Nat.le_add_right _ _), List.drop_append, Nat.add_sub_cancel_left, List.drop_eq_nil_of_le (Nat.le_add_right _ _), List.nil_append, show n + 1 + i = n + (i + 1) by omega]
    simp only [List.append_assoc]

theorem Sat.setG {w : World} {m e : Nat} {f : α → Unit → List Value} {A : SkL Unit} {xs : List α} (hS : Sat w0 T H (OwnR m e f A xs :: G) Φ w) (hf : ∀ x s, (f x s).length = m) (h1 : ∀ x s, (f x s).all Value.oneCell' = true) {i : Nat} (hi : i < xs.length) (x : α) {b o' : Nat} (hA : A.a = some (b, o')) :
    ∃ w', (storeCells ⟨b, o' + i * m, none⟩ (f x ()) 0).run P w = .ok () w' ∧ Sat w0 T H (OwnR m e f A (xs.set i x) :: G) Φ w' := by
  obtain ⟨Fs, ow⟩ := hS.own
  cases Fs with
  | nil => exact ow.g.elim
  | cons F Fs =>
    obtain ⟨hz, hown⟩ := ow.g.1.now
    obtain ⟨hl, h2⟩ := hown
    rcases h2 with ⟨h3, h4⟩ | ⟨g, cap, cur, h3, _, hg, hn, hcm, hs, ht⟩
    · omega
    · have h3' := h3
      simp only [slcV, Value.slice.injEq, true_and] at h3
      obtain ⟨h5, h6⟩ := h3
      have h7 : g = b ∧ o' = 0 := by
        rw [addr_of hA] at h5
        simp only [Option.some.injEq, Addr.mk.injEq, and_true] at h5
        exact ⟨h5.1.symm, h5.2⟩
      obtain ⟨rfl, rfl⟩ := h7
      have him : i * m + m ≤ xs.length * m := by rw [← Nat.succ_mul]; exact Nat.mul_le_mul_right _ hi
      have hxc : xs.length * m ≤ cap * m := Nat.mul_le_mul_right _ hn
      have hfit : i * m + 0 + (f x ()).length ≤ cur.size := by rw [hf, hs]; omega
      have hr := run_storeCells_at P g (i * m) e (f x ()) 0 cur w hg hfit (List.all_eq_true.1 (h1 x ()))
      refine ⟨_, by rw [Nat.zero_add]; exact hr, hS.growStep (A' := A) (xs' := xs.set i x) hz ?_ ?_ ?_⟩
      · rw [List.length_set]
        refine ⟨by rw [flatS_length hf, List.length_set], .inr ⟨g, cap, _, h3', Nat.zero_le _, setRow_heap w g cur _ e _ hg, hn, hcm, ?_, ?_⟩⟩
        · simp only [List.size_toArray, List.length_append, List.length_take, List.length_drop, Array.length_toList, hf]
          omega
        · rw [flatS_set hf hi, ← ht]
          simp only [Nat.add_zero, hf, List.take_take, List.drop_take, Nat.min_eq_left (show i * m ≤ xs.length * m by omega)]
          rw [List.take_append, List.take_of_length_le (by simp only [List.length_append, List.length_take, Array.length_toList, hf]; omega)]
          congr 1
          simp only [List.length_append, List.length_take, Array.length_toList, hf]
          rw [Nat.min_eq_left (by omega)]
      · rw [h3']
        exact ⟨rfl, rfl, rfl, by simp, fun k _ hk => setRow_other w g k _ (fun e => hk (by simp [Value.ownBlock, e]))⟩
      · rw [List.length_set]
        exact .inl rfl
end
end Eng

namespace Eng
open Go
section
variable {P : Program} {N : Nat} {ops : Array Oper} {Q : Exit → Act → World → Prop} {l : List Oper} {L : Env} {w0 : World} {T : Zone} {H : Heap} {G G' Φ : List Pr} {α : Type} {ty : TypeId} {pos : String} {af : Array Edge} {g : Option (Nat × Bool)} {t : TypeId} {x y : Operand}
theorem WL.growSet {m e n : Nat} {f : α → Unit → List Value} {A : SkL Unit} {xs : List α} {i : Int} {u r : α} {v : Value} (j : Nat) (hsz : ∀ w, (Go.sizeOf t).run P w = .ok n w) (hn : n = m) (hk : known L x = true) (hk' : known L y = true) (hx : evalE L x = ptrV A (i.toNat * m + 0)) (hy : evalE L y = v)
    (hv : v.cells.toList = f r ()) (hu : getL xs.length xs i = some u) (hG : G[j]? = some (OwnR m e f A xs)) (hG' : G.eraseIdx j = G') (hf : ∀ x s, (f x s).length = m) (h1 : ∀ x s, (f x s).all Value.oneCell' = true) (hin : GIn noK A xs ∈ Φ)
    (hg : wantedE ops L ⟨none, .store t x y, ty, pos, af, g⟩ = some true) (h : WL P N ops Q l L (Sat w0 T H (OwnR m e f A (xs.set i.toNat r) :: G') (GIn noK A (xs.set i.toNat r) :: Φ))) : WL P N ops Q (⟨none, .store t x y, ty, pos, af, g⟩ :: l) L (Sat w0 T H G Φ) := fun a w hh hS => by
  subst hG'
  have hR := hS.rowG hG hf hin
  obtain ⟨b, o, hA⟩ := row_at hR hu
  have hlt : i.toNat < xs.length := by
    have := (List.getElem?_eq_some_iff.1 (getL_parts hu).2).1
    exact this
  unfold wpList
  rw [wanted_of hh hg, if_pos rfl]
  refine .inl ?_
  unfold Oper.wp
  rw [hh.exec (by simp [Op.operands, isSelect, hk, hk'])]
  obtain ⟨w', hr, hS'⟩ := (hS.permG (perm_at hG)).setG (P := P) hf h1 hlt r hA
  rw [ptrV_of hA, Nat.add_zero] at hx
  have hcs : v.cells.size = n := by rw [← Array.length_toList, hv, hf, hn]
  have : (execOp (evalE L) ⟨none, .store t x y, ty, pos, af, g⟩).run P w = .ok .skip w' := by
    simp [execOp, hx, hy, Instr.storeAt, Instr.sureAddr, storeVar, hsz, hcs, hv, hr]
  rw [this]
  exact h a _ hh (hS'.derive [] (by simp) fun _ _ => InK.no _ _)
end
end Eng

/- THE ENGINE, part 14: slices that come about where choices are made. -/
namespace Eng
open Go
set_option linter.unusedVariables false
set_option linter.unusedSimpArgs false

/-- A slice without room. -/
def NoRoom {σ : Type} (A : SkL σ) : Pr := fun _ => A.c = 0

theorem run_makeSlice {P : Program} {ρ : Operand → Value} {w : World} {d : Option Tmp} {ty : TypeId} {pos : String} {af : Array Edge} {g : Option (Nat × Bool)} {t e : TypeId} {x : Operand} {α : Type} {f : α → List Value}
    {k : IntKind} {i : Int} {n by_ : Nat} {z : α} {zv : Value} (ht : P.underlying t = some (.slice e)) (hi : (P.info? e).map (fun q => (q.zero, q.size, q.bytes)) = some (some zv, (f z).length, by_)) (hzc : zv.cells.toList = f z) (hpos : 0 < (f z).length) (hf : ∀ x, (f x).length = (f z).length) (hx : ρ x = .int k i) (hm : mkLen by_ i = some n) :
    (execOp ρ ⟨d, .makeSlice t x x, ty, pos, af, g⟩).run P w = .ok (.value (.slice (some ⟨w.heap.size, 0, none⟩) n n)) { w with heap := w.heap.push (.cells (rowF f (List.replicate n z)) e (0, 0)) } := by
  obtain ⟨inf, hi', hq⟩ := Option.map_eq_some_iff.1 hi
  clear hi
  have hi := hi'
  clear hi'
  obtain ⟨hz, hsz, rfl⟩ : inf.zero = some zv ∧ inf.size = (f z).length ∧ inf.bytes = by_ := by simpa using hq
  unfold mkLen at hm
  split at hm
  · rename_i hb
    obtain ⟨h0, h1, h2⟩ := hb
    obtain rfl := Option.some.inj hm
    have hw : IntKind.i64.wrap i = i := by
      have e1 : IntKind.i64.signed = true := rfl
      have e2 : IntKind.i64.bits = 64 := rfl
      unfold IntKind.wrap
      rw [e1, e2]
      simp only [Bool.true_and]
      have hm : i % (2 ^ 64 : Int) = i := Int.emod_eq_of_lt h0 (by omega)
      rw [hm, if_neg (by simp; omega)]
    have hty : (typeInfo e).run P w = .ok inf w := by simp [typeInfo, hi]
    have hng : ¬ (i < 0) := by omega
    have hbig : ¬ ((inf.bytes : Int) * i > 2 ^ 48) := by omega
    have hrow : (Array.range (i.toNat * inf.size)).map (fun j => zv.cells[j % zv.cells.size]!) = rowF f (List.replicate i.toNat z) := by
      rw [hsz]; exact range_row hzc hpos hf i.toNat
    have hask : ∀ m, (askRoom m).run P w = .ok () w := by intro m; unfold askRoom; split <;> rfl
    simp only [execOp, hx, Instr.makeSlice]
    rw [Sem.run_bindE (a := Value.slice (some ⟨w.heap.size, 0, none⟩) i.toNat i.toNat) (w' := { w with heap := w.heap.push (.cells (rowF f (List.replicate i.toNat z)) e (0, 0)) })]
    · rfl
    · rw [Sem.run_bindE (und ht)]
      simp only [asInt, asIntOf]
      simp only [Sem.run_bind, hty, Result.andThen, Sem.run_pure, hw]
      rw [if_neg (by simp; omega)]
      rw [Sem.run_bindE (hask _), Sem.run_bindE (sizeOf_run hi)]
      by_cases hz0 : i.toNat * inf.size = 0
      · have hi0 : i.toNat = 0 := by
          rcases Nat.mul_eq_zero.1 hz0 with h | h
          · exact h
          · omega
        rw [if_pos hz0]
        rw [hi0]
        have hr0 : ∀ (g : Nat → Value), Array.map g (Array.range (0 * inf.size)) = #[] := fun g => by
          apply Array.eq_empty_of_size_eq_zero; simp
        have hrf : rowF f (List.replicate 0 z) = #[] := rfl
        simp only [Sem.run_bind, Sem.run_pure, Result.andThen, newRow, newObj, Sem.run, hr0, hrf]
      · rw [if_neg hz0]
        have hzr : (zeroValue e).run P w = .ok zv w := by simp [zeroValue, hty, hz]
        rw [Sem.run_bindE hzr]
        simp only [Sem.run_bind, Sem.run_pure, Result.andThen, newRow, newObj, Sem.run, hrow]
  · cases hm

theorem flatS_rowF {α : Type} (f : α → List Value) : ∀ (xs : List α) (n : Nat), flatS (pl f) (fun _ => ()) n xs = xs.flatMap f
  | [], _ => rfl
  | x :: r, n => by rw [flatS, flatS_rowF f r, List.flatMap_cons]; rfl
theorem row_of_rowF {α : Type} {f : α → List Value} {m : Nat} {xs : List α} {w : World} {b c : Nat} {e : TypeId} (hb : w.heap[b]? = some (.cells (rowF f xs) e (0, 0))) (hf : ∀ x, (f x).length = m) (hc : xs.length ≤ c) : RowP m (pl f) noK (SkL.at b c (fun _ => ())) xs w :=
  row_of_block hb (fun x _ => hf x) ⟨[], by rw [flatS_rowF, List.append_nil]; rfl⟩ hc (InK.no _ _)

section
variable {P : Program} {N : Nat} {ops : Array Oper} {o : Oper} {L : Env} {w0 : World} {T : Zone} {H : Heap} {G Φ Φs Ψ : List Pr} {α σ : Type}

/-- An operation that yields a new slice. -/
theorem OpX.ofRun {X Y : Type} {V : X → Value} {R : X → List Pr} {R' : Y → List Pr} {f' : Y → Value} (g : Y → X) (hk : (o.op.operands.all (known L) && !isSelect o.op) = true) (hT : ∀ φ ∈ Ψ ++ Φ, φ ∈ Φs)
    (hrun : ∀ A w, Sat w0 T (H ++ A) G Φs w → ∃ x w', (execOp (evalE L) o).run P w = .ok (.value (V x)) w' ∧ Sat w0 T (H ++ A) G (R x ++ Φs) w') (hg : ∀ x, ∃ y, g y = x) (hV : ∀ y, f' y = V (g y)) (hR : ∀ y, R' y = R (g y)) :
    OpX P N (fun A => Sat w0 T (H ++ A) G Φs) (fun y A => Sat w0 T (H ++ A) G ((R' y ++ Ψ) ++ Φ)) L o f' := fun Q A a w K ha hS hK => by
  obtain ⟨x, w', h1, h2⟩ := hrun A w hS
  unfold Oper.wp
  rw [ha.exec hk, h1]
  obtain ⟨y, rfl⟩ := hg x
  have h3 := hK y w' (h2.less fun φ hφ => ?_)
  · rw [hV] at h3
    exact h3
  · rw [List.append_assoc, List.mem_append] at hφ
    rcases hφ with hφ | hφ
    · rw [hR] at hφ; exact List.mem_append_left _ hφ
    · exact List.mem_append_right _ (hT φ hφ)

/-- An empty slice, not nil. -/
theorem newEmpty {m e : Nat} {f : α → σ → List Value} {K : α → σ → Pr} (s : Nat → σ) (hr : ∀ w : World, (execOp (evalE L) o).run P w = .ok (.value (.slice (some ⟨w.heap.size, 0, none⟩) 0 0)) { w with heap := w.heap.push (.cells #[] e (0, 0)) }) :
    ∀ A w, Sat w0 T (H ++ A) G Φs w → ∃ (x : SkL σ) (w' : World), (execOp (evalE L) o).run P w = .ok (.value (slcV x ([] : List α).length)) w' ∧ Sat w0 T (H ++ A) G ([Row m f K x ([] : List α), NoRoom x] ++ Φs) w' := fun A w hS =>
  ⟨SkL.at w.heap.size 0 s, _, hr w, by
    have h1 : Sat w0 T (H ++ A) G Φs { w with heap := w.heap.push (.cells #[] e (0, 0)) } := hS.away rfl rfl rfl (by simp) fun k hk => heap_alloc w _ k hk
    have h2 := h1.derive [] (by simp) (φ := NoRoom (SkL.at w.heap.size 0 s)) fun _ _ => rfl
    exact h2.derive [] (by simp) fun _ _ => RowP.empty fun _ => rfl⟩

/-- A slice of elements that are told. -/
theorem newLit {m e n : Nat} {f : α → σ → List Value} {K : α → σ → Pr} (s : Nat → σ) (xs : List α) {cs : Array Value} (hr : ∀ w : World, (execOp (evalE L) o).run P w = .ok (.value (.slice (some ⟨w.heap.size, 0, none⟩) n n)) { w with heap := w.heap.push (.cells cs e (0, 0)) }) (hn : xs.length = n) (hf : ∀ x s, (f x s).length = m)
    (hcs : flatS f s 0 xs = cs.toList) (Ψs : List Pr) (hs : ∀ ψ ∈ Ψs, ψ ∈ Φs) (hin : ∀ w : World, (∀ ψ ∈ Ψs, ψ w) → InK K s 0 xs w) :
    ∀ A w, Sat w0 T (H ++ A) G Φs w → ∃ (x : SkL σ) (w' : World), (execOp (evalE L) o).run P w = .ok (.value (slcV x xs.length)) w' ∧ Sat w0 T (H ++ A) G ([Row m f K x xs] ++ Φs) w' := fun A w hS => by
  refine ⟨SkL.at w.heap.size n s, _, (hr w).trans (by rw [hn]; rfl), ?_⟩
  have h1 : Sat w0 T ((H ++ A) ++ [(w.heap.size, .cells cs e (0, 0))]) G Φs { w with heap := w.heap.push (.cells cs e (0, 0)) } := hS.alloc _
  have h2 := h1.freeze (H ++ A).length (b := w.heap.size) (o := .cells cs e (0, 0)) (by simp) Ψs hs (φ := Row m f K (SkL.at w.heap.size n s) xs) fun w' hb hψ => row_of_block hb hf ⟨[], by rw [List.append_nil]; exact hcs⟩ (by omega) (hin w' hψ)
  rw [List.eraseIdx_append_of_length_le (Nat.le_refl _)] at h2
  simpa using h2

/-- A copy. -/
theorem newCopy {m by_ e : Nat} {z : Value} {f : α → σ → List Value} {K : α → σ → Pr} {A0 B : SkL σ} {ys : List α} {s x : Operand} {t : TypeId} (ho : o.op = .call { callee := .builtin .append, args := #[s, x], argTypes := #[t, t] }) (ht : P.underlying t = some (.slice e)) (hi : (P.info? e).map (fun q => (q.zero, q.size, q.bytes)) = some (some z, m, by_)) (hf : ∀ x s, (f x s).length = m)
    (hs : evalE L s = slcV A0 0) (hc : NoRoom A0 ∈ Φs) (hx : evalE L x = slcV B ys.length) (hΦ : Row m f K B ys ∈ Φs) {u : Unit} (hroom : roomL by_ ys.length = some u) :
    ∀ A w, Sat w0 T (H ++ A) G Φs w → ∃ (x : SkL σ) (w' : World), (execOp (evalE L) o).run P w = .ok (.value (slcV x ys.length)) w' ∧ Sat w0 T (H ++ A) G ([Row m f K x ys] ++ Φs) w' := fun A w hS => by
  obtain ⟨A', w', h1, h2⟩ := hS.copyRow (P := P) (ty := o.type) ht hi hf (hS.fact hc) hΦ hroom
  exact ⟨A', w', run_appendOp ho (by rw [hs, hx]; exact h1), h2⟩

/-- A row of zeros. -/
theorem newZeros {d : Option Tmp} {ty : TypeId} {pos : String} {af : Array Edge} {gd : Option (Nat × Bool)} {t e m : Nat} {x : Operand} {f : α → List Value} {k : IntKind} {i : Int} {n by_ : Nat} {z : α} {zv : Value} (hO : o = ⟨d, .makeSlice t x x, ty, pos, af, gd⟩) (ht : P.underlying t = some (.slice e))
    (hi : (P.info? e).map (fun q => (q.zero, q.size, q.bytes)) = some (some zv, m, by_)) (hm0 : (f z).length = m) (hzc : zv.cells.toList = f z) (hpos : 0 < m) (hf : ∀ x, (f x).length = m) (hx : evalE L x = .int k i) (hm : mkLen by_ i = some n) :
    ∀ A w, Sat w0 T (H ++ A) G Φs w → ∃ (x : SkL Unit) (w' : World), (execOp (evalE L) o).run P w = .ok (.value (slcV x (List.replicate n z).length)) w' ∧ Sat w0 T (H ++ A) G ([Row m (pl f) noK x (List.replicate n z)] ++ Φs) w' := fun A w hS => by
  subst hm0
  subst hO
  refine ⟨SkL.at w.heap.size n (fun _ => ()), _, (run_makeSlice ht hi hzc hpos hf hx hm).trans (by rw [List.length_replicate]; rfl), ?_⟩
  have h1 : Sat w0 T ((H ++ A) ++ [(w.heap.size, .cells (rowF f (List.replicate n z)) e (0, 0))]) G Φs { w with heap := w.heap.push (.cells (rowF f (List.replicate n z)) e (0, 0)) } := hS.alloc _
  have h2 := h1.freeze (H ++ A).length (b := w.heap.size) (o := .cells (rowF f (List.replicate n z)) e (0, 0)) (by simp) [] (by simp) (φ := Row (f z).length (pl f) noK (SkL.at w.heap.size n (fun _ => ())) (List.replicate n z)) fun w' hb _ => row_of_rowF hb hf (by rw [List.length_replicate]; exact Nat.le_refl _)
  rw [List.eraseIdx_append_of_length_le (Nat.le_refl _)] at h2
  simpa using h2
end
end Eng

/- THE ENGINE, part 15: what is done first where choices are made. -/
namespace Eng
open Go
set_option linter.unusedVariables false
set_option linter.unusedSimpArgs false

/-- The same operations; those of E wait for the one at p, too. -/
def waitFor (p : Nat) (E : List Nat) : Nat → List Oper → List Oper
  | _, [] => []
  | i, o :: r => (match E.any (Nat.beq i) with
    | true => { o with after := o.after.push { on := p, ground := .data } }
    | false => o) :: waitFor p E (i + 1) r
theorem waitFor_get (p : Nat) (E : List Nat) : ∀ (l : List Oper) (n i : Nat), (waitFor p E n l)[i]? = (l[i]?).map fun o => match E.any (Nat.beq (n + i)) with
    | true => { o with after := o.after.push { on := p, ground := .data } }
    | false => o
  | [], n, i => by simp [waitFor]
  | o :: r, n, 0 => by simp [waitFor]
  | o :: r, n, i + 1 => by
    rw [waitFor, List.getElem?_cons_succ, waitFor_get p E r (n + 1) i, List.getElem?_cons_succ, show n + 1 + i = n + (i + 1) by omega]
theorem waitFor_length (p : Nat) (E : List Nat) : ∀ (l : List Oper) (n : Nat), (waitFor p E n l).length = l.length
  | [], _ => rfl
  | _ :: r, n => by simp [waitFor, waitFor_length p E r]

section
variable {P : Program} {Q : Exit → Act → World → Prop} {l : List Oper} {p : Nat} {E : List Nat}

theorem wait_op (i : Nat) : (waitFor p E 0 l).toArray[i]? = (l.toArray[i]?).map fun o => match E.any (Nat.beq i) with
    | true => { o with after := o.after.push { on := p, ground := .data } }
    | false => o := by
  simp only [List.getElem?_toArray]
  rw [waitFor_get]
  simp

theorem wait_yielded (t : Array Value) (j : Nat) : yielded (waitFor p E 0 l).toArray t j = yielded l.toArray t j := by
  unfold yielded
  rw [wait_op]
  cases l.toArray[j]? with
  | none => rfl
  | some o => simp only [Option.map_some]; cases E.any (Nat.beq j) <;> rfl

theorem wait_ready {listed : Array Bool} (hp : listed.getD p false = true) : Region.ready .any (waitFor p E 0 l).toArray listed = Region.ready .any l.toArray listed := by
  unfold Region.ready
  rw [show (waitFor p E 0 l).toArray.size = l.toArray.size by simp [waitFor_length]]
  refine List.filter_congr fun i _ => ?_
  congr 1
  rw [wait_op]
  cases l.toArray[i]? with
  | none => rfl
  | some o =>
    simp only [Option.map_some]
    split
    · simp only [Option.getD_some, Array.all_push, hp, Bool.or_true, Bool.and_true]
    · rfl

theorem wait_wp {i : Nat} {K : Act → World → Prop} {a : Act} {w : World} (h : wpOp P (waitFor p E 0 l).toArray Q i K a w) : wpOp P l.toArray Q i K a w := by
  unfold wpOp at h ⊢
  rw [wait_op] at h
  have hy : yielded (waitFor p E 0 l).toArray a.tmps = yielded l.toArray a.tmps := funext fun j => wait_yielded _ j
  cases ho : l.toArray[i]? with
  | none => rw [ho] at h; exact h
  | some o =>
    rw [ho] at h
    simp only [Option.map_some, hy] at h
    split at h <;> exact h

theorem wait_any : ∀ (fuel : Nat) (listed : Array Bool) (a : Act) (w : World), listed.getD p false = true → wpAny P .any (waitFor p E 0 l).toArray Q fuel listed a w → wpAny P .any l.toArray Q fuel listed a w
  | 0, listed, a, w, hp, h => by
    unfold wpAny at h ⊢
    rw [wait_ready hp] at h
    exact h
  | fuel + 1, listed, a, w, hp, h => by
    unfold wpAny at h ⊢
    rw [wait_ready hp] at h
    exact ⟨h.1, fun i hi => wpOp_mono (fun a' w' h' => wait_any fuel _ a' w' (getD_set_true hp) h') (wait_wp (h.2 i hi))⟩
end

theorem asks_move {P : Program} {o : Oper} {x : Operand} (h : o.op = .move x) {a : Act} {w : World} : ¬ o.asks P a w := fun hx => by
  have h1 := hx.1
  unfold execOp at h1
  simp only [h] at h1
  have h2 : (((pure (Next.value (a.eval x)) : Sem Next).runT P w #[]).2) = #[] := rfl
  rw [h2] at h1
  simp at h1

/-- May the operation at p be done first? -/
def floatB (l : List Oper) (p : Nat) (E : List Nat) : Bool :=
  Region.noSelect l.toArray && Region.free .any l.toArray (Array.replicate l.toArray.size false) p && (Region.ready .any l.toArray (Array.replicate l.toArray.size false)).contains p && (Region.ready .any (waitFor p E 0 l).toArray (Array.replicate l.toArray.size false)).contains p && Nat.blt p l.length

theorem RA.float {P : Program} {N : Nat} {fn : Func} {R : Ending → World → Prop} {k : List KI} {l : List Oper} {L : Env} {S : Pr} {o : Oper} {v : Value} (p : Nat) (E : List Nat) {x : Operand} (ho : l[p]? = some o) (hmv : o.op = .move x) (hB : floatB l p E = true) (hgd : o.guard.isNone = true) (hr : ∀ w, (execOp (evalE L) o).run P w = .ok (.value v) w)
    (hk : (o.op.operands.all (known L) && !isSelect o.op) = true) (hE : E.any (Nat.beq p) = false) (h : RA P N (denM P fn R k) (waitFor p E 0 l) L S) : RA P N (denM P fn R k) l L S := fun a w hh hS => by
  simp only [floatB, Bool.and_eq_true] at hB
  obtain ⟨⟨⟨⟨h1, h2⟩, h3⟩, h4⟩, h5⟩ := hB
  have hlt : p < l.length := Nat.le_of_ble_eq_true h5
  have hop : l.toArray[p]? = some o := by simpa using ho
  have hw : Region.wanted o (yielded l.toArray a.tmps) = true := by
    have : o.guard = none := by simpa using hgd
    simp [Region.wanted, this]
  have hy : Yields P l.toArray o v a := .inl ⟨hw, fun w => by rw [hh.exec hk]; exact hr w⟩
  have hd := h a w hh hS
  have hsz : (waitFor p E 0 l).toArray.size = l.toArray.size := by simp [waitFor_length]
  rw [hsz] at hd
  have hsz1 : l.toArray.size = l.length := by simp
  have hlp : ((Array.replicate l.toArray.size false).setIfInBounds p true).getD p false = true := by
    have : p < l.toArray.size := by omega
    simp [hlt]
  refine (?_ : ∀ n : Nat, 0 < n → wpAny P .any (waitFor p E 0 l).toArray (denM P fn R k) n (Array.replicate l.toArray.size false) a { w with drawn := w.drawn + 1 } → wpAny P .any l.toArray (denM P fn R k) n (Array.replicate l.toArray.size false) a { w with drawn := w.drawn + 1 }) _ (by omega) hd
  intro n hn hd
  obtain ⟨f, rfl⟩ : ∃ f, n = f + 1 := ⟨n - 1, by omega⟩
  refine wpAny_take hop h1 h2 h3 (fun c a w hq => absurd hq den_panic) hy ?_
  unfold wpAny at hd
  have hfirst := hd.2 p (by simpa using h4)
  unfold wpOp at hfirst
  rw [wait_op, hop] at hfirst
  simp only [Option.map_some, hE] at hfirst
  have hy2 : yielded (waitFor p E 0 l).toArray a.tmps = yielded l.toArray a.tmps := funext fun j => wait_yielded _ j
  rw [hy2, hw, if_pos rfl] at hfirst
  rcases hfirst with hx | ⟨hx, _⟩
  · unfold Oper.wp at hx
    rw [hh.exec hk, hr] at hx
    exact wait_any f _ _ _ hlp hx
  · exact absurd hx (asks_move hmv)
end Eng

namespace Eng
open Go
section
variable {P : Program} {N : Nat} {ops : Array Oper} {Q : Exit → Act → World → Prop} {l : List Oper} {L : Env} {w0 : World} {T : Zone} {H : Heap} {G F Γ : List Pr} {o : Oper}
theorem WL.ofRun {X : Type} {V : X → Value} {R : X → List Pr} {L' : X → Env} (hk : (o.op.operands.all (known L) && !isSelect o.op) = true) (hrun : ∀ (A : Heap) (w : World), Sat w0 T ([] ++ A) G (F ++ Γ) w → ∃ x w', (execOp (evalE L) o).run P w = .ok (.value (V x)) w' ∧ Sat w0 T ([] ++ A) G (R x ++ (F ++ Γ)) w')
    (hg : wantedE ops L o = some true) (hp : ∀ x, putE N o (V x) L = some (L' x)) (h : ∀ x, WL P N ops Q l (L' x) (Sat w0 T H G ((R x ++ F) ++ Γ))) : WL P N ops Q (o :: l) L (Sat w0 T H G (F ++ Γ)) :=
  WL.op (X := X) V (fun x => Sat w0 T H G ((R x ++ F) ++ Γ)) L' hg hk (fun w hS => by
    obtain ⟨x, w', h1, h2⟩ := hrun H w hS
    exact ⟨x, w', h1, by rw [List.append_assoc]; exact h2⟩) hp h
end
end Eng

/- THE ENGINE, part 16: a range over a function. -/
namespace Eng
open Go
set_option linter.unusedVariables false
set_option linter.unusedSimpArgs false

/-! ### Blocks of ours, held as one -/
def HG (H : Heap) : Pr := fun w => (keys H).Nodup ∧ ∀ p ∈ H, w.heap[p.1]? = some p.2

theorem HG.mem {H : Heap} {F : List Nat} {w : World} (h : Loc F (HG H) w) : ∀ p ∈ H, p.1 ∈ F := fun p hp => by
  apply Classical.byContradiction
  intro hn
  obtain ⟨o', ho'⟩ : ∃ o', o' ≠ p.2 := by
    by_cases e : p.2 = .map #[] 0
    · exact ⟨.map #[] 1, by rw [e]; simp⟩
    · exact ⟨.map #[] 0, fun h => e h.symm⟩
  let w' : World := { w with heap := w.heap.setIfInBounds p.1 o' }
  have h1 : HG H w' := h.stays w' fun k hk => by
    have hne : p.1 ≠ k := fun e => hn (e ▸ hk)
    show (w.heap.setIfInBounds p.1 _)[k]? = w.heap[k]?
    rw [Array.getElem?_setIfInBounds_ne hne]
  have hlt : p.1 < w.heap.size := (Array.getElem?_eq_some_iff.1 (h.now.2 p hp)).1
  have h2 : w'.heap[p.1]? = some o' := by
    show (w.heap.setIfInBounds p.1 o')[p.1]? = _
    rw [Array.getElem?_setIfInBounds_self_of_lt hlt]
  have := (h1.2 p hp).symm.trans h2
  exact ho' (Option.some.inj this).symm

theorem Sat.pack {w0 w : World} {T : Zone} {H1 H2 : Heap} {G Φ : List Pr} (h : Sat w0 T (H1 ++ H2) G Φ w) : Sat w0 T H2 (HG H1 :: G) Φ w := by
  obtain ⟨Fs, o⟩ := h.own
  have hp : (keys (H1 ++ H2) ++ Fs.flatten).Perm (keys H2 ++ (keys H1 :: Fs).flatten) := by
    rw [keys_append, List.flatten_cons, List.append_assoc]
    rw [← List.append_assoc, ← List.append_assoc]
    exact List.perm_append_comm.append_right _
  have hn := o.nd
  rw [keys_append, List.nodup_append, List.nodup_append] at hn
  refine ⟨h.os, h.tape, h.output, h.size, h.frame, keys H1 :: Fs, hp.nodup_iff.1 o.nd, fun k hk => o.mine k (hp.mem_iff.2 hk), fun p hpm => o.has p (List.mem_append_right _ hpm), ⟨⟨⟨hn.1.1, fun p hpm => o.has p (List.mem_append_left _ hpm)⟩, fun k hk => ?_, fun w' hw' => ⟨hn.1.1, fun p hpm => ?_⟩⟩, o.g⟩, fun φ hφ => ?_⟩
  · exact (o.mine k (by rw [keys_append]; simp only [List.mem_append]; exact .inl (.inl hk))).2
  · rw [hw' p.1 (by rw [keys, List.mem_map]; exact ⟨p, hpm, rfl⟩)]
    exact o.has p (List.mem_append_left _ hpm)
  · obtain ⟨F, a1, a2, a3⟩ := o.ro φ hφ
    exact ⟨F, a1, fun k hk hk' => a2 k hk (hp.mem_iff.2 hk'), a3⟩

theorem Sat.unpack {w0 w : World} {T : Zone} {H1 H2 : Heap} {G Φ : List Pr} (h : Sat w0 T H2 (HG H1 :: G) Φ w) : Sat w0 T (H1 ++ H2) G Φ w := by
  obtain ⟨Fs, o⟩ := h.own
  cases Fs with
  | nil => exact o.g.elim
  | cons F Fs =>
    obtain ⟨hF, hG⟩ := o.g
    have hn := hF.now.1
    have hsub : ∀ k ∈ keys H1, k ∈ F := fun k hk => by
      rw [keys, List.mem_map] at hk
      obtain ⟨p, hp, rfl⟩ := hk
      exact HG.mem hF p hp
    have hnd := o.nd
    rw [List.flatten_cons] at hnd
    have hp : (keys H2 ++ (F ++ Fs.flatten)).Perm (F ++ (keys H2 ++ Fs.flatten)) := by
      rw [← List.append_assoc, ← List.append_assoc]
      exact List.perm_append_comm.append_right _
    have hnd2 := List.nodup_append.1 (hp.nodup_iff.1 hnd)
    have hmem : ∀ k, k ∈ keys (H1 ++ H2) ++ Fs.flatten → k ∈ keys H2 ++ (F :: Fs).flatten := fun k hk => by
      rw [List.flatten_cons, hp.mem_iff]
      rw [keys_append, List.append_assoc] at hk
      rcases List.mem_append.1 hk with hk | hk
      · exact List.mem_append_left _ (hsub k hk)
      · exact List.mem_append_right _ hk
    refine ⟨h.os, h.tape, h.output, h.size, h.frame, Fs, ?_, fun k hk => o.mine k (hmem k hk), fun p hpm => ?_, hG, fun φ hφ => ?_⟩
    · rw [keys_append, List.append_assoc]
      exact List.nodup_append.2 ⟨hn, hnd2.2.1, fun a ha b hb e => hnd2.2.2 a (hsub a ha) b hb e⟩
    · rcases List.mem_append.1 hpm with hpm | hpm
      · exact hF.now.2 p hpm
      · exact o.has p hpm
    · obtain ⟨F', a1, a2, a3⟩ := o.ro φ hφ
      exact ⟨F', a1, fun k hk hk' => a2 k hk (hmem k hk'), a3⟩

/-! ### What a round does, told to the function that is ranged over -/
def YieldsTo {α ρ : Type} (P : Program) (l : Nat) (enc : α → Value) (Y : α → Option (Option ρ)) (J : Pr) (Jx : ρ → Pr) (Γ : List Pr) : Prop :=
  ∀ x u, Y x = some u → ∀ w Z, Sat w Z [] [J] Γ w → YieldAt Fence.wide 0 P l #[enc x] w fun e w' => e = .returned (.bool u.isNone) ∧ Sat w Z [] [u.elim J Jx] Γ w'

/-- The contract of a function that is ranged over: M is what comes of it where each element is answered by Y, and e comes behind it. -/
def Iter {α ρ : Type} (P : Program) (gf : FuncId) (lb : Array Value) (H0 : Heap) (Φ0 : List Pr) (enc : α → Value) (M : (α → Option (Option ρ)) → Option ρ → Option ρ) : Prop :=
  ∀ Y e r l J Jx Γ, M Y e = some r → YieldsTo P l enc Y J Jx Γ → ∀ w Z, Sat w Z H0 [J] (Φ0 ++ Γ) w → Calls P gf (#[.func (.yield l) #[] #[]] ++ lb) w fun en w' =>
    (∃ v, en = .returned v) ∧ ((e = some r ∧ Sat w Z H0 [J] (Φ0 ++ Γ) w') ∨ Sat w Z H0 [Jx r] (Φ0 ++ Γ) w')

section
variable {P : Program} {fn : Func} {R : Ending → World → Prop} {N : Nat} {k : List KI} {L : Env} {S : Pr} {ops : Array Oper}

def preQ (P : Program) (fn : Func) (R : Ending → World → Prop) (k : List KI) (ops : Array Oper) (r : List Nat) : Exit → Act → World → Prop :=
  Exit.then (fun a w => wpOpsIn Fence.wide 0 P ops (den P fn R k) r a w) (fun _ _ _ => False)

/-- The operations of these numbers; one of them may be the call of a round. -/
def WI (P : Program) (fn : Func) (R : Ending → World → Prop) (N : Nat) (k : List KI) (ops : Array Oper) (r : List Nat) (L : Env) (S : Pr) : Prop := ∀ a w, Has N a L → S w → wpOpsIn Fence.wide 0 P ops (den P fn R k) r a w

theorem wpOpsIn_pre {Q : Exit → Act → World → Prop} (r : List Nat) : ∀ (l : List Nat) (a : Act) (w : World), wpOps P ops (Exit.then (fun a w => wpOpsIn Fence.wide 0 P ops Q r a w) (fun _ _ _ => False)) l a w → wpOpsIn Fence.wide 0 P ops Q (l ++ r) a w
  | [], a, w, h => h
  | i :: l, a, w, h => by
    rw [List.cons_append]
    unfold wpOps at h
    unfold wpOpsIn
    cases ho : ops[i]? with
    | none =>
      simp only [ho] at h ⊢
      exact wpOpsIn_pre r l a w h
    | some o =>
      simp only [ho] at h ⊢
      split at h
      · rename_i hw
        rw [if_pos hw]
        rcases h with h | ⟨_, ⟨a', w', h4⟩⟩
        · refine ⟨fun _ _ => trivial, ?_⟩
          rw [show (Fence.wide).round = none from rfl, Oper.semAt_none]
          unfold Oper.wp at h
          generalize hres : (execOp a.eval o).run P w = res at h
          cases res with
          | ok v w1 =>
            cases v with
            | value v => exact wpOpsIn_pre r l _ _ h
            | skip => exact wpOpsIn_pre r l _ _ h
            | defer d => exact wpOpsIn_pre r l _ _ h
            | enter f args =>
              rw [Oper.upon_enter] at h
              refine ⟨(fun hx => by cases hx), ?_⟩
              refine CallsIn.mono (callsIn_wide.2 h) fun e w2 h3 => ?_
              cases e with
              | returned v => exact wpOpsIn_pre r l _ _ h3
              | panicked chain => exact h3.elim
              | outgrown => obtain ⟨a', w', h4⟩ := h3; exact h4.elim
            | row row args =>
              rw [Oper.upon_row] at h
              refine ⟨(fun hx => by cases hx), fun c cs _ => ?_⟩
              obtain ⟨v, w', h3, h4⟩ := h c cs
              exact ⟨v, w', wpOpsIn_pre r l _ _ h3, stepsIn_wide.2 h4⟩
            | _ => exact False.elim h
          | halt e w1 => cases e <;> exact h.elim
        · exact h4.elim
      · rename_i hw
        rw [if_neg hw]
        exact ⟨fun _ _ => trivial, wpOpsIn_pre r l _ _ h⟩

theorem wpOps_take {Q : Exit → Act → World → Prop} : ∀ (l : List Oper) (s : Nat), (∀ j o, l[j]? = some o → ops[s + j]? = some o) → ∀ a w, wpList P ops Q l a w → wpOps P ops Q (List.range' s l.length) a w
  | [], s, _, a, w, h => h
  | o :: l, s, hl, a, w, h => by
    have h0 : ops[s]? = some o := hl 0 o rfl
    have ih := wpOps_take (Q := Q) l (s + 1) fun j o' hj => by have := hl (j + 1) o' (by simpa using hj); rwa [Nat.add_assoc, Nat.add_comm 1 j]
    rw [List.length_cons, List.range'_succ]
    unfold wpOps
    unfold wpList at h
    simp only [h0]
    split at h
    · rename_i hw
      rw [if_pos hw]
      rcases h with h | h
      · refine .inl ?_
        unfold Oper.wp at h ⊢
        generalize (execOp a.eval o).run P w = res at h
        cases res with
        | ok v w1 =>
          cases v with
          | value v => exact ih _ _ h
          | skip => exact ih _ _ h
          | defer d => exact ih _ _ h
          | enter f args =>
            rw [Oper.upon_enter] at h ⊢
            refine Calls.mono h fun e w2 h3 => ?_
            cases e with
            | returned v => exact ih _ _ h3
            | panicked chain => exact h3
            | outgrown => exact h3
          | row row args =>
            rw [Oper.upon_row] at h ⊢
            exact Rows.mono h fun v w2 h3 => ih _ _ h3
          | _ => exact h
        | halt e w1 => cases e <;> exact h
      · exact .inr h
    · rename_i hw
      rw [if_neg hw]
      exact ih _ _ h

theorem WP.regionI {id : Nat} {l : List Oper} (c : Nat) (hc : l.length = c) (h : WI P fn R N k l.toArray (List.range' 0 c) L S) (hmo : modeOf k = none := by rfl) (hma : marksOf k = [] := by rfl) : WP P fn R N (.code (.region id l.toArray false) :: k) L S := fun a w hh hS => by
  show cw (modeOf k) P _ _ (marked (marksOf k) a) w
  rw [hmo, hma, marked_nil]
  refine (wpIn_wide (n := 0)).1 (wpIn_region ?_)
  rw [List.range_eq_range']
  have h1 := h a w hh hS
  rw [← hc] at h1
  simpa using h1

theorem WI.pre {l : List Oper} (s n c : Nat) (l' : List Oper) (hl : (l.drop s).take n = l') (hn : l'.length = n) (h : WL P N l.toArray (preQ P fn R k l.toArray (List.range' (s + n) c)) l' L S) : WI P fn R N k l.toArray (List.range' s (n + c)) L S := fun a w hh hS => by
  have h1 := wpOps_take (ops := l.toArray) l' s (fun j o hj => by
    rw [← hl, List.getElem?_take] at hj
    split at hj
    · rw [List.getElem?_drop] at hj
      simpa using hj
    · cases hj) a w (h a w hh hS)
  rw [hn] at h1
  have h2 := wpOpsIn_pre _ _ _ _ h1
  have e : List.range' s n ++ List.range' (s + n) c = List.range' s (n + c) := by
    have := @List.range'_append_1 s n c
    exact this
  rwa [e] at h2

theorem WL.rest {r : List Nat} (h : WI P fn R N k ops r L S) : WL P N ops (preQ P fn R k ops r) [] L S := fun a w hh hS => h a w hh hS
theorem WI.done {s : Nat} (h : WP P fn R N k L S) (hma : marksOf k = [] := by rfl) : WI P fn R N k ops (List.range' s 0) L S := fun a w hh hS => by
  have := h a w hh hS
  rw [hma, marked_nil] at this
  exact this

theorem WI.yield {α ρ : Type} {l : Nat} {enc : α → Value} {Y : α → Option (Option ρ)} {J : Pr} {Jx : ρ → Pr} {F Γ : List Pr} {w0 : World} {T : Zone} {H : Heap} (hY : YieldsTo P l enc Y J Jx Γ) (x : α) {u : Option ρ} (hu : Y x = some u) {s c : Nat} {o : Oper} {L' : Env}
    (ho : ops[s]? = some o) (hk : (o.op.operands.all (known L) && !isSelect o.op) = true) (hg : wantedE ops L o = some true)
    (hr : ∀ w, (execOp (evalE L) o).run P w = (Instr.yield l #[enc x]).run P w) (hp : putE N o (.bool u.isNone) L = some L')
    (h : WI P fn R N k ops (List.range' (s + 1) c) L' (Sat w0 T H [u.elim J Jx] (F ++ Γ))) : WI P fn R N k ops (List.range' s (c + 1)) L (Sat w0 T H [J] (F ++ Γ)) := fun a w hh hS => by
  rw [List.range'_succ]
  unfold wpOpsIn
  simp only [ho]
  rw [wanted_of hh hg, if_pos rfl]
  refine ⟨fun _ _ => trivial, ?_⟩
  rw [show (Fence.wide).round = none from rfl, Oper.semAt_none, hh.exec hk, hr]
  obtain ⟨Z, h0, hback⟩ := Sat.callG (G0 := [J]) (Gr := []) (by rw [List.append_nil]; exact hS) []
  have hT : maskT [] H = [] := by simp [maskT]
  have hF : maskF [] H = H := by simp [maskF]
  rw [hT] at h0
  rw [hF] at hback
  obtain ⟨fn', tmps, assign, body, hy, hR⟩ := hY x u hu w Z (h0.less fun φ hφ => List.mem_append_right _ hφ)
  rw [hy, Oper.uponIn_round]
  refine ⟨(fun hx => by cases hx), hR.mono fun e w' ⟨he, hS'⟩ => ?_⟩
  subst he
  refine h _ w' (hh.putE hp) ?_
  have h1 := hback [] _ Γ w' hS'
  rw [List.append_nil, List.nil_append] at h1
  exact h1.less fun φ hφ => List.mem_append_right _ hφ
end

/-! ### The round -/
theorem Sat.putObj {w0 w : World} {T : Zone} {H : Heap} {G Φ : List Pr} {j l : Nat} {o : Obj} (h : Sat w0 T H G Φ w) (hj : H[j]? = some (l, o)) (o' : Obj) : Sat w0 T (H.set j (l, o')) G Φ (w.putObj l o') :=
  h.upd hj rfl rfl rfl (World.putObj_size) (World.putObj_heap_same (Array.getElem?_eq_some_iff.1 (h.get hj)).1) fun k hk => World.putObj_heap_other hk

theorem Sat.drop1 {w0 w : World} {T : Zone} {p : Nat × Obj} {H : Heap} {Φ : List Pr} (h : Sat w0 T (p :: H) [] Φ w) : Sat w0 T H [] Φ w := Sat.dropG (G1 := []) (Sat.pack (H1 := [p]) (H2 := H) h)

/-- What a round's beginning does to what the loop holds. -/
def Begins (P : Program) (l : Nat) (K1 K2 : Pr) : Prop := ∀ w0 T H Φ w, Sat w0 T H [K1] Φ w → ∃ w2, (Instr.beginRound l).run P w = .ok () w2 ∧ Sat w0 T H [K2] Φ w2

def rOf : List KI → Pr
  | [] => fun _ => False
  | .round _ _ Qr :: _ => Qr
  | .begin _ :: _ => fun _ => False
  | .code _ :: k => rOf k
  | .block _ :: k => rOf k
  | .inv _ :: k => rOf k
  | .mark _ :: k => rOf k

/-- Marks, and no round. -/
def plainM : List KI → Bool
  | [] => true
  | .round _ _ _ :: _ => false
  | .begin _ :: _ => false
  | .code _ :: k => plainM k
  | .block _ :: k => plainM k
  | .inv _ :: k => plainM k
  | .mark _ :: k => plainM k

section
variable {P : Program} {fn : Func} {R : Ending → World → Prop} {N : Nat} {k : List KI} {L : Env} {S : Pr} {w0 : World} {T : Zone} {H : Heap} {G Φ : List Pr}
theorem rOf_base {a : Act} {w : World} : ∀ {k : List KI}, rOf k w → baseOf P fn R k .ret a w
  | [], h => h.elim
  | .round _ _ _ :: _, h => h
  | .begin _ :: _, h => h.elim
  | .code _ :: k, h => rOf_base (k := k) h
  | .block _ :: k, h => rOf_base (k := k) h
  | .inv _ :: k, h => rOf_base (k := k) h
  | .mark _ :: k, h => rOf_base (k := k) h
theorem plainM_base : ∀ {k : List KI}, plainM k = true → baseOf P fn R k = endQ P fn R
  | [], _ => rfl
  | .round _ _ _ :: _, h => by cases h
  | .begin _ :: _, h => by cases h
  | .code _ :: k, h => plainM_base (k := k) h
  | .block _ :: k, h => plainM_base (k := k) h
  | .inv _ :: k, h => plainM_base (k := k) h
  | .mark _ :: k, h => plainM_base (k := k) h

theorem WP.begin {l : Nat} {K1 K2 : Pr} (hb : Begins P l K1 K2) (h : WP P fn R N k L (Sat w0 T H [K2] Φ)) : WP P fn R N (.begin l :: k) L (Sat w0 T H [K1] Φ) := fun a w hh hS => by
  obtain ⟨w2, h1, h2⟩ := hb _ _ _ _ _ hS
  exact ⟨w2, h1, h a w2 hh h2⟩
theorem WP.roundEnd {l : Nat} {Qn Qr : Pr} (h : ∀ w, S w → Qn w) : WP P fn R N [.round l Qn Qr] L S := fun a w hh hS => h w hS
theorem WP.roundRet (h : ∀ w, S w → rOf k w) : WP P fn R N (.code .ret :: k) L S := fun a w hh hS => cw_ret (den_ret (rOf_base (h w hS)))

theorem WP.markCode {D : Nat} {c : Code} (h : WP P fn R N (.code c :: .mark D :: k) L S) : WP P fn R N (.mark D :: .code c :: k) L S := h
theorem WP.markBlock {D id : Nat} (h : WP P fn R N (.mark D :: k) L S) : WP P fn R N (.mark D :: .block id :: k) L S := h
theorem WP.retM {D : Nat} (j : Nat) {H' : Heap} (hs bs : List Nat) (v : Value) (hj : H[j]? = some (D, .deferred (some []))) (hH : H.set j (D, .deferred none) = H') (he : retE P fn L H' hs = some (v, bs, bs))
    (h : ∀ w, Sat w0 T H' G Φ w → R (.returned v) w) (hp : plainM k = true := by rfl) (hm : marksOf k = [{ target := .collected D, args := #[] }] := by rfl) : WP P fn R N (.code .ret :: k) L (Sat w0 T H G Φ) := fun a w hh hS => cw_ret (den_ret (by
  show baseOf P fn R k .ret (marked (marksOf k) a) w
  rw [plainM_base hp, hm]
  show LeavesInM Fence.wide 0 P fn a.tmps R (a.defers ++ [{ target := .collected D, args := #[] }]) .returning w
  rw [hh.defers]
  refine ⟨by simp, .inl ⟨D, _, rfl, run_takeDeferred (hS.get hj), ?_⟩⟩
  subst hH
  exact retE_post he hh (hS.putObj hj _) (h _ (hS.putObj hj _))))
end

theorem entersE {P : Program} {f : FuncId} {fn : Func} {c : Code} (hf : P.funcs[f]? = some fn) (hname : (fn.name == "runtime.NumGoroutine") = false) (hb : fn.body = some c) : ∀ args w, (callFunc f args).run P w = .ok (.enter f args) w := by
  intro args w
  have h1 : fn.name ≠ "runtime.NumGoroutine" := by simpa using hname
  simp [callFunc, hf, h1, hb, mark]

theorem zip1 (t : Array Value) (p : Tmp) (v : Value) : ((#[p] : Array Tmp).zip #[v]).foldl (fun tmps (t, a) => tmps.setIfInBounds t a) t = t.setIfInBounds p v := by
  have e : (#[p] : Array Tmp).zip #[v] = #[(p, v)] := by simp
  rw [e]
  simp

theorem maskT_all : ∀ (H : Heap), maskT (List.replicate H.length true) H = H
  | [] => rfl
  | p :: H => by rw [List.length_cons, List.replicate_succ]; simp only [maskT]; rw [maskT_all H]
theorem maskF_all : ∀ (H : Heap), maskF (List.replicate H.length true) H = []
  | [] => rfl
  | p :: H => by rw [List.length_cons, List.replicate_succ]; simp only [maskF]; rw [maskF_all H]

section
variable {P : Program} {fn : Func} {R : Ending → World → Prop} {N : Nat} {k : List KI} {L : Env} {w0 : World} {T : Zone} {H Hi Hr : Heap} {F Γ Φi : List Pr}

theorem WP.rangeFunc {α ρ : Type} {g : Operand} {p : Tmp} {assign body : Code} {gf : FuncId} {lb : Array Value} {enc : α → Value} {M : (α → Option (Option ρ)) → Option ρ → Option ρ} (hc : Iter P gf lb Hi Φi enc M) (Y : α → Option (Option ρ)) (e : Option ρ) (r : ρ) (hM : M Y e = some r)
    (hH : H = Hi ++ Hr) (is : List Nat) (hF : pickL is F = Φi) (hk : known L g = true) (hg : evalE L g = .func (.func gf) #[] lb) (he : ∀ args w, (callFunc gf args).run P w = .ok (.enter gf args) w) (hp : Nat.blt p N = true) (Hx : ρ → Heap)
    (hbody : ∀ l K1 K2, Begins P l K1 K2 → ∀ x u, Y x = some u → ∀ w Z, WP P fn R N [.code assign, .begin l, .code body, .round l (fun w' => u = none ∧ Sat w Z Hr [K2] (F ++ Γ) w') (fun w' => ∃ q, u = some q ∧ Sat w Z (Hx q) [K2] (F ++ Γ) w')] ((p, enc x) :: L) (Sat w Z Hr [K1] (F ++ Γ)))
    (hnorm : e = some r → ∀ D, WP P fn R N (.mark D :: k) L (Sat w0 T ((Hi ++ Hr) ++ [(D, .deferred (some []))]) [] (F ++ Γ)))
    (hstop : ∀ D, WP P fn R N (.code .ret :: .mark D :: k) L (Sat w0 T ((Hi ++ Hx r) ++ [(D, .deferred (some []))]) [] (F ++ Γ)))
    (hmo : modeOf k = none := by rfl) : WP P fn R N (.code (.rangeFunc g #[p] assign body) :: k) L (Sat w0 T H [] (F ++ Γ)) := fun a w hh hS => by
  show cw (modeOf k) P _ _ (marked (marksOf k) a) w
  rw [hmo]
  refine (wpIn_wide (n := 0)).1 (wpIn_rangeFunc fun fnid _ => ?_)
  subst hH
  -- the record, in its four states
  let rec_ : LoopState → Option Code → Loop := fun st pe => { state := st, pending := pe, fn := fnid, tmps := a.tmps, params := #[p], assign, body, defers := w.heap.size }
  let B : LoopState → Option Code → Heap := fun st pe => [(w.heap.size, .deferred (some [])), (w.heap.size + 1, .loop (rec_ st pe))]
  let W1 : World := (w.alloc (.deferred (some []))).alloc (.loop (rec_ .ready none))
  have hS1 : Sat w0 T ((Hi ++ Hr) ++ B .ready none) [] (F ++ Γ) W1 := by
    have h1 := (hS.alloc (.deferred (some []))).alloc (.loop (rec_ .ready none))
    have e1 : ({ w with heap := w.heap.push (.deferred (some [])) } : World).heap.size = w.heap.size + 1 := by simp
    rw [e1, List.append_assoc] at h1
    exact h1
  have hev : (marked (marksOf k) a).eval g = .func (.func gf) #[] lb := by rw [marked_eval]; exact (hh.eval hk).trans hg
  have hpe : ((Hi ++ Hr) ++ B .ready none).Perm ((B .ready none ++ Hr) ++ Hi) :=
    List.perm_append_comm.trans (by rw [List.append_assoc]; exact (List.perm_append_comm (l₁ := Hi) (l₂ := Hr)).append_left _)
  have hS2 := (hS1.perm hpe).pack
  let J : Pr := HG (B .ready none ++ Hr)
  let Jx : ρ → Pr := fun q => HG (B .done (some .ret) ++ Hx q)
  refine ⟨w.heap.size + 1, [{ target := .collected w.heap.size, args := #[] }], W1, { target := .fn (.func gf) lb, args := #[.func (.yield (w.heap.size + 1)) #[] #[]] }, W1, gf,
    #[.func (.yield (w.heap.size + 1)) #[] #[]] ++ lb, W1, run_enterLoop_outer _ _ _ _ _, ?_, (fun _ _ => trivial), ?_, (fun hx => by cases hx), ?_⟩
  · simp only [resolve, hev]
    simp [go_sem]
  · simp [invoke, go_sem, he]
  refine callsIn_wide.2 ?_
  obtain ⟨Z, hZ, hback⟩ := Sat.callG (G0 := [J]) (Gr := []) (by rw [List.append_nil]; exact hS2) (List.replicate Hi.length true)
  rw [maskT_all] at hZ
  rw [maskF_all] at hback
  have hsub := sub_pick (Γ := Γ) is hF
  have hZ' : Sat W1 Z Hi [J] (Φi ++ (F ++ Γ)) W1 := hZ.less fun φ hφ => by
    rcases List.mem_append.1 hφ with hφ | hφ
    · exact hsub φ (List.mem_append_left _ hφ)
    · exact hφ
  have hY : YieldsTo P (w.heap.size + 1) enc Y J Jx (F ++ Γ) := fun x u hu w2 Z2 hS3 => by
    have hS4 : Sat w2 Z2 (B .ready none ++ Hr) [] (F ++ Γ) w2 := by have := Sat.unpack hS3; rwa [List.append_nil] at this
    have hl : w2.heap[w.heap.size + 1]? = some (.loop (rec_ .ready none)) := hS4.get (j := 1) rfl
    have hy := run_yield (P := P) (args := #[enc x]) hl rfl
    refine ⟨_, _, _, _, hy, roundIn_of_wpIn trivial ?_⟩
    have hbg : Begins P (w.heap.size + 1) (HG (B .ready none)) (HG (B .busy none)) := fun w0' T' H' Φ' w' hS' => by
      have hd : Sat w0' T' (B .ready none ++ H') [] Φ' w' := Sat.unpack hS'
      have hl' : w'.heap[w.heap.size + 1]? = some (.loop (rec_ .ready none)) := hd.get (j := 1) rfl
      refine ⟨_, run_beginRound hl' rfl, ?_⟩
      have := hd.putObj (j := 1) (l := w.heap.size + 1) rfl (.loop { rec_ .ready none with state := .busy })
      exact Sat.pack (H1 := B .busy none) (H2 := H') this
    have hS5 := Sat.pack hS4
    have hden := hbody _ _ _ hbg x u hu w2 Z2 (a.put (some p) (enc x)) w2 (hh.put (Nat.le_of_ble_eq_true hp) _) hS5
    have ea : marked [] (a.put (some p) (enc x)) = { tmps := (((rec_ .ready none).params.zip #[enc x]).foldl (fun tmps (t, a) => tmps.setIfInBounds t a) (rec_ .ready none).tmps), defers := [] } := by
      rw [marked_nil]
      simp only [Act.put, hh.defers]
      rw [zip1]
    have hden2 : den P fn R _ .normal (marked [] (a.put (some p) (enc x))) w2 := hden
    rw [ea] at hden2
    refine wpIn_mono (show assign.wpIn (Fence.wide.inRound (w.heap.size + 1)) 0 P _ _ _ from hden2) fun e1 a1 w3 hq => ?_
    cases e1 with
    | normal =>
      obtain ⟨w4, hb4, hd4⟩ := hq
      refine ⟨w4, hb4, wpIn_mono (show body.wpIn (Fence.wide.inRound (w.heap.size + 1)) 0 P _ _ _ from hd4) fun e2 a2 w5 hq2 => ?_⟩
      cases e2 with
      | normal =>
        obtain ⟨rfl, hS6⟩ := hq2
        have hS7 : Sat w2 Z2 (B .busy none ++ Hr) [] (F ++ Γ) w5 := Sat.unpack hS6
        have hl7 : w5.heap[w.heap.size + 1]? = some (.loop (rec_ .busy none)) := hS7.get (j := 1) rfl
        refine ⟨_, _, run_endRound none hl7, rfl, ?_⟩
        have := hS7.putObj (j := 1) (l := w.heap.size + 1) rfl (.loop (rec_ .ready none))
        have h8 : Sat w2 Z2 ((B .ready none ++ Hr) ++ []) [] (F ++ Γ) (w5.putObj (w.heap.size + 1) (.loop (rec_ .ready none))) := by rw [List.append_nil]; exact this
        exact Sat.pack h8
      | ret =>
        obtain ⟨q, rfl, hS6⟩ := hq2
        have hS7 : Sat w2 Z2 (B .busy none ++ Hx q) [] (F ++ Γ) w5 := Sat.unpack hS6
        have hl7 : w5.heap[w.heap.size + 1]? = some (.loop (rec_ .busy none)) := hS7.get (j := 1) rfl
        refine ⟨_, _, run_endRound (some .ret) hl7, rfl, ?_⟩
        have := hS7.putObj (j := 1) (l := w.heap.size + 1) rfl (.loop (rec_ .done (some .ret)))
        have h8 : Sat w2 Z2 ((B .done (some .ret) ++ Hx q) ++ []) [] (F ++ Γ) (w5.putObj (w.heap.size + 1) (.loop (rec_ .done (some .ret)))) := by rw [List.append_nil]; exact this
        exact Sat.pack h8
      | _ => exact hq2.elim
    | _ => exact hq.elim
  refine (hc Y e r _ J Jx (F ++ Γ) hM hY W1 Z hZ').mono ?_
  rintro en w3 ⟨⟨v, rfl⟩, hen⟩
  have ew : ∀ D, ({ marked (marksOf k) a with defers := [{ target := .collected D, args := #[] }] ++ (marked (marksOf k) a).defers } : Act) = marked (marksOf (.mark D :: k)) a := fun D => by
    simp [marked, marksOf, hh.defers]
  rcases hen with ⟨hee, hS3⟩ | hS3
  · have hS4 : Sat w0 T Hi [J] (F ++ Γ) w3 := by
      have := hback _ _ _ _ hS3
      rw [List.append_nil, List.append_nil] at this
      exact this.less fun φ hφ => List.mem_append_right _ hφ
    have hS5 := Sat.unpack hS4
    have hl : w3.heap[w.heap.size + 1]? = some (.loop (rec_ .ready none)) := hS5.get (j := 1) rfl
    refine ⟨none, _, run_endLoop hl (by simp [rec_]), ?_⟩
    have hS6 := hS5.putObj (j := 1) (l := w.heap.size + 1) rfl (.loop { rec_ .ready none with state := .exhausted })
    have hS7 : Sat w0 T ((Hi ++ Hr) ++ [(w.heap.size, .deferred (some []))]) [] (F ++ Γ) (w3.putObj (w.heap.size + 1) (.loop { rec_ .ready none with state := .exhausted })) := by
      refine Sat.drop1 (p := (w.heap.size + 1, .loop { rec_ .ready none with state := .exhausted })) (hS6.perm ?_)
      refine (List.Perm.swap _ _ _).trans (List.Perm.cons _ ?_)
      exact (List.Perm.cons _ List.perm_append_comm).trans (List.perm_append_comm (l₁ := [_]))
    have := hnorm hee _ a _ hh hS7
    rw [ew]
    exact this
  · have hS4 : Sat w0 T Hi [Jx r] (F ++ Γ) w3 := by
      have := hback _ _ _ _ hS3
      rw [List.append_nil, List.append_nil] at this
      exact this.less fun φ hφ => List.mem_append_right _ hφ
    have hS5 := Sat.unpack hS4
    have hl : w3.heap[w.heap.size + 1]? = some (.loop (rec_ .done (some .ret))) := hS5.get (j := 1) rfl
    refine ⟨some .ret, _, run_endLoop hl (by simp [rec_]), ?_⟩
    have hS6 := hS5.putObj (j := 1) (l := w.heap.size + 1) rfl (.loop { rec_ .done (some .ret) with state := .exhausted })
    have hS7 : Sat w0 T ((Hi ++ Hx r) ++ [(w.heap.size, .deferred (some []))]) [] (F ++ Γ) (w3.putObj (w.heap.size + 1) (.loop { rec_ .done (some .ret) with state := .exhausted })) := by
      refine Sat.drop1 (p := (w.heap.size + 1, .loop { rec_ .done (some .ret) with state := .exhausted })) (hS6.perm ?_)
      refine (List.Perm.swap _ _ _).trans (List.Perm.cons _ ?_)
      exact (List.Perm.cons _ List.perm_append_comm).trans (List.perm_append_comm (l₁ := [_]))
    have h9 := hstop _ a _ hh hS7
    have h10 : cw (modeOf (.mark w.heap.size :: k)) P .ret (den P fn R (.mark w.heap.size :: k)) (marked (marksOf (.code .ret :: .mark w.heap.size :: k)) a) _ := h9
    rw [show modeOf (.mark w.heap.size :: k) = none from hmo] at h10
    rw [ew]
    exact wpIn_wide.2 h10
end
end Eng

/- THE ENGINE, part 17: a strings.Builder that a function makes, writes and reads. -/
namespace Eng
open Go Go.RowKit
set_option linter.unusedVariables false
set_option linter.unusedSimpArgs false

/-! ### The builder -/
def Bld (T e B b : Nat) (s : ByteArray) : Pr := Lib.IsBuilder T e B b (Lib.byteCells s.data.toList)

theorem Bld.loc {T e B b : Nat} {s : ByteArray} {w : World} (h : Bld T e B b s w) : ∃ F, Loc F (Bld T e B b s) w ∧ F.Nodup ∧ ∀ k ∈ F, B ≤ k := by
  have key : ∀ p, Lib.BuilderAt T e B b p (Lib.byteCells s.data.toList) w → ∃ F : List Nat, F.Nodup ∧ (∀ k ∈ F, B ≤ k) ∧ (∀ k ∈ F, k < w.heap.size) ∧ ∀ w' : World, (∀ k ∈ F, w'.heap[k]? = w.heap[k]?) → Lib.BuilderAt T e B b p (Lib.byteCells s.data.toList) w' := by
    rintro p ⟨hB, v, hb, ⟨hl, hv⟩, hne⟩
    have hbl := (Array.getElem?_eq_some_iff.1 hb).1
    rcases hv with ⟨rfl, hn⟩ | ⟨g, cap, cur, rfl, hg, hc, h1, h2, h3, h4⟩
    · refine ⟨[b], by simp, by simpa using hB, by simpa using hbl, fun w' hw' => ⟨hB, _, by rw [hw' b (by simp)]; exact hb, ⟨hl, .inl ⟨rfl, hn⟩⟩, hne⟩⟩
    · have hgl := (Array.getElem?_eq_some_iff.1 hc).1
      have hgb : b ≠ g := fun e => hne (by rw [e]; rfl)
      refine ⟨[b, g], by simpa using hgb, by simp; exact ⟨hB, hg⟩, by simp; exact ⟨hbl, hgl⟩, fun w' hw' => ⟨hB, _, by rw [hw' b (by simp)]; exact hb, ⟨hl, .inr ⟨g, cap, cur, rfl, hg, by rw [hw' g (by simp)]; exact hc, h1, h2, h3, h4⟩⟩, hne⟩⟩
  rcases h with h | h
  · obtain ⟨F, a1, a2, a3, a4⟩ := key _ h
    exact ⟨F, ⟨.inl h, a3, fun w' hw' => .inl (a4 w' hw')⟩, a1, a2⟩
  · obtain ⟨F, a1, a2, a3, a4⟩ := key _ h
    exact ⟨F, ⟨.inr h, a3, fun w' hw' => .inr (a4 w' hw')⟩, a1, a2⟩

section
variable {w w' : World} {Z : Zone} {Φ : List Pr} {T e b : Nat} {s : ByteArray}
theorem Sat.noT (hS : Sat w Z [] [] Φ w) : ∃ Z0 : Zone, Z0.t = [] ∧ Sat w Z0 [] [] Φ w ∧ ∀ w', Sat w Z0 [] [] Φ w' → Sat w Z [] [] Φ w' := by
  refine ⟨⟨[], fun k => Z.a k ∨ k ∈ Z.t⟩, rfl, ?_, fun w' h => ?_⟩
  · obtain ⟨Fs, o⟩ := hS.own
    refine ⟨rfl, rfl, rfl, Nat.le_refl _, fun _ _ _ => rfl, [], ⟨by simp [keys], by simp [keys], by simp, trivial, fun φ hφ => ?_⟩⟩
    obtain ⟨F, a1, a2, a3⟩ := o.ro φ hφ
    exact ⟨F, a1, by simp [keys], fun k hk => (a3 k hk).elim (fun h => .inl (.inl h)) fun h => h.elim (fun h => .inl (.inr h)) fun h => .inr (.inr h)⟩
  · obtain ⟨Fs, o⟩ := h.own
    refine ⟨h.os, h.tape, h.output, h.size, fun k hk _ => h.frame k hk (by simp), [], ⟨by simp [keys], by simp [keys], by simp, trivial, fun φ hφ => ?_⟩⟩
    obtain ⟨F, a1, a2, a3⟩ := o.ro φ hφ
    exact ⟨F, a1, by simp [keys], fun k hk => (a3 k hk).elim (fun h => h.elim .inl fun h => .inr (.inl h)) fun h => h.elim (fun h => nomatch h) fun h => .inr (.inr h)⟩

theorem Sat.ofBelow (hS : Sat w Z [] [] Φ w) (hb : Below w.heap.size w w') : Sat w Z [] [] Φ w' := hS.away hb.os hb.tape hb.output hb.size hb.block

theorem Sat.ofBld (hS : Sat w Z [] [] Φ w) (hb : Below w.heap.size w w') (h : Bld T e w.heap.size b s w') : Sat w Z [] [Bld T e w.heap.size b s] Φ w' := by
  obtain ⟨F, hl, hn, hF⟩ := h.loc
  obtain ⟨Fs, o⟩ := hS.own
  refine ⟨hb.os, hb.tape, hb.output, hb.size, fun k hk _ => hb.block k hk, [F], ⟨by simpa [keys] using hn, fun k hk => ?_, by simp, ⟨hl, trivial⟩, fun φ hφ => ?_⟩⟩
  · have hk' : k ∈ F := by simpa [keys] using hk
    exact ⟨.inr (hF k hk'), hl.lt k hk'⟩
  · obtain ⟨F', a1, a2, a3⟩ := o.ro φ hφ
    exact ⟨F', a1.mono hb.size fun k hk => hb.block k (a1.lt k hk), fun k hk hk' => by
      have h1 := a1.lt k hk
      have h2 := hF k (by simpa [keys] using hk')
      omega, a3⟩

theorem Sat.below' {H : Heap} {G : List Pr} (hz : Z.t = []) (h : Sat w Z H G Φ w') : Below w.heap.size w w' := ⟨h.os, h.tape, h.output, h.size, fun k hk => h.frame k hk (by simp [hz])⟩
theorem Sat.bld (h : Sat w Z [] [Bld T e w.heap.size b s] Φ w') : Bld T e w.heap.size b s w' := by
  obtain ⟨Fs, o⟩ := h.own
  cases Fs with
  | nil => exact o.g.elim
  | cons F Fs => exact o.g.1.now

theorem WP.bldNew {P : Program} {fn : Func} {R : Ending → World → Prop} {N : Nat} {k : List KI} {L : Env} (hz : Z.t = []) (hS : Sat w Z [] [] Φ w) (h : WP P fn R N k L (Sat w Z [] [Bld T e w.heap.size b ⟨#[]⟩] Φ)) :
    WP P fn R N k L (Sat w Z [(b, .cells #[.pointer none, .slice none 0 0] T (0, 0))] [] Φ) := fun a w' hh hw => by
  refine h a w' hh (hS.ofBld (hw.below' hz) (.inl ⟨?_, _, hw.get (j := 0) rfl, ⟨rfl, .inl ⟨rfl, rfl⟩⟩, by simp [Value.ownBlock]⟩))
  obtain ⟨Fs, o⟩ := hw.own
  rcases (o.mine b (by simp [keys])).1 with h1 | h1
  · simp [hz] at h1
  · exact h1

def bldS (x y : ByteArray) : Option ByteArray := if x.size + y.size ≤ 140737488355328 then some (x ++ y) else none

section
variable {P : Program} {N : Nat} {ops : Array Oper} {Q : Exit → Act → World → Prop} {o : Oper} {l : List Oper} {L L' : Env} {ρ : Go.Shelf.Ren}
theorem WL.bldWrite (LY : Go.Proofs.Lays.n166 P ρ) (X : Go.Proofs.Builder.Extra P ρ) (hz : Z.t = []) (hS : Sat w Z [] [] Φ w) (hs bs : List Nat) (t s t' : ByteArray)
    (he : enterE P o L [] hs = some (ρ.f 166, #[.pointer (some ⟨b, 0, none⟩), .string s], bs, bs)) (ht : bldS t s = some t') (hg : wantedE ops L o = some true) (hp : putE N o (.tuple #[.int .i64 s.size, .nilIface]) L = some L')
    (h : WL P N ops Q l L' (Sat w Z [] [Bld (ρ.t 72) (ρ.t 5) w.heap.size b t'] Φ)) : WL P N ops Q (o :: l) L (Sat w Z [] [Bld (ρ.t 72) (ρ.t 5) w.heap.size b t] Φ) := by
  unfold bldS at ht
  split at ht
  · rename_i hlen
    obtain rfl := Option.some.inj ht
    refine WL.call (X := Unit) hs bs (fun _ => .tuple #[.int .i64 s.size, .nilIface]) (fun _ => Sat w Z [] [Bld (ρ.t 72) (ρ.t 5) w.heap.size b (t ++ s)] Φ) (fun _ => L') he hg (fun w1 hw => ?_) (fun _ => hp) (fun _ => h)
    have hB := hw.below' hz
    refine (Go.Proofs.Any.Builder_WriteString LY X w.heap.size b _ s w1 hw.bld (by rw [Lib.byteCells_length]; exact hlen) hB.size).mono fun e w2 ⟨he, h1, h2⟩ => ⟨(), he, hS.ofBld (hB.trans h2) (.inr ?_)⟩
    rw [Lib.strCells_eq, ← Lib.byteCells_append] at h1
    simpa using h1
  · cases ht

theorem WL.bldString (LY : Go.Proofs.Lays.n169 P ρ) (X : Go.Proofs.Builder.Extra P ρ) (hz : Z.t = []) (hS : Sat w Z [] [] Φ w) (hs bs : List Nat) (t : ByteArray)
    (he : enterE P o L [] hs = some (ρ.f 169, #[.pointer (some ⟨b, 0, none⟩)], bs, bs)) (hg : wantedE ops L o = some true) (hp : putE N o (.string t) L = some L')
    (h : WL P N ops Q l L' (Sat w Z [] [] Φ)) : WL P N ops Q (o :: l) L (Sat w Z [] [Bld (ρ.t 72) (ρ.t 5) w.heap.size b t] Φ) := by
  refine WL.call (X := Unit) hs bs (fun _ => .string t) (fun _ => Sat w Z [] [] Φ) (fun _ => L') he hg (fun w1 hw => ?_) (fun _ => hp) (fun _ => h)
  have hB := hw.below' hz
  exact (Go.Proofs.Any.Builder_String_any LY X w.heap.size b t.data.toList w1 hw.bld hB.size).mono fun e w2 ⟨he, h2⟩ => ⟨(), by rw [he], hS.ofBelow (hB.trans h2)⟩
end
end
end Eng

/- THE ENGINE, part 18: the rules that reckon, told by what is new alone. -/
namespace Eng
open Go
set_option linter.unusedVariables false
set_option linter.unusedSimpArgs false

def keysE (D : Env) : List Nat := D.map (·.1)
/-- What is written is told, or was not known. -/
def okK (l : List Oper) (D L : Env) : Bool := l.all fun o => match o.dst with
  | none => true
  | some d => (look D d).isSome || (look L d).isNone
def bsOf (H : Heap) (hs : List Nat) : List Nat := (hs.map fun j => ((H[j]?).map (·.1)).getD 0).reverse
def bsQ (H : Heap) (hs : List Nat) : List Nat := hs.map fun j => ((H[j]?).map (·.1)).getD 0
def setC (cs : Array Value) (i : Nat) : List Value → Array Value
  | [] => cs
  | v :: r => setC (cs.setIfInBounds i v) (i + 1) r
def setO (i : Nat) (vs : List Value) : Obj → Obj
  | .cells cs e fr => .cells (setC cs i vs) e fr
  | o => o
def modH : Heap → Nat → (Obj → Obj) → Heap
  | [], _, _ => []
  | (b, o) :: H, 0, f => (b, f o) :: H
  | p :: H, j + 1, f => p :: modH H j f
/-- Cells that turn: of which block, from which cell on, to what. -/
def upH : List (Nat × Nat × List Value) → Heap → Heap
  | [], H => H
  | (j, i, vs) :: r, H => upH r (modH H j (setO i vs))

theorem look_append (D L : Env) (t : Nat) : look (D ++ L) t = (look D t).or (look L t) := by
  induction D with
  | nil => rfl
  | cons p D ih =>
    obtain ⟨k, v⟩ := p
    simp only [List.cons_append, look]
    split
    · rfl
    · exact ih

theorem putE_keep {N : Nat} {o : Oper} {v : Value} {L L' : Env} {t : Nat} (h : putE N o v L = some L') (ht : o.dst ≠ some t) : look L' t = look L t := by
  unfold Eng.putE at h
  split at h
  · rw [← Option.some.inj h]
  · rename_i d hd
    split at h
    · rw [← Option.some.inj h]
      have : Nat.beq d t = false := by
        rw [Bool.eq_false_iff]; intro hh; exact ht (hd.trans (congrArg some (Nat.eq_of_beq_eq_true hh)))
      simp [look, this]
    · cases h

theorem evOps_keep {P : Program} {N : Nat} {ops : Array Oper} {t : Nat} : ∀ (l : List Oper) (L : Env) (s : St) (L' : Env) (s' : St), evOps P N ops l L s = some (L', s') → (∀ o ∈ l, o.dst ≠ some t) → look L' t = look L t
  | [], L, s, L', s', h, _ => by
    simp only [evOps, Option.some.injEq, Prod.mk.injEq] at h
    rw [h.1]
  | o :: l, L, s, L', s', h, ht => by
    simp only [evOps] at h
    have h0 := ht o (List.mem_cons_self ..)
    have h1 := fun o' ho' => ht o' (List.mem_cons_of_mem _ ho')
    split at h
    · cases h
    · split at h
      · rename_i L1 hL1
        rw [evOps_keep l _ _ _ _ h h1, putE_keep hL1 h0]
      · cases h
    · split at h
      · rename_i L1 s1 hE
        rw [evOps_keep l _ _ _ _ h h1]
        unfold evOp at hE
        split at hE
        · cases hE
        · split at hE
          · simp only [Option.map_eq_some_iff, Prod.mk.injEq] at hE
            obtain ⟨L2, hL2, rfl, _⟩ := hE
            exact putE_keep hL2 h0
          · simp only [Option.map_eq_some_iff, Prod.mk.injEq] at hE
            obtain ⟨L2, hL2, rfl, _⟩ := hE
            exact putE_keep hL2 h0
          · cases hE
      · cases h

theorem quietOps_keep {P : Program} {N : Nat} {ops : Array Oper} {H : Heap} {t : Nat} : ∀ (l : List Oper) (L : Env) (hs : List Nat) (L' : Env) (es : List (Nat × Nat)), quietOps P N ops H l L hs = some (L', es) → (∀ o ∈ l, o.dst ≠ some t) → look L' t = look L t
  | [], L, hs, L', es, h, _ => by
    simp only [quietOps, Option.some.injEq, Prod.mk.injEq] at h
    rw [h.1]
  | o :: l, L, hs, L', es, h, ht => by
    simp only [quietOps] at h
    have h0 := ht o (List.mem_cons_self ..)
    have h1 := fun o' ho' => ht o' (List.mem_cons_of_mem _ ho')
    split at h
    · cases h
    · split at h
      · rename_i L1 hL1
        rw [quietOps_keep l _ _ _ _ h h1, putE_keep hL1 h0]
      · cases h
    · split at h
      · cases h
      · split at h
        · split at h
          · rename_i L1 hL1
            simp only [Option.map_eq_some_iff, Prod.mk.injEq, Prod.exists] at h
            obtain ⟨L2, es2, h2, rfl, rfl⟩ := h
            rw [quietOps_keep l _ _ _ _ h2 h1, putE_keep hL1 h0]
          · cases h
        · cases h

theorem Has.delta {N : Nat} {a : Act} {L L1 D : Env} {l : List Oper} (h : Has N a L1) (hD : Eng.restr (keysE D) L1 = D) (hK : okK l D L = true) (hkeep : ∀ t, (∀ o ∈ l, o.dst ≠ some t) → ∀ v, look L t = some v → look L1 t = some v) : Has N a (D ++ L) := by
  refine ⟨h.size, h.defers, fun t v ht => h.has t v ?_⟩
  rw [look_append] at ht
  cases hd : look D t with
  | some u =>
    rw [hd] at ht
    obtain rfl := Option.some.inj ht
    rw [← hD] at hd
    exact look_restr hd
  | none =>
    rw [hd] at ht
    have hL : look L t = some v := ht
    refine hkeep t (fun o ho e => ?_) v hL
    have := List.all_eq_true.1 hK o ho
    rw [e] at this
    simp [hd, hL] at this

theorem runOpsD_wp {P : Program} {N : Nat} {ops : Array Oper} {Q : Exit → Act → World → Prop} {w0 : World} {T : Zone} {G Φ : List Pr} {l r : List Oper} {L L0 D : Env} {H H' : Heap} {hs bs : List Nat} {a : Act} {w : World}
    (h : runOps P N ops l L0 H w.heap.size hs (keysE D) = some (D, H', bs, bs)) (hK : okK l D L = true) (hsub : ∀ t v, look L t = some v → look L0 t = some v) (hh : Has N a L0) (hS : Sat w0 T H G Φ w)
    (hk : ∀ a' w', Has N a' (D ++ L) → Sat w0 T H' G Φ w' → wpList P ops Q r a' w') : wpList P ops Q (l ++ r) a w := by
  unfold runOps at h
  split at h
  · rename_i L1 s1 h1
    simp only [Option.some.injEq, Prod.mk.injEq] at h
    obtain ⟨hD, rfl, e1, e2⟩ := h
    exact evOps_wp l L0 _ L1 s1 a w h1 (esOk_of_map (e1.trans e2.symm)) rfl hh hS fun a' w' ha hw => hk a' w' (ha.delta hD hK fun t ht v hv => by rw [evOps_keep _ _ _ _ _ h1 ht]; exact hsub t v hv) hw
  · cases h

theorem runQuietD_wp {P : Program} {N : Nat} {ops : Array Oper} {w0 : World} {T : Zone} {H : Heap} {G Φ : List Pr} {Q : Act → Prop} {l r : List Oper} {L L0 D : Env} {hs bs : List Nat} {a : Act} (h : runQuiet P N ops H l L0 hs (keysE D) = some (D, bs, bs)) (hK : okK l D L = true) (hsub : ∀ t v, look L t = some v → look L0 t = some v) (hh : Has N a L0)
    (hk : ∀ a', Has N a' (D ++ L) → wpQuiet P ops (Sat w0 T H G Φ) Q r a') : wpQuiet P ops (Sat w0 T H G Φ) Q (l ++ r) a := by
  unfold runQuiet at h
  split at h
  · rename_i L1 es h1
    simp only [Option.some.injEq, Prod.mk.injEq] at h
    obtain ⟨hD, e1, e2⟩ := h
    exact quietOps_wp l L0 hs L1 es a h1 (esOk_of_map (e1.trans e2.symm)) hh fun a' ha => hk a' (ha.delta hD hK fun t ht v hv => by rw [quietOps_keep _ _ _ _ _ h1 ht]; exact hsub t v hv)
  · cases h

theorem Has.over {N : Nat} {a : Act} {L : Env} {t : Nat} {v : Value} (h : Has N a L) (hv : look L t = some v) : Has N a ((t, v) :: L) := ⟨h.size, h.defers, fun t' u hu => by
  simp only [look] at hu
  by_cases e : t = t'
  · subst e
    have : Nat.beq t t = true := Nat.beq_refl t
    simp only [this] at hu
    exact h.has _ _ (hv.trans hu)
  · have : Nat.beq t t' = false := by
      rw [Bool.eq_false_iff]; intro hh; exact e (Nat.eq_of_beq_eq_true hh)
    simp only [this] at hu
    exact h.has _ _ hu⟩
theorem look_over {L : Env} {t : Nat} {v : Value} (hv : look L t = some v) (t' : Nat) (u : Value) (h : look L t' = some u) : look ((t, v) :: L) t' = some u := by
  simp only [look]
  by_cases e : t = t'
  · subst e
    have : Nat.beq t t = true := Nat.beq_refl t
    simp only [this]
    exact hv.symm.trans h
  · have : Nat.beq t t' = false := by
      rw [Bool.eq_false_iff]; intro hh; exact e (Nat.eq_of_beq_eq_true hh)
    simp only [this]
    exact h

section
variable {P : Program} {N : Nat} {ops : Array Oper} {Q : Exit → Act → World → Prop} {w0 : World} {T : Zone} {G Φ : List Pr} {l : List Oper} {L : Env} {H : Heap} {S : Pr}
/-- A stretch that writes no memory. -/
theorem WL.rn (k : Nat) (hs : List Nat) (D : Env) (hk : WL P N ops Q (l.drop k) (D ++ L) (Sat w0 T H G Φ)) (h : ∀ n, runOps P N ops (l.take k) L H n hs (keysE D) = some (D, H, bsOf H hs, bsOf H hs) := by intro n; kernel_rfl) (hK : okK (l.take k) D L = true := by kernel_rfl) :
    WL P N ops Q l L (Sat w0 T H G Φ) := fun a w hh hS => by
  have := runOpsD_wp (r := l.drop k) (Q := Q) (h w.heap.size) hK (fun _ _ h => h) hh hS fun a' w' ha hw => hk a' w' ha hw
  rwa [List.take_append_drop] at this
/-- A stretch that writes: new blocks from n on, and cells. -/
theorem WL.rh (k : Nat) (hs : List Nat) (D : Nat → Env) (U : Nat → List (Nat × Nat × List Value)) (A : Nat → Heap) (hk : ∀ n, WL P N ops Q (l.drop k) (D n ++ L) (Sat w0 T (upH (U n) (H ++ A n)) G Φ)) (h : ∀ n, runOps P N ops (l.take k) L H n hs (keysE (D n)) = some (D n, upH (U n) (H ++ A n), bsOf (H ++ A n) hs, bsOf (H ++ A n) hs) := by intro n; kernel_rfl) (hK : ∀ n, okK (l.take k) (D n) L = true := by intro n; kernel_rfl) :
    WL P N ops Q l L (Sat w0 T H G Φ) := fun a w hh hS => by
  have := runOpsD_wp (r := l.drop k) (Q := Q) (h w.heap.size) (hK _) (fun _ _ h => h) hh hS fun a' w' ha hw => hk _ a' w' ha hw
  rwa [List.take_append_drop] at this
/-- A Bool in a slot is both: what it decides ends in one. -/
theorem WL.bo (t : Nat) (c : Bool) (k : Nat) (hs hs' : List Nat) (D : Bool → Env) (hk : WL P N ops Q (l.drop k) (D c ++ L) (Sat w0 T H G Φ)) (hc : look L t = some (.bool c) := by kernel_rfl)
    (ht : ∀ n, runOps P N ops (l.take k) ((t, .bool true) :: L) H n hs (keysE (D true)) = some (D true, H, bsOf H hs, bsOf H hs) := by intro n; kernel_rfl) (hf : ∀ n, runOps P N ops (l.take k) ((t, .bool false) :: L) H n hs' (keysE (D false)) = some (D false, H, bsOf H hs', bsOf H hs') := by intro n; kernel_rfl)
    (hK : ∀ b, okK (l.take k) (D b) L = true := by intro b; kernel_rfl) : WL P N ops Q l L (Sat w0 T H G Φ) := fun a w hh hS => by
  have := runOpsD_wp (l := l.take k) (r := l.drop k) (Q := Q) (L := L) (L0 := (t, .bool c) :: L) (D := D c) (H := H) (H' := H) (hs := if c then hs else hs') (bs := bsOf H (if c then hs else hs')) (by cases c; exact hf _; exact ht _) (hK c) (look_over hc) (hh.over hc) hS fun a' w' ha hw => hk a' w' ha hw
  rwa [List.take_append_drop] at this
theorem WL.sp (t : Nat) (c : Bool) (ht : c = true → WL P N ops Q l ((t, .bool true) :: L) S) (hf : c = false → WL P N ops Q l ((t, .bool false) :: L) S) (hc : look L t = some (.bool c) := by kernel_rfl) : WL P N ops Q l L S := fun a w hh hS => by
  cases c
  · exact hf rfl a w (hh.over hc) hS
  · exact ht rfl a w (hh.over hc) hS
/-- What is known of a slot's Bool. -/
theorem WL.ov (t : Nat) {c v : Bool} (e : c = v) (h : WL P N ops Q l ((t, .bool v) :: L) S) (hc : look L t = some (.bool c) := by kernel_rfl) : WL P N ops Q l L S := fun a w hh hS => h a w (hh.over (e ▸ hc)) hS
end

section
variable {P : Program} {N : Nat} {ops : Array Oper} {Q : Act → Prop} {w0 : World} {T : Zone} {G Φ : List Pr} {l : List Oper} {L : Env} {H : Heap}
theorem QL.rn (k : Nat) (hs : List Nat) (D : Env) (hk : QL P N ops (Sat w0 T H G Φ) Q (l.drop k) (D ++ L)) (h : runQuiet P N ops H (l.take k) L hs (keysE D) = some (D, bsQ H hs, bsQ H hs) := by kernel_rfl) (hK : okK (l.take k) D L = true := by kernel_rfl) : QL P N ops (Sat w0 T H G Φ) Q l L := fun a hh => by
  have := runQuietD_wp (r := l.drop k) (Q := Q) (w0 := w0) (T := T) (G := G) (Φ := Φ) h hK (fun _ _ h => h) hh fun a' ha => hk a' ha
  rwa [List.take_append_drop] at this
theorem QL.bo (t : Nat) (c : Bool) (k : Nat) (hs hs' : List Nat) (D : Bool → Env) (hk : QL P N ops (Sat w0 T H G Φ) Q (l.drop k) (D c ++ L)) (hc : look L t = some (.bool c) := by kernel_rfl)
    (ht : runQuiet P N ops H (l.take k) ((t, .bool true) :: L) hs (keysE (D true)) = some (D true, bsQ H hs, bsQ H hs) := by kernel_rfl) (hf : runQuiet P N ops H (l.take k) ((t, .bool false) :: L) hs' (keysE (D false)) = some (D false, bsQ H hs', bsQ H hs') := by kernel_rfl)
    (hK : ∀ b, okK (l.take k) (D b) L = true := by intro b; kernel_rfl) : QL P N ops (Sat w0 T H G Φ) Q l L := fun a hh => by
  have := runQuietD_wp (l := l.take k) (r := l.drop k) (Q := Q) (w0 := w0) (T := T) (G := G) (Φ := Φ) (L := L) (L0 := (t, .bool c) :: L) (D := D c) (H := H) (hs := if c then hs else hs') (bs := bsQ H (if c then hs else hs')) (by cases c; exact hf; exact ht) (hK c) (look_over hc) (hh.over hc) fun a' ha => hk a' ha
  rwa [List.take_append_drop] at this
theorem QL.sp (t : Nat) (c : Bool) (ht : c = true → QL P N ops (Sat w0 T H G Φ) Q l ((t, .bool true) :: L)) (hf : c = false → QL P N ops (Sat w0 T H G Φ) Q l ((t, .bool false) :: L)) (hc : look L t = some (.bool c) := by kernel_rfl) : QL P N ops (Sat w0 T H G Φ) Q l L := fun a hh => by
  cases c
  · exact hf rfl a (hh.over hc)
  · exact ht rfl a (hh.over hc)
end

section
variable {P : Program} {fn : Func} {R : Ending → World → Prop} {N : Nat} {k : List KI} {L : Env} {w0 : World} {T : Zone} {H : Heap} {G Φ : List Pr} {id : Nat} {l : List Oper}
theorem WP.rn (hs : List Nat) (D : Env) (hk : WP P fn R N k (D ++ L) (Sat w0 T H G Φ)) (h : ∀ n, runOps P N l.toArray l L H n hs (keysE D) = some (D, H, bsOf H hs, bsOf H hs) := by intro n; kernel_rfl) (hK : okK l D L = true := by kernel_rfl) (hd : roundOk (modeOf k) l = true := by rfl) :
    WP P fn R N (.code (.region id l.toArray false) :: k) L (Sat w0 T H G Φ) := WP.region (fun a w hh hS => by
  have := runOpsD_wp (r := []) (Q := denM P fn R k) (h w.heap.size) hK (fun _ _ h => h) hh hS fun a' w' ha hw => hk a' w' ha hw
  rwa [List.append_nil] at this) hd
theorem WP.rh (hs : List Nat) (D : Nat → Env) (U : Nat → List (Nat × Nat × List Value)) (A : Nat → Heap) (hk : ∀ n, WP P fn R N k (D n ++ L) (Sat w0 T (upH (U n) (H ++ A n)) G Φ)) (h : ∀ n, runOps P N l.toArray l L H n hs (keysE (D n)) = some (D n, upH (U n) (H ++ A n), bsOf (H ++ A n) hs, bsOf (H ++ A n) hs) := by intro n; kernel_rfl) (hK : ∀ n, okK l (D n) L = true := by intro n; kernel_rfl) (hd : roundOk (modeOf k) l = true := by rfl) :
    WP P fn R N (.code (.region id l.toArray false) :: k) L (Sat w0 T H G Φ) := WP.region (fun a w hh hS => by
  have := runOpsD_wp (r := []) (Q := denM P fn R k) (h w.heap.size) (hK _) (fun _ _ h => h) hh hS fun a' w' ha hw => hk _ a' w' ha hw
  rwa [List.append_nil] at this) hd
theorem WP.kp (m : List Bool) (h : WP P fn R N k L (Sat w0 T (maskT m H) G Φ)) : WP P fn R N k L (Sat w0 T H G Φ) := WP.keep m rfl h
theorem WL.kp {ops : Array Oper} {Q : Exit → Act → World → Prop} (m : List Bool) (h : WL P N ops Q l L (Sat w0 T (maskT m H) G Φ)) : WL P N ops Q l L (Sat w0 T H G Φ) := WL.keep m rfl h
end
end Eng

/- THE ENGINE, part 6: from a law's walk to its row: the arguments opened, the row closed. -/
namespace Eng
open Go Go.RowKit Go.ChangeShapes
set_option linter.unusedVariables false
set_option linter.unusedSimpArgs false

/-- What the row gives about one argument. -/
def Arg (P : Program) (W : World) (t : TypeId) (v : Value) : Prop :=
  ∃ (H : Type) (enc : TypeId × Value → H) (base : Nat) (d : DataW H) (ps : List MemPlace),
    Value.okWide P W .any base t v ∧ DataW.Trod enc P W 0 (fun _ => true) true t v d ps ∧ (d.weights P t).all (· ≤ reachBytes) = true

theorem trodAll_each {H : Type} {enc : TypeId × Value → H} {P : Program} {W : World} {base : Nat} {sp : Nat → Bool} {held : Bool} : ∀ {ts : List TypeId} {vs : List Value} {ds : List (DataW H)} {ps : List MemPlace},
    DataW.TrodAll enc P W base sp held ts vs ds ps → vs.length = ts.length ∧ ds.length = ts.length ∧ ∀ (j : Nat) t v, ts[j]? = some t → vs[j]? = some v → ∃ d p, ds[j]? = some d ∧ DataW.Trod enc P W base sp held t v d p
  | [], vs, ds, ps, h => by
    obtain ⟨rfl, rfl, rfl⟩ := trodAll_nil h
    exact ⟨rfl, rfl, fun j t v ht => by simp at ht⟩
  | t :: ts, vs, ds, ps, h => by
    obtain ⟨v, vs', d, ds', p, q, rfl, rfl, rfl, h0, hr⟩ := trodAll_cons h
    obtain ⟨e1, e2, e3⟩ := trodAll_each hr
    refine ⟨by simp [e1], by simp [e2], fun j t' v' ht hv => ?_⟩
    cases j with
    | zero =>
      simp only [List.getElem?_cons_zero, Option.some.injEq] at ht hv
      subst ht; subst hv
      exact ⟨d, p, rfl, h0⟩
    | succ j =>
      simp only [List.getElem?_cons_succ] at ht hv ⊢
      exact e3 j t' v' ht hv

theorem trodAll_after {H : Type} {enc : TypeId × Value → H} {P : Program} (hl : laidOutB P = true) {W W' : World} (hb : Below W.heap.size W W') : ∀ {ts : List TypeId} {vs : List Value} {ds : List (DataW H)} {ps : List MemPlace},
    ts.all (fun t => P.readableRec t && decide (t < P.types.size)) = true → DataW.TrodAll enc P W 0 (fun _ => true) true ts vs ds ps →
    ∃ pa, DataW.TrodAll enc P W' 0 (fun b => decide (b < W.heap.size)) true ts vs ds pa
  | [], vs, ds, ps, _, h => by
    obtain ⟨rfl, rfl, rfl⟩ := trodAll_nil h
    exact ⟨[], trodAll_mk0⟩
  | t :: ts, vs, ds, ps, ht, h => by
    simp only [List.all_cons, Bool.and_eq_true, decide_eq_true_eq] at ht
    obtain ⟨v, vs', d, ds', p, q, rfl, rfl, rfl, h0, hr⟩ := trodAll_cons h
    obtain ⟨pa, hpa⟩ := trodAll_after hl hb ht.2 hr
    have hlt : ∀ x ∈ p, x.block < W.heap.size := by
      obtain ⟨m, hm⟩ := h0
      exact DataW.trod_lt m _ _ _ hm
    exact ⟨_, trodAll_cons_mk (Below.trod hl ht.1.1 ht.1.2 h0 hb hlt) hpa⟩

theorem Sat.below {w0 w : World} {Φ : List Pr} (h : Sat w0 ⟨[], fun _ => True⟩ [] [] Φ w) : Below w0.heap.size w0 w :=
  ⟨h.os, h.tape, h.output, h.size, fun k hk => h.frame k hk (by simp)⟩

theorem Sat.start {w : World} {φ : Pr} (hφ : ∃ F, Loc F φ w) : Sat w ⟨[], fun _ => True⟩ [] [] [φ] w := by
  obtain ⟨F, hF⟩ := hφ
  refine ⟨rfl, rfl, rfl, Nat.le_refl _, fun _ _ _ => rfl, [], by simp [keys], by simp [keys], by simp, trivial, fun ψ hψ => ?_⟩
  obtain rfl := List.mem_singleton.1 hψ
  exact ⟨F, hF, by simp [keys], fun k _ => .inl trivial⟩

theorem Loc.cellAt {w : World} {a : Addr} {v : Value} (h : w.cell? a = some v) : ∃ F, Loc F (fun w => w.cell? a = some v) w := by
  have hlt : a.block < w.heap.size := by
    apply Classical.byContradiction
    intro hn
    have : w.heap[a.block]? = none := Array.getElem?_eq_none (by omega)
    simp [World.cell?, this] at h
  refine ⟨[a.block], h, fun k hk => ?_, fun w' hk => ?_⟩
  · obtain rfl := List.mem_singleton.1 hk
    exact hlt
  · show w'.cell? a = some v
    rw [World.cell?_of_block (w := w) (hk a.block (by simp))]
    exact h

/-- THE ROW, out of the law's own walk. -/
theorem lift_law {C : Checked} {os : Os} {f : FuncId} {fn : Func} {s : ChangeSpec} {X : World → Prop} (tb : TypeId)
    (hX : ∀ w w' : World, w.heap = w'.heap → X w → X w') (own : ownKnob C.prog.godebug = none) (started : os.Started) (noInit : C.prog.inits.idxOf? f = none) (hfn : C.prog.funcs[f]? = some fn)
    (hvars : s.vars = []) (hspec : ∀ (H : Type) (ds : List (DataW H)), ds.length = fn.params.size → s.fn H ds = { results := [.lit (.bool true)], args := ds })
    (hres : fn.resultTypes = #[tb]) (htb : C.prog.underlying tb = some .bool) (hl : laidOutB C.prog = true)
    (hts : fn.params.toList.all (fun t => C.prog.readableRec t && decide (t < C.prog.types.size)) = true)
    (H : Type) (enc : TypeId × Value → H)
    (witness : ∃ (w : World) (tape : Tape) (i : Input), w.os = os ∧ (w.forCall tape i).Shaped C.prog ∧ i.vars = [] ∧ Input.okWide C.prog (w.forCall tape i) .any w.heap.size f i ∧
      ((s.pre enc C.prog fn [] false (w.forCall tape i).memory i.args ∧ X (w.forCall tape i).memory) ∧ sizedMet enc C.prog fn (OpenSpec.ofChange s) false (w.forCall tape i).memory i.args) ∧ ({} : Assume).holds C.prog (lone (Frame.enter C.prog f i.args .normal) [] (w.forCall tape i)))
    (hc : ∀ (W : World) (args : Array Value), args.size = fn.params.size → (∀ (j : Nat) t v, fn.params[j]? = some t → args[j]? = some v → Arg C.prog W t v) → X W →
      Calls C.prog f args W fun e w' => e = .returned (.bool true) ∧ Below W.heap.size W w') :
    ReturnsInHanded {} C os f .any (fun w args => (s.pre enc C.prog fn [] false w args ∧ X w) ∧ sizedMet enc C.prog fn (OpenSpec.ofChange s) false w args)
      (s.post enc C.prog fn false true false false) := by
  refine returnsInHanded_of_change_and (X := fun w _ => X w) (fun w w' _ hh h => hX w w' hh h) own started noInit hfn witness ?_
  intro W base args ds gs before hval hW _ hz hx _
  have hW' := hW
  obtain ⟨p, q, hA, hV, rfl, hfz, hnd⟩ := hW
  rw [hvars] at hV
  obtain ⟨rfl, rfl⟩ := trodVars_none hV
  obtain ⟨e1, e2, e3⟩ := trodAll_each hA
  simp only [Array.length_toList] at e1 e2
  have harg : ∀ (j : Nat) t v, fn.params[j]? = some t → args[j]? = some v → Arg C.prog W t v := fun j t v ht hv => by
    have ht' : fn.params.toList[j]? = some t := by simpa using ht
    have hv' : args.toList[j]? = some v := by simpa using hv
    obtain ⟨d, p0, hd, h0⟩ := e3 j t v ht' hv'
    refine ⟨H, enc, base, d, p0, hval j t v ht hv, h0, List.all_eq_true.2 fun n hn => ?_⟩
    refine List.all_eq_true.1 hz n (DataW.weights_mem_each (j := j) (t := t) (d := d) ?_ ?_ n hn)
    · rw [List.getElem?_append_left (by
        rcases Nat.lt_or_ge j fn.params.toList.length with h | h
        · exact h
        · rw [List.getElem?_eq_none h] at ht'; cases ht')]
      exact ht'
    · simpa using hd
  refine (hc W args e1 harg hx).mono fun e W' ⟨he, bel⟩ => ?_
  subst he
  obtain ⟨pa, hpa⟩ := trodAll_after hl bel hts hA
  have es := hspec H (ds ++ []) (by simpa using e2)
  refine ⟨_, rfl, _, _, _, [], pa, [], hW', ?_, ?_, ?_, bel.frame _, fun h => by cases h⟩
  · rw [es, hres]
    exact trodAll_mk1 (shut_bool htb true)
  · rw [es]
    simpa using hpa
  · rw [es, hvars]
    exact rfl

/-! ### Plain arguments: whole numbers, bools, strings, and structs of them -/
inductive Leaf where
  | bool
  | int (k : IntKind)
  | str

def Leaf.Val : Leaf → Value → Prop
  | .bool, v => ∃ b, v = .bool b
  | .int k, v => ∃ n, v = .int k n ∧ (Lit.int k n).wf = true
  | .str, v => ∃ s : ByteArray, v = .string s ∧ s.size ≤ reachBytes

def LeafAll : List Leaf → List Value → Prop
  | [], [] => True
  | l :: L, v :: vs => l.Val v ∧ LeafAll L vs
  | _, _ => False

theorem LeafAll.length : ∀ {L : List Leaf} {vs : List Value}, LeafAll L vs → vs.length = L.length
  | [], [], _ => rfl
  | l :: L, v :: vs, h => by simp [LeafAll.length h.2]
  | [], _ :: _, h => h.elim
  | _ :: _, [], h => h.elim

theorem LeafAll.append : ∀ {L M : List Leaf} {vs ws : List Value}, LeafAll L vs → LeafAll M ws → LeafAll (L ++ M) (vs ++ ws)
  | [], _, [], _, _, h => h
  | l :: L, _, v :: vs, _, h, h' => ⟨h.1, LeafAll.append h.2 h'⟩
  | [], _, _ :: _, _, h, _ => h.elim
  | _ :: _, _, [], _, h, _ => h.elim

def leavesF (P : Program) (g : TypeId → Option (List Leaf)) : Nat → List Field → Option (List Leaf)
  | _, [] => some []
  | o, f :: fs => match g f.type with
    | some L => if Nat.beq f.offset o && Nat.beq (P.cellsOf f.type) L.length then (match leavesF P g (o + L.length) fs with | some M => some (L ++ M) | none => none) else none
    | none => none

/-- The leaves of a plain type, in the order of its cells. -/
def leaves (P : Program) : Nat → TypeId → Option (List Leaf)
  | 0, _ => none
  | n + 1, t => match P.underlying t with
    | some .bool => some [.bool]
    | some (.int k) => some [.int k]
    | some .string => some [.str]
    | some (.struct fs) => match leavesF P (leaves P n) 0 fs.toList with
      | some L => if Nat.beq (P.cellsOf t) L.length then some L else none
      | none => none
    | _ => none

section
variable {H : Type} {enc : TypeId × Value → H} {P : Program} {w : World} {base : Nat} {sp : Nat → Bool} {held : Bool}

theorem trod_fields {g : TypeId → Option (List Leaf)} {m : Nat} {cs : List Value}
    (ih : ∀ t L, g t = some L → ∀ cs x, DataW.trod enc P w base sp held m t cs = some x → (x.1.weights P t).all (· ≤ reachBytes) = true → LeafAll L cs) :
    ∀ (fs : List Field) (o : Nat) (L : List Leaf) (xs : List (DataW H × List MemPlace)), leavesF P g o fs = some L →
      fs.mapM (fun f => DataW.trod enc P w base sp held m f.type ((cs.drop f.offset).take (P.cellsOf f.type))) = some xs →
      (DataW.weightsEach P (fs.map (·.type)) (xs.map (·.1))).all (· ≤ reachBytes) = true → LeafAll L ((cs.drop o).take L.length)
  | [], o, L, xs, hL, h, hw => by
    simp only [leavesF, Option.some.injEq] at hL
    subst hL
    exact trivial
  | f :: fs, o, L, xs, hL, h, hw => by
    simp only [leavesF] at hL
    split at hL
    · next L0 h0 =>
      split at hL
      · next hc =>
        simp only [Bool.and_eq_true, Nat.beq_eq] at hc
        split at hL
        · next M hM =>
          simp only [Option.some.injEq] at hL
          subst hL
          rw [List.mapM_cons] at h
          simp only [bind, Option.bind_eq_some_iff, pure, Option.some.injEq] at h
          obtain ⟨x, hx, ys, hys, rfl⟩ := h
          simp only [List.map_cons, DataW.weightsEach, List.all_append, Bool.and_eq_true] at hw
          have a1 := ih f.type L0 h0 _ x hx hw.1
          have a2 := trod_fields ih fs _ M ys hM hys hw.2
          rw [hc.1, hc.2] at a1
          have : (cs.drop o).take (L0 ++ M).length = (cs.drop o).take L0.length ++ (cs.drop (o + L0.length)).take M.length := by
            rw [List.length_append, List.take_add, List.drop_drop]
          rw [this]
          exact a1.append a2
        · cases hL
      · cases hL
    · cases hL

theorem trod_leaves : ∀ (n : Nat) (t : TypeId) (L : List Leaf), leaves P n t = some L → ∀ (m : Nat) (cs : List Value) (x : DataW H × List MemPlace),
    DataW.trod enc P w base sp held m t cs = some x → (x.1.weights P t).all (· ≤ reachBytes) = true → LeafAll L cs
  | 0, t, L, hL, _, _, _, _, _ => by cases hL
  | n + 1, t, L, hL, 0, cs, x, h, hw => by simp [DataW.trod] at h
  | n + 1, t, L, hL, m + 1, cs, x, h, hw => by
    unfold leaves at hL
    split at hL
    · next hu =>
      simp only [Option.some.injEq] at hL
      subst hL
      obtain ⟨b, rfl, _⟩ := DataW.trod_bool hu h
      exact ⟨⟨b, rfl⟩, trivial⟩
    · next k hu =>
      simp only [Option.some.injEq] at hL
      subst hL
      obtain ⟨b, rfl, _, hb⟩ := DataW.trod_int hu h
      exact ⟨⟨b, rfl, hb⟩, trivial⟩
    · next hu =>
      simp only [Option.some.injEq] at hL
      subst hL
      obtain ⟨b, rfl, rfl, hb⟩ := DataW.trod_string hu h
      refine ⟨⟨b, rfl, ?_⟩, trivial⟩
      simpa [DataW.weights] using hw
    · next fs hu =>
      split at hL
      · next L0 hL0 =>
        split at hL
        · next hlL =>
          simp only [Option.some.injEq] at hL
          subst hL
          simp only [Nat.beq_eq] at hlL
          simp only [DataW.trod, hu] at h
          split at h
          · next hlen =>
            simp only [Option.map_eq_some_iff] at h
            obtain ⟨xs, hxs, rfl⟩ := h
            simp only [DataW.weights, hu] at hw
            have := trod_fields (cs := cs) (fun t L hL cs x hx hw => trod_leaves n t L hL m cs x hx hw) fs.toList 0 L0 xs hL0 hxs hw
            rw [List.drop_zero, List.take_of_length_le (by rw [hlen, hlL]; exact Nat.le_refl _)] at this
            exact this
          · cases h
        · cases hL
      · cases hL
    · cases hL
end

theorem Arg.bool {P : Program} {W : World} {t : TypeId} {v : Value} (ht : P.underlying t = some .bool) (h : Arg P W t v) : ∃ b, v = .bool b := by
  obtain ⟨H, enc, base, d, ps, h1, h2, h3⟩ := h
  obtain ⟨b, rfl, _⟩ := open_bool ht h1 h2
  exact ⟨b, rfl⟩
theorem Arg.int {P : Program} {W : World} {t : TypeId} {v : Value} {k : IntKind} (ht : P.underlying t = some (.int k)) (h : Arg P W t v) : ∃ n, v = .int k n ∧ (Lit.int k n).wf = true := by
  obtain ⟨H, enc, base, d, ps, h1, h2, h3⟩ := h
  obtain ⟨b, rfl, _, _, hw⟩ := open_int ht h1 h2
  exact ⟨b, rfl, hw⟩
theorem Arg.str {P : Program} {W : World} {t : TypeId} {v : Value} (ht : P.underlying t = some .string) (h : Arg P W t v) : ∃ s : ByteArray, v = .string s ∧ s.size ≤ reachBytes := by
  obtain ⟨H, enc, base, d, ps, h1, h2, h3⟩ := h
  obtain ⟨b, rfl, rfl, _, _⟩ := Go.ChangeMaps.open_string ht h1 h2
  exact ⟨b, rfl, by simpa [DataW.weights] using h3⟩
theorem Arg.agg {P : Program} {W : World} {t : TypeId} {v : Value} {fs : Array Field} {L : List Leaf} (n : Nat) (ht : P.underlying t = some (.struct fs)) (hL : leaves P n t = some L) (h : Arg P W t v) : ∃ cs : List Value, v = .agg cs.toArray ∧ LeafAll L cs := by
  obtain ⟨H, enc, base, d, ps, h1, ⟨fuel, h2⟩, h3⟩ := h
  simp only [Value.okWide, ht] at h1
  obtain ⟨cs, rfl, _, _⟩ := h1
  exact ⟨cs.toList, rfl, trod_leaves n t L hL fuel _ _ h2 h3⟩

theorem LeafAll.cons {l : Leaf} {L : List Leaf} {vs : List Value} (h : LeafAll (l :: L) vs) : ∃ v vs', vs = v :: vs' ∧ l.Val v ∧ LeafAll L vs' := by
  cases vs with
  | nil => exact h.elim
  | cons v vs => exact ⟨v, vs, rfl, h.1, h.2⟩
theorem LeafAll.nil {vs : List Value} (h : LeafAll [] vs) : vs = [] := by
  cases vs with
  | nil => rfl
  | cons v vs => exact h.elim

theorem args_three {args : Array Value} (h : args.size = 3) : ∃ a b c, args = #[a, b, c] := by
  obtain ⟨l⟩ := args
  match l, h with
  | [a, b, c], _ => exact ⟨a, b, c, rfl⟩
theorem wf_i64 {n : Int} (h : (Lit.int .i64 n).wf = true) : -9223372036854775808 ≤ n ∧ n ≤ 9223372036854775807 := by
  simp [Lit.wf, IntKind.min, IntKind.max, IntKind.bits, IntKind.signed] at h; omega
theorem wf_u64 {n : Int} (h : (Lit.int .u64 n).wf = true) : 0 ≤ n ∧ n ≤ 18446744073709551615 := by
  simp [Lit.wf, IntKind.min, IntKind.max, IntKind.bits, IntKind.signed] at h; omega
theorem wf_u32 {n : Int} (h : (Lit.int .u32 n).wf = true) : 0 ≤ n ∧ n ≤ 4294967295 := by
  simp [Lit.wf, IntKind.min, IntKind.max, IntKind.bits, IntKind.signed] at h; omega
theorem noStand {P : Program} {fn : Func} (h : fn.params.toList.all (fun t => !P.wantsStandIn t) = true) (j : Nat) (t : TypeId) (ht : fn.params[j]? = some t) : P.wantsStandIn t = false := by
  have hm : t ∈ fn.params.toList := List.mem_of_getElem? (i := j) (by simpa using ht)
  simpa using List.all_eq_true.1 h t hm
end Eng

/- THE ENGINE, part 12: arguments with slices. -/
namespace Eng
open Go Go.RowKit
set_option linter.unusedVariables false
set_option linter.unusedSimpArgs false

/-- What a type's cells are: a content x, told by f with what is no part of it, s; inside, K. -/
def Dec {α σ : Type} (P : Program) (W : World) (e : TypeId) (f : α → σ → List Value) (K : α → σ → Pr) (Φ : α → Prop) : Prop :=
  ∀ (H : Type) (enc : TypeId × Value → H) (fuel : Nat) (cs : List Value) (d : DataW H × List MemPlace), DataW.trod enc P W 0 (fun _ => true) true fuel e cs = some d → (d.1.weights P e).all (· ≤ reachBytes) = true → ∃ x s, cs = f x s ∧ K x s W ∧ Φ x

section
variable {P : Program} {W : World} {t e : TypeId} {α σ : Type}

theorem Dec.int {k : IntKind} (ht : P.underlying t = some (.int k)) : Dec P W t (pl (fun n : Int => [.int k n])) noK (fun n => (Lit.int k n).wf = true) := fun H enc fuel cs d h hw => by
  obtain ⟨m, rfl⟩ : ∃ m, fuel = m + 1 := by
    cases fuel with
    | zero => simp [DataW.trod] at h
    | succ m => exact ⟨m, rfl⟩
  obtain ⟨b, rfl, _, hb⟩ := DataW.trod_int ht h
  exact ⟨b, (), rfl, trivial, hb⟩
theorem Dec.bool (ht : P.underlying t = some .bool) : Dec P W t (pl (fun n : Bool => [.bool n])) noK (fun _ => True) := fun H enc fuel cs d h hw => by
  obtain ⟨m, rfl⟩ : ∃ m, fuel = m + 1 := by
    cases fuel with
    | zero => simp [DataW.trod] at h
    | succ m => exact ⟨m, rfl⟩
  obtain ⟨b, rfl, _⟩ := DataW.trod_bool ht h
  exact ⟨b, (), rfl, trivial, trivial⟩
theorem Dec.str (ht : P.underlying t = some .string) : Dec P W t (pl (fun n : ByteArray => [.string n])) noK (fun s => s.size ≤ reachBytes) := fun H enc fuel cs d h hw => by
  obtain ⟨m, rfl⟩ : ∃ m, fuel = m + 1 := by
    cases fuel with
    | zero => simp [DataW.trod] at h
    | succ m => exact ⟨m, rfl⟩
  obtain ⟨b, rfl, hx, hb⟩ := DataW.trod_string ht h
  subst hx
  exact ⟨b, (), rfl, trivial, by simpa [DataW.weights] using hw⟩

/-! ### Structs -/
def consecB (P : Program) (tot : Nat) : Nat → List Field → Bool
  | o, [] => Nat.beq o tot
  | o, f :: fs => Nat.beq f.offset o && consecB P tot (o + P.cellsOf f.type) fs
theorem consec_cut {P : Program} {cs : List Value} : ∀ (fs : List Field) (o : Nat), consecB P cs.length o fs = true → (fs.map fun f => (cs.drop f.offset).take (P.cellsOf f.type)).flatten = cs.drop o
  | [], o, h => by
    have := Nat.eq_of_beq_eq_true h
    rw [this]; simp
  | f :: fs, o, h => by
    simp only [consecB, Bool.and_eq_true, Nat.beq_eq] at h
    rw [List.map_cons, List.flatten_cons, consec_cut fs _ h.2, h.1]
    rw [← List.drop_drop, List.take_append_drop]

def PartsAll {β : Type} (D : TypeId → β → Prop) : List TypeId → List β → Prop
  | [], [] => True
  | t :: ts, p :: ps => D t p ∧ PartsAll D ts ps
  | _, _ => False
theorem PartsAll.cons {β : Type} {D : TypeId → β → Prop} {t : TypeId} {ts : List TypeId} {ps : List β} (h : PartsAll D (t :: ts) ps) : ∃ p ps', ps = p :: ps' ∧ D t p ∧ PartsAll D ts ps' := by
  cases ps with
  | nil => exact h.elim
  | cons p ps => exact ⟨p, ps, rfl, h.1, h.2⟩
theorem PartsAll.nil {β : Type} {D : TypeId → β → Prop} {ps : List β} (h : PartsAll D [] ps) : ps = [] := by
  cases ps with
  | nil => rfl
  | cons p ps => exact h.elim
theorem PartsAll.of {β : Type} {D : TypeId → β → Prop} : ∀ {ts : List TypeId} {ps : List β}, ps.length = ts.length → (∀ (i : Nat) t p, ts[i]? = some t → ps[i]? = some p → D t p) → PartsAll D ts ps
  | [], [], _, _ => trivial
  | t :: ts, p :: ps, hl, h => ⟨h 0 t p rfl rfl, PartsAll.of (by simpa using hl) fun i t' p' h1 h2 => h (i + 1) t' p' h1 h2⟩
  | [], _ :: _, hl, _ => by simp at hl
  | _ :: _, [], hl, _ => by simp at hl

/-- One part of a struct, read. -/
def Trodden (P : Program) (W : World) (H : Type) (enc : TypeId × Value → H) (t : TypeId) (p : List Value) : Prop :=
  ∃ (fuel : Nat) (d : DataW H × List MemPlace), DataW.trod enc P W 0 (fun _ => true) true fuel t p = some d ∧ (d.1.weights P t).all (· ≤ reachBytes) = true

theorem Dec.fields {fs : Array Field} (ts : List TypeId) (ht : P.underlying t = some (.struct fs)) (hts : fs.toList.map (·.type) = ts) (hc : consecB P (P.cellsOf t) 0 fs.toList = true) {H : Type} {enc : TypeId × Value → H} {fuel : Nat} {cs : List Value} {d : DataW H × List MemPlace}
    (h : DataW.trod enc P W 0 (fun _ => true) true fuel t cs = some d) (hw : (d.1.weights P t).all (· ≤ reachBytes) = true) : ∃ ps : List (List Value), PartsAll (Trodden P W H enc) ts ps ∧ cs = ps.flatten := by
  obtain ⟨xs, n, rfl, rfl, hl, hxl, hel⟩ := DataW.trod_struct ht h
  refine ⟨fs.toList.map fun f => (cs.drop f.offset).take (P.cellsOf f.type), PartsAll.of (by rw [List.length_map, ← hts, List.length_map]) fun i u p h1 h2 => ?_, ?_⟩
  · rw [← hts, List.getElem?_map, Option.map_eq_some_iff] at h1
    obtain ⟨f, hf, rfl⟩ := h1
    rw [List.getElem?_map, hf, Option.map_some, Option.some.injEq] at h2
    subst h2
    have hf' : fs[i]? = some f := by rw [← Array.getElem?_toList]; exact hf
    have h3 := hel i f hf'
    have hlt : i < xs.length := by
      have := (Array.getElem?_eq_some_iff.1 hf').1
      omega
    rw [List.getElem?_eq_getElem hlt] at h3
    refine ⟨n, xs[i], h3, List.all_eq_true.2 fun q hq => ?_⟩
    simp only [DataW.weights, ht] at hw
    refine List.all_eq_true.1 hw q (DataW.weights_mem_each (j := i) (t := f.type) (d := xs[i].1) ?_ ?_ q hq)
    · rw [List.getElem?_map, hf]; rfl
    · rw [List.getElem?_map, List.getElem?_eq_getElem hlt]; rfl
  · rw [consec_cut fs.toList 0 (by rw [hl]; exact hc), List.drop_zero]

/-! ### Slices -/
theorem all_weights {H : Type} {P : Program} {e : TypeId} : ∀ {l : List (DataW H)} {d : DataW H}, d ∈ l → ∀ n ∈ d.weights P e, n ∈ DataW.weightsAll P e l
  | [], _, h, _, _ => by cases h
  | x :: l, d, h, n, hn => by
    rw [DataW.weightsAll, List.mem_append]
    rw [List.mem_cons] at h
    rcases h with rfl | h
    · exact .inl hn
    · exact .inr (all_weights h n hn)

theorem cells_get {w : World} {a : Addr} {n : Nat} {cs : List Value} (h : w.cells? 0 a n = some cs) : cs.length = n ∧ ∀ j v, cs[j]? = some v → w.cell? (a.add j) = some v := by
  unfold World.cells? at h
  rw [if_pos (Nat.zero_le _)] at h
  have hl := mapM_some_length h
  rw [List.length_range] at hl
  refine ⟨hl, fun j v hv => ?_⟩
  have hj : j < n := by
    have := (List.getElem?_eq_some_iff.1 hv).1
    omega
  have := mapM_some_get h j j (by rw [List.getElem?_range hj])
  rw [this, hv]

theorem Dec.mono {f : α → σ → List Value} {K : α → σ → Pr} {Φ Φ' : α → Prop} (hD : Dec P W e f K Φ) (h : ∀ x, Φ x → Φ' x) : Dec P W e f K Φ' := fun H enc fuel cs d h1 h2 => by
  obtain ⟨x, s, a, b, c⟩ := hD H enc fuel cs d h1 h2
  exact ⟨x, s, a, b, h x c⟩

theorem Dec.slice {m by_ : Nat} {f : α → σ → List Value} {K : α → σ → Pr} {Φ : α → Prop} (dx : α) (ds : σ) (ht : P.underlying t = some (.slice e)) (hm : P.cellsOf e = m) (h0 : 0 < m) (hf : ∀ x s, (f x s).length = m) (hb : P.bytesOf e = by_) (hD : Dec P W e f K Φ) :
    Dec P W t (fun (xs : List α) (s : SkL σ) => [slcV s xs.length]) (fun xs s => Row m f K s xs) (fun xs => (∀ x ∈ xs, Φ x) ∧ xs.length * by_ ≤ reachBytes) := fun H enc fuel cs d h hw => by
  subst hb
  rcases DataW.trod_slice ht h with ⟨rfl, rfl⟩ | ⟨a, len, cap, elems, rest, n, _, rfl, rfl, _, hl, hcm, hlen, hel, hsp, _⟩
  · exact ⟨[], SkL.nil fun _ => ds, rfl, RowP.empty fun _ => rfl, by simp, by simp⟩
  · simp only [DataW.weights, ht, List.all_cons, List.all_append, Bool.and_eq_true, List.length_map, decide_eq_true_eq] at hw
    have each : ∀ i, i < len → ∃ cs' y, W.cells? 0 (a.add (i * m)) m = some cs' ∧ DataW.trod enc P W 0 (fun _ => true) true n e cs' = some y ∧ (y.1.weights P e).all (· ≤ reachBytes) = true := fun i hi => by
      have h1 := hel i hi
      rw [hm, List.getElem?_eq_getElem (by omega)] at h1
      obtain ⟨cs', h2, h3⟩ := Option.bind_eq_some_iff.1 h1
      refine ⟨cs', elems[i], h2, h3, List.all_eq_true.2 fun q hq => List.all_eq_true.1 hw.2.1 q (all_weights (d := elems[i].1) (List.mem_map.2 ⟨elems[i], List.getElem_mem _, rfl⟩) q hq)⟩
    have told : ∀ i : Nat, ∃ y : α × σ, i < len → ∃ cs', W.cells? 0 (a.add (i * m)) m = some cs' ∧ cs' = f y.1 y.2 ∧ K y.1 y.2 W ∧ Φ y.1 := fun i => by
      by_cases hi : i < len
      · obtain ⟨cs', y, h1, h2, h3⟩ := each i hi
        obtain ⟨x, s, h4, h5, h6⟩ := hD H enc n cs' y h2 h3
        exact ⟨(x, s), fun _ => ⟨cs', h1, h4, h5, h6⟩⟩
      · exact ⟨(dx, ds), fun h => absurd h hi⟩
    let g : Nat → α × σ := fun i => Classical.choose (told i)
    have hg : ∀ i, i < len → ∃ cs', W.cells? 0 (a.add (i * m)) m = some cs' ∧ cs' = f (g i).1 (g i).2 ∧ K (g i).1 (g i).2 W ∧ Φ (g i).1 := fun i hi => Classical.choose_spec (told i) hi
    have hget : ∀ i x, ((List.range len).map fun i => (g i).1)[i]? = some x → i < len ∧ x = (g i).1 := fun i x hx => by
      rw [List.getElem?_map, Option.map_eq_some_iff] at hx
      obtain ⟨j, hj, rfl⟩ := hx
      have hlt : i < len := by
        have := (List.getElem?_eq_some_iff.1 hj).1
        simpa using this
      rw [List.getElem?_range hlt] at hj
      obtain rfl := Option.some.inj hj
      exact ⟨hlt, rfl⟩
    have hlx : ((List.range len).map fun i => (g i).1).length = len := by simp
    have hΦ : (∀ x ∈ (List.range len).map fun i => (g i).1, Φ x) ∧ ((List.range len).map fun i => (g i).1).length * P.bytesOf e ≤ reachBytes := by
      refine ⟨fun x hx => ?_, ?_⟩
      · obtain ⟨i, hi, rfl⟩ := List.mem_map.1 hx
        obtain ⟨_, _, _, _, h6⟩ := hg i (List.mem_range.1 hi)
        exact h6
      · rw [hlx]
        refine Nat.le_trans (Nat.mul_le_mul_right _ ?_) hw.1
        omega
    by_cases hc : cap = 0
    · subst hc
      have hl0 : len = 0 := by omega
      subst hl0
      exact ⟨[], ⟨none, 0, fun _ => ds, some a⟩, rfl, RowP.empty fun _ => rfl, by simp, by simp⟩
    · obtain ⟨b, o, spot⟩ := a
      have hspot : spot = none := by
        have hs := hsp rfl
        have first : ∃ cs', W.cells? 0 (Addr.add ⟨b, o, spot⟩ (0 * m)) m = some cs' := by
          by_cases hl0 : 0 < len
          · obtain ⟨cs', h1, _⟩ := hg 0 hl0
            exact ⟨cs', h1⟩
          · have h1 := hs.2 0 (by omega)
            rw [hm, List.getElem?_eq_getElem (by omega)] at h1
            obtain ⟨cs', h2, _⟩ := Option.bind_eq_some_iff.1 h1
            rw [show len + 0 = 0 by omega] at h2
            exact ⟨cs', h2⟩
        obtain ⟨cs', h1⟩ := first
        obtain ⟨h2, h3⟩ := cells_get h1
        have h4 : ∃ v, cs'[0]? = some v := ⟨cs'[0]'(by omega), List.getElem?_eq_getElem (by omega)⟩
        obtain ⟨v, hv⟩ := h4
        have := World.cell?_spot (h3 0 v hv)
        simpa [Addr.add] using this
      subst hspot
      refine ⟨(List.range len).map fun i => (g i).1, ⟨some (b, o), cap, fun i => (g i).2, none⟩, (by show _ = [slcV _ ((List.range len).map fun i => (g i).1).length]; rw [hlx]; rfl), ⟨(by rw [hlx]; exact hl), (fun h => by cases h), fun b' o' e' i x hx j v hv => ?_, fun i x hx => ?_⟩, hΦ⟩
      · simp only [Option.some.injEq, Prod.mk.injEq] at e'
        obtain ⟨rfl, rfl⟩ := e'
        obtain ⟨hi, rfl⟩ := hget i x hx
        obtain ⟨cs', h1, h2, _⟩ := hg i hi
        obtain ⟨_, h3⟩ := cells_get h1
        have := h3 j v (by rw [h2]; exact hv)
        rwa [addr_add, addr_add] at this
      · obtain ⟨hi, rfl⟩ := hget i x hx
        obtain ⟨_, _, _, h5, _⟩ := hg i hi
        exact h5

theorem Arg.sl {F : α → σ → List Value} {K : α → σ → Pr} {Φ : α → Prop} {v : Value} (ht : P.underlying t = some (.slice e)) (hD : Dec P W t F K Φ) (h : Arg P W t v) : ∃ x s, [v] = F x s ∧ K x s W ∧ Φ x := by
  obtain ⟨H, enc, base, d, ps, h1, ⟨fuel, h2⟩, h3⟩ := h
  obtain ⟨x, s, h4, h5⟩ := hD H enc fuel _ _ h2 h3
  refine ⟨x, s, ?_, h5⟩
  rw [← h4]
  rcases DataW.trod_slice ht h2 with ⟨h6, _⟩ | ⟨a, len, cap, elems, rest, n, _, h6, _⟩
  all_goals
    rw [h6]
    cases v <;> simp_all [Value.cells, Value.okWide, Cell.okWide, Cell.ok]
theorem Arg.st {f : α → σ → List Value} {K : α → σ → Pr} {Φ : α → Prop} {v : Value} {fs : Array Field} (ht : P.underlying t = some (.struct fs)) (hD : Dec P W t f K Φ) (h : Arg P W t v) : ∃ x s, v = .agg (f x s).toArray ∧ K x s W ∧ Φ x := by
  obtain ⟨H, enc, base, d, ps, h1, ⟨fuel, h2⟩, h3⟩ := h
  simp only [Value.okWide, ht] at h1
  obtain ⟨cs, rfl, _, _⟩ := h1
  obtain ⟨x, s, h4, h5⟩ := hD H enc fuel _ _ h2 h3
  have h6 : cs.toList = f x s := h4
  exact ⟨x, s, by rw [← h6], h5⟩
end

/-! ### What is known of memory that is there from the beginning -/
def Up {α σ : Type} (K : α → σ → Pr) : Prop := ∀ x s (w w' : World), (∀ k, k < w.heap.size → w'.heap[k]? = w.heap[k]?) → K x s w → K x s w'
theorem Up.no {α : Type} : Up (noK : α → Unit → Pr) := fun _ _ _ _ _ _ => trivial
theorem Up.row {α σ : Type} {m : Nat} {f : α → σ → List Value} {K : α → σ → Pr} (hK : Up K) : Up (fun (xs : List α) (s : SkL σ) => Row m f K s xs) := fun xs A w w' h hR =>
  ⟨hR.le, hR.nil, fun b o hA i x hx j v hv => by
    have h1 := hR.cells b o hA i x hx j v hv
    rw [World.cell?_of_block (w := w) (h b (World.block_lt_of_cell? w _ h1))]
    exact h1, fun i x hx => hK x _ w w' h (hR.inner i x hx)⟩
theorem Sat.add {w : World} {Φ : List Pr} {φ : Pr} (h : Sat w ⟨[], fun _ => True⟩ [] [] Φ w) (hφ : φ w) (hu : ∀ w' : World, (∀ k, k < w.heap.size → w'.heap[k]? = w.heap[k]?) → φ w') : Sat w ⟨[], fun _ => True⟩ [] [] (φ :: Φ) w := by
  obtain ⟨Fs, o⟩ := h.own
  refine ⟨h.os, h.tape, h.output, h.size, h.frame, Fs, o.nd, o.mine, o.has, o.g, fun ψ hψ => ?_⟩
  rw [List.mem_cons] at hψ
  rcases hψ with rfl | hψ
  · refine ⟨List.range w.heap.size, ⟨hφ, fun k hk => List.mem_range.1 hk, fun w' hw' => hu w' fun k hk => hw' k (List.mem_range.2 hk)⟩, fun k hk hk' => ?_, fun k _ => .inl trivial⟩
    have := (o.mine k hk').1
    rcases this with h1 | h1
    · cases h1
    · have := List.mem_range.1 hk; omega
  · exact o.ro ψ hψ
end Eng

/- THE ENGINE, part 7: the models' words, in plain arithmetic. -/
namespace Eng
open Go
set_option linter.unusedVariables false
set_option linter.unusedSimpArgs false

/-! ### Wrapping -/
theorem i64_id {n : Int} (h : -9223372036854775808 ≤ n ∧ n ≤ 9223372036854775807) : i64 n = n := by
  simp [i64, IntKind.wrap, IntKind.bits, IntKind.signed]; omega
theorem u64_id {n : Int} (h : 0 ≤ n ∧ n ≤ 18446744073709551615) : u64 n = n := by
  simp [u64, IntKind.wrap, IntKind.bits, IntKind.signed]; omega
/-! ### Bits -/
theorem bOr_u64 {x y : Nat} (hx : x < 2 ^ 64) (hy : y < 2 ^ 64) : bOr .u64 x y = ((x ||| y : Nat) : Int) := by
  have h : x ||| y < 2 ^ 64 := Nat.or_lt_two_pow hx hy
  show IntKind.u64.wrap ((BitVec.ofInt 64 x ||| BitVec.ofInt 64 y).toNat : Int) = _
  rw [BitVec.toNat_or, BitVec.ofInt_natCast, BitVec.ofInt_natCast, BitVec.toNat_ofNat, BitVec.toNat_ofNat]
  rw [Nat.mod_eq_of_lt (by omega), Nat.mod_eq_of_lt (by omega)]
  exact u64_id (by omega)
theorem bAnd_i64 {x y : Nat} (hx : x < 2 ^ 63) (hy : y < 2 ^ 63) : bAnd .i64 x y = ((x &&& y : Nat) : Int) := by
  have h : x &&& y < 2 ^ 63 := Nat.and_lt_two_pow x hy
  show IntKind.i64.wrap ((BitVec.ofInt 64 x &&& BitVec.ofInt 64 y).toNat : Int) = _
  rw [BitVec.toNat_and, BitVec.ofInt_natCast, BitVec.ofInt_natCast, BitVec.toNat_ofNat, BitVec.toNat_ofNat]
  rw [Nat.mod_eq_of_lt (by omega), Nat.mod_eq_of_lt (by omega)]
  exact i64_id (by omega)
theorem or_add (i : Nat) {x y : Nat} (hy : y < 2 ^ i) : x * 2 ^ i ||| y = x * 2 ^ i + y := by
  rw [← Nat.shiftLeft_eq, Nat.shiftLeft_add_eq_or_of_lt hy]
theorem bAnd_4096 {x : Nat} (hx : x < 2 ^ 63) : bAnd .i64 x 4096 = (((x / 4096 % 2) * 4096 : Nat) : Int) := by
  have := bAnd_i64 (x := x) (y := 4096) hx (by decide)
  rw [show ((4096 : Nat) : Int) = 4096 from rfl] at this
  rw [this]
  congr 1
  refine Nat.eq_of_testBit_eq fun i => ?_
  rw [show (4096 : Nat) = 2 ^ 12 from rfl, Nat.testBit_and, Nat.testBit_two_pow, Nat.testBit_mul_two_pow]
  by_cases h : 12 = i
  · subst h
    rw [Nat.testBit_eq_decide_div_mod_eq, Nat.testBit_eq_decide_div_mod_eq]
    simp
  · by_cases h2 : 12 ≤ i
    · have : (x / 2 ^ 12 % 2).testBit (i - 12) = false := Nat.testBit_lt_two_pow (Nat.lt_of_lt_of_le (Nat.mod_lt _ (by decide)) (by
        have : 2 ^ 1 ≤ 2 ^ (i - 12) := Nat.pow_le_pow_right (by decide) (by omega)
        omega))
      simp [h, this]
    · simp [h, h2]

/-! ### Strings as lists -/
def L (s : ByteArray) : List UInt8 := s.data.toList
theorem L_inj {s t : ByteArray} (h : L s = L t) : s = t := by
  cases s with | mk a => cases t with | mk b => simp only [L] at h; exact congrArg _ (Array.toList_inj.1 h)
theorem L_length (s : ByteArray) : (L s).length = s.size := Array.length_toList
theorem L_extract (s : ByteArray) (l h : Nat) : L (s.extract l h) = ((L s).drop l).take (h - l) := by
  show (s.extract l h).data.toList = _
  rw [ByteArray.data_extract, Array.toList_extract, List.extract_eq_take_drop]
  rfl
theorem toList_eq (s : ByteArray) : s.toList = L s := ByteArray.toList_eq s

theorem bytes_beq (a b : ByteArray) : (a == b) = (L a == L b) := by
  cases a with | mk x => cases b with | mk y =>
    show (x == y) = (x.toList == y.toList)
    by_cases h : x = y
    · subst h; simp
    · have : ¬ x.toList = y.toList := fun e => h (Array.toList_inj.1 e)
      rw [beq_eq_false_iff_ne.2 h, beq_eq_false_iff_ne.2 this]
theorem sliceS_eq {s : ByteArray} {l h : Int} (hh : 0 ≤ l ∧ l ≤ h ∧ h ≤ (s.size : Int)) : sliceS s l h = some (s.extract l.toNat h.toNat) := if_pos hh

/-! ### Numbers as bytes, the highest first -/
def beL : Nat → Nat → List UInt8
  | 0, _ => []
  | n + 1, v => UInt8.ofNat (v / 256 ^ n % 256) :: beL n v
def be (n v : Nat) : ByteArray := ⟨(beL n v).toArray⟩
def beV (l : List UInt8) : Nat := l.foldl (fun a b => a * 256 + b.toNat) 0
theorem foldl_be (l : List UInt8) (a : Nat) : l.foldl (fun a b => a * 256 + b.toNat) a = a * 256 ^ l.length + beV l := by
  induction l generalizing a with
  | nil => simp [beV]
  | cons b l ih =>
    simp only [List.foldl_cons, List.length_cons, beV, Nat.zero_mul, Nat.zero_add]
    rw [ih, ih b.toNat, Nat.pow_succ]
    simp only [Nat.add_mul]
    rw [show 256 ^ l.length * 256 = 256 * 256 ^ l.length from Nat.mul_comm _ _, Nat.mul_assoc]
    omega
theorem beV_lt (l : List UInt8) : beV l < 256 ^ l.length := by
  induction l with
  | nil => simp [beV]
  | cons b l ih =>
    have : beV (b :: l) = b.toNat * 256 ^ l.length + beV l := by
      show (b :: l).foldl _ 0 = _
      rw [List.foldl_cons, foldl_be]; simp
    rw [this, List.length_cons, Nat.pow_succ]
    have hb := b.toNat_lt
    have : b.toNat * 256 ^ l.length ≤ 255 * 256 ^ l.length := Nat.mul_le_mul_right _ (by omega)
    omega
end Eng
