/- A general engine for walks through Go programs in the given model: no statement of the program stands here; what is shown holds without conditions. -/
import Derived.Test.YtkpjjncdicgkkaaGreatDoorE1
import Derived.ArgAppend
import Derived.RangeFuncRecord
import Derived.RangeFuncSeq
import Derived.Shelf.Strings.OnBuilder
import Derived.MapKept
import Derived.Laws.IdiomCopy

set_option linter.unusedVariables false
set_option linter.unusedSimpArgs false
set_option linter.unusedSectionVars false
namespace Eng
open Go
def ey (by_ n : Nat) : Option Unit := if n * by_ ≤ 140737488355328 ∧ n ≤ 4611686018427387904 then some () else none
theorem oD {by_ n : Nat} {u : Unit} (h : ey by_ n = some u) : n * by_ ≤ 140737488355328 ∧ n ≤ 4611686018427387904 := by
 unfold ey at h
 split at h
 ·assumption
 ·cases h
theorem mQ {P : Program} {ρ : Operand → Value} {w w' : World} {o : Oper} {s x : Operand} {t t' : TypeId} {v : Value} (ho : o.op = .call { callee := .builtin .append, args := #[s, x], argTypes := #[t, t'] })
  (hr : (Builtin.append_ #[t, t'] o.type #[ρ s, ρ x]).run P w = .ok v w') : (execOp ρ o).run P w = .ok (.value v) w' := by
 unfold execOp
 simp only [ho, resolve, invoke, builtin, Sem.run_bind, Sem.run_pure, Result.andThen_ok, List.map_toArray, List.map_cons, List.map_nil, hr]
theorem Sat.newRow {w0 w : World} {T : cD} {H : bw} {G Φ : List Pr} (h : Sat w0 T H G Φ w) (ob : Obj) (ψs : List Pr) {φ : Pr} (hs : ∀ ψ ∈ ψs, ψ ∈ Φ) (hd : ∀ w' : World, w'.heap[w.heap.size]? = some ob → (∀ ψ ∈ ψs, ψ w') → φ w') :
  Sat w0 T H G (φ :: Φ) (w.drew.alloc ob) := by
 have h1 : Sat w0 T (H ++ [(w.heap.size, ob)]) G Φ (w.drew.alloc ob) := h.drew.alloc ob
 have h2 := h1.freeze H.length (b := w.heap.size) (o := ob) (by simp) ψs hs hd
 rwa [show (H ++ [(w.heap.size, ob)]).eraseIdx H.length = H by rw [List.eraseIdx_append_of_length_le (Nat.le_refl _)]; simp] at h2
section
variable {P : Program} {N : Nat} {ops : Array Oper} {Q : Exit → Act → World → Prop} {o : Oper} {l : List Oper} {L : Env} {w0 : World} {T : cD} {H : bw} {G Φ : List Pr} {α σ : Type}
theorem qR {xs : List Value} {zs : Array Value} : xs <+: (xs.toArray ++ zs).toList := by simp
theorem Sat.Aq {w : World} {m by_ e ty : Nat} {z : Value} {f : α → σ → List Value} {K : α → σ → Pr} {A B : av σ} {ys : List α} {t : TypeId} (hS : Sat w0 T H G Φ w) (ht : P.underlying t = some (.slice e)) (hi : (P.info? e).map (fun q => (q.zero, q.size, q.bytes)) = some (some z, m, by_)) (hf : ∀ x s, (f x s).length = m)
  (hc : A.c = 0) (hΦ : Row m f K B ys ∈ Φ) {u : Unit} (hroom : ey by_ ys.length = some u) : ∃ (A' : av σ) (w' : World), (Builtin.append_ #[t, t] ty #[ae A 0, ae B ys.length]).run P w = .ok (ae A' ys.length) w' ∧ Sat w0 T H G (Row m f K A' ys :: Φ) w' := by
 obtain ⟨inf, hi', hq⟩ := Option.map_eq_some_iff.1 hi
 obtain ⟨hz, hsz, rfl⟩ : inf.zero = some z ∧ inf.size = m ∧ inf.bytes = by_ := by simpa using hq
 have hrm := oD hroom
 have hR := hS.fact hΦ
 cases hys : ys with
 | nil =>
  subst hys
  refine ⟨A, w, ?_, hS.derive [] (by simp) fun w _ => eU.empty fun _ => hc⟩
  skip
  have hfc : (Builtin.firstCells inf.size 0 (ae B 0)).run P w = .ok #[] w := by
   unfold ae
   cases B.addr <;> simp [Builtin.firstCells, loadCells, loadCellsFrom]
  have hB : Builtin.lenOf (ae B 0) = pure 0 := rfl
  have hA : ae A 0 = .slice A.addr 0 0 := by unfold ae; rw [hc]
  have e0 : ae B ([] : List α).length = ae B 0 := rfl
  have e1 : ae A ([] : List α).length = ae A 0 := rfl
  rw [e0, e1, hA]
  simp only [Builtin.append_, List.getElem?_toArray, List.getElem?_cons_zero, List.getElem?_cons_succ]
  simp only [Sem.run_bind, run_underlying ht, Result.andThen_ok, Go.sizeOf, typeInfo, hi', Sem.run_pure, hB]
  cases A.addr <;> simp [run_underlying ht, hi', hfc, storeCells]
 | cons y0 yr =>
  have hne : 0 < ys.length := by rw [hys]; simp
  rw [← hys]
  obtain ⟨b, o', hBa⟩ : ∃ b o', B.a = some (b, o') := by
   cases hb : B.a with
   | none => rw [(hR.nil hb).1] at hne; simp at hne
   | some p => exact ⟨p.1, p.2, rfl⟩
  have hlen := ep (s := B.s) hf ys 0
  have hnews : ∀ (w2 : World), (∀ a, w2.cell? a = w.cell? a) → ∀ j v, (bR f B.s 0 ys)[j]? = some v → w2.cell? ((⟨b, o', none⟩ : Addr).add j) = some v := fun w2 hw2 j v hv => by
   have hj : j < ys.length * m := by
    rcases Nat.lt_or_ge j (ys.length * m) with h1 | h1
    ·exact h1
    ·rw [List.getElem?_eq_none (by omega)] at hv; cases hv
   have hm : 0 < m := by
    rcases Nat.eq_zero_or_pos m with h0 | h0
    ·rw [h0, Nat.mul_zero] at hj; omega
    ·exact h0
   have hq' : j / m < ys.length := Nat.div_lt_of_lt_mul (by rw [Nat.mul_comm]; exact hj)
   have hr' : j % m < m := Nat.mod_lt _ hm
   have hd' : j / m * m + j % m = j := by rw [Nat.mul_comm]; exact Nat.div_add_mod _ _
   have hx' : ys[j / m]? = some ys[j / m] := List.getElem?_eq_getElem hq'
   have hlt : j % m < (f ys[j / m] (B.s (j / m))).length := by rw [hf]; exact hr'
   have h2 := lP (n := 0) hf hx' (j := j % m) (v := (f ys[j / m] (B.s (j / m)))[j % m]) (by rw [Nat.zero_add]; exact List.getElem?_eq_getElem hlt)
   rw [hd', hv] at h2
   have h3 := hR.cells b o' hBa _ _ hx' (j % m) _ (List.getElem?_eq_getElem hlt)
   rw [dy, hw2, oI h2]
   rwa [show o' + j / m * m + j % m = o' + j by omega] at h3
  let C := grownCap w ys.length 0 e
  have hCge : ys.length ≤ C := grownCap_ge w ys.length 0 e
  refine ⟨⟨some (w.heap.size, 0), C, B.s, none⟩, w.drew.alloc (.cells ((bR f B.s 0 ys).toArray ++ Builtin.zeroCells z.cells (C - ys.length)) e), ?_, hS.newRow _ [Row m f K B ys] (fun ψ hψ => by rw [List.mem_singleton] at hψ; subst hψ; exact hΦ) fun w' hb hψ => ?_⟩
  ·skip
   have hBs : ae B ys.length = .slice (some ⟨b, o', none⟩) ys.length B.c := by unfold ae; rw [lW hBa]
   rw [hBs]
   have hfit : Builtin.nextslicecap ys.length 0 * inf.bytes ≤ 281474976710656 := growslice_fits hne hrm.1
   cases hA : A.addr with
   | none =>
    have hAs : ae A 0 = .slice none 0 0 := by simp [ae, hA, hc]
    rw [hAs]
    have hr := run_append_nil (P := P) w t ty e inf z ht hi' hz ⟨b, o', none⟩ ys.length B.c (bR f B.s 0 ys) (by rw [hlen, hsz]) (hnews w fun _ => rfl) hne (by omega) (by omega)
    exact hr
   | some p =>
    have hAs : ae A 0 = .slice (some p) 0 0 := by simp [ae, hA, hc]
    rw [hAs]
    have hr := run_append_grow (P := P) w t ty e inf z ht hi' hz p 0 0 [] (by simp) (by simp) ⟨b, o', none⟩ ys.length B.c (bR f B.s 0 ys) (by rw [hlen, hsz]) (hnews w fun _ => rfl) (by omega) (by omega) (by rw [Nat.zero_add]; exact hfit)
    simp only [Nat.zero_add, Array.empty_append] at hr
    exact hr
  ·have hR' := hψ _ (List.mem_singleton.2 rfl)
   exact cl (s := B.s) hb hf qR hCge (jj.of fun i x hx => by rw [Nat.zero_add]; exact hR'.inner i x hx)
theorem WL.ef {m by_ n e : Nat} {z : Value} {f : α → σ → List Value} {K : α → σ → Pr} {A B : av σ} {ys : List α} {s x : Operand} {t : TypeId} {d : Nat} (ho : o.op = .call { callee := .builtin .append, args := #[s, x], argTypes := #[t, t] })
  (hd : o.dst = some d) (hdN : Nat.blt d N = true) (ht : P.underlying t = some (.slice e)) (hi : (P.info? e).map (fun q => (q.zero, q.size, q.bytes)) = some (some z, m, by_)) (hf : ∀ x s, (f x s).length = m)
  (hk : (o.op.operands.all (known L) && !cA o.op) = true) (hs : cE L s = ae A n) (hn : n = 0) (hc : A.c = 0) (hx : cE L x = ae B ys.length) (hΦ : Row m f K B ys ∈ Φ) {u : Unit} (hroom : ey by_ ys.length = some u) (hg : cu ops L o = some true)
  (h : ∀ A' : av σ, WL P N ops Q l ((d, ae A' ys.length) :: L) (Sat w0 T H G (Row m f K A' ys :: Φ))) : WL P N ops Q (o :: l) L (Sat w0 T H G Φ) := by
 subst hn
 refine WL.op (X := av σ) (fun A' => ae A' ys.length) (fun A' => Sat w0 T H G (Row m f K A' ys :: Φ)) (fun A' => (d, ae A' ys.length) :: L) hg hk (fun w hS => ?_) (fun A' => ?_) h
 ·obtain ⟨A', w', h1, h2⟩ := hS.Aq (P := P) (ty := o.type) ht hi hf hc hΦ hroom
  exact ⟨A', w', mQ ho (by rw [hs, hx]; exact h1), h2⟩
 ·unfold dV; rw [hd]; simp only [hdN]
end
def eY (is : List Nat) (F : List Pr) : List Pr := is.filterMap fun i => F[i]?
theorem bE {F F' Γ : List Pr} (is : List Nat) (h : eY is F = F') : ∀ φ ∈ F' ++ Γ, φ ∈ F ++ Γ := fun φ hφ => by
 subst h
 rw [List.mem_append] at hφ ⊢
 refine hφ.imp_left fun hm => ?_
 obtain ⟨i, _, hi⟩ := List.mem_filterMap.1 hm
 exact List.mem_of_getElem? hi
theorem Sat.aQ {w0 w : World} {T : cD} {H : bw} {G F F' Γ : List Pr} (h : Sat w0 T H G (F ++ Γ) w) (is : List Nat) (e : eY is F = F') : Sat w0 T H G (F' ++ Γ) w := h.less (bE is e)
theorem ar {F Γ : List Pr} {φ : Pr} (i : Nat) (h : F[i]? = some φ) : φ ∈ F ++ Γ := List.mem_append_left _ (List.mem_of_getElem? h)
theorem fX {F Γ : List Pr} {Ψ : List Pr} (is : List Nat) (h : eY is F = Ψ) : ∀ ψ ∈ Ψ, ψ ∈ F ++ Γ := fun φ hφ => by
 subst h
 obtain ⟨i, _, hi⟩ := List.mem_filterMap.1 hφ
 exact List.mem_append_left _ (List.mem_of_getElem? hi)
section
variable {P : Program} {fn : Func} {R : Ending → World → Prop} {N : Nat} {k : List KI} {ops : Array Oper} {Q : Exit → Act → World → Prop} {l : List Oper} {L L' : Env} {w0 : World} {T : cD} {H H0 Hr : bw} {G F F' Γ Φ : List Pr} {o : Oper}
theorem WP.aQ (is : List Nat) (e : eY is F = F') (h : WP P fn R N k L (Sat w0 T H G (F' ++ Γ))) : WP P fn R N k L (Sat w0 T H G (F ++ Γ)) := WP.less (bE is e) h
theorem WL.aQ (is : List Nat) (e : eY is F = F') (h : WL P N ops Q l L (Sat w0 T H G (F' ++ Γ))) : WL P N ops Q l L (Sat w0 T H G (F ++ Γ)) := WL.less (bE is e) h
theorem WP.ez (φ : Pr) (is : List Nat) (Ψ : List Pr) (e : eY is F = Ψ) (hd : ∀ w : World, (∀ ψ ∈ Ψ, ψ w) → φ w) (h : WP P fn R N k L (Sat w0 T H G ((φ :: F) ++ Γ))) : WP P fn R N k L (Sat w0 T H G (F ++ Γ)) := WP.derive Ψ (fX is e) hd h
theorem WL.ez (φ : Pr) (is : List Nat) (Ψ : List Pr) (e : eY is F = Ψ) (hd : ∀ w : World, (∀ ψ ∈ Ψ, ψ w) → φ w) (h : WL P N ops Q l L (Sat w0 T H G ((φ :: F) ++ Γ))) : WL P N ops Q l L (Sat w0 T H G (F ++ Γ)) := WL.derive Ψ (fX is e) hd h
theorem WP.tW {H' : bw} (φ : Pr) (j : Nat) {b : Nat} {ob : Obj} (hj : H[j]? = some (b, ob)) (is : List Nat) (Ψ : List Pr) (e : eY is F = Ψ) (hd : ∀ w : World, w.heap[b]? = some ob → (∀ ψ ∈ Ψ, ψ w) → φ w) (he : H.eraseIdx j = H') (h : WP P fn R N k L (Sat w0 T H' G ((φ :: F) ++ Γ))) : WP P fn R N k L (Sat w0 T H G (F ++ Γ)) := WP.freeze j hj Ψ (fX is e) hd he h
theorem WL.tW {H' : bw} (φ : Pr) (j : Nat) {b : Nat} {ob : Obj} (hj : H[j]? = some (b, ob)) (is : List Nat) (Ψ : List Pr) (e : eY is F = Ψ) (hd : ∀ w : World, w.heap[b]? = some ob → (∀ ψ ∈ Ψ, ψ w) → φ w) (he : H.eraseIdx j = H') (h : WL P N ops Q l L (Sat w0 T H' G ((φ :: F) ++ Γ))) : WL P N ops Q l L (Sat w0 T H G (F ++ Γ)) := WL.freeze j hj Ψ (fX is e) hd he h
theorem WL.c0 {F0 : List Pr} {f : FuncId} {args : Array Value} {X : Type} {V : X → Value} {H1 : X → bw} {R : X → List Pr} (hs bs : List Nat) (m : List Bool) (L' : X → Env) (is : List Nat) (hF : eY is F = F0)
  (hc : eT P f args H0 (F0 ++ Γ) V H1 (fun _ => []) (fun x => R x ++ (F0 ++ Γ))) (hm : dH m H = H0) (hr : dB m H = Hr) (he : ja P o L H hs = some (f, args, bs, bs)) (hg : cu ops L o = some true) (hp : ∀ x, dV N o (V x) L = some (L' x))
  (h : ∀ x, WL P N ops Q l (L' x) (Sat w0 T (H1 x ++ Hr) G ((R x ++ F) ++ Γ))) : WL P N ops Q (o :: l) L (Sat w0 T H G (F ++ Γ)) := by
 refine WL.Bk hs bs m L' hc hm hr (bE is hF) he hg hp fun x => ?_
 refine fun a w hh hS => h x a w hh (hS.less fun φ hφ => ?_)
 simp only [List.mem_append] at hφ ⊢
 rcases hφ with (hφ | hφ) | hφ
 ·exact .inl (.inl hφ)
 ·exact .inr (.inl hφ)
 ·exact .inr (.inr hφ)
theorem aT {F F0 R Γ : List Pr} (is js : List Nat) (h : eY is F = R) (h' : eY js F = F0) : ∀ φ ∈ R ++ (F0 ++ Γ), φ ∈ F ++ Γ := fun φ hφ => by
 rw [List.mem_append] at hφ
 rcases hφ with hφ | hφ
 ·exact fX is h φ hφ
 ·exact bE js h' φ hφ
end
def gK {α : Type} (xs : List α) (l h : Int) : Option (List α) := if 0 ≤ l ∧ l ≤ h ∧ h ≤ (xs.length : Int) then some ((xs.drop l.toNat).take (h.toNat - l.toNat)) else none
theorem mP {α : Type} {xs t : List α} {l h : Int} (e : gK xs l h = some t) : (0 ≤ l ∧ l ≤ h ∧ h ≤ (xs.length : Int)) ∧ (xs.drop l.toNat).take (h.toNat - l.toNat) = t := by
 unfold gK at e
 split at e
 ·rename_i hh; exact ⟨hh, oI e⟩
 ·cases e
def av.cut {σ : Type} (A : av σ) (l m : Nat) : av σ := ⟨if A.c = l then A.a else match A.a with | none => none | some p => some (p.1, p.2 + l * m), A.c - l, fun i => A.s (l + i), if A.c = l then A.z else A.z.map (·.add (l * m))⟩
theorem eU.cut {α σ : Type} {m : Nat} {f : α → σ → List Value} {K : α → σ → Pr} {A : av σ} {xs t : List α} {w : World} {l h : Int} (hR : eU m f K A xs w) (e : gK xs l h = some t) : eU m f K (A.cut l.toNat m) t w := by
 obtain ⟨hh, rfl⟩ := mP e
 have hle := hR.le
 by_cases hc : A.c = l.toNat
 ·have hn : (xs.drop l.toNat).take (h.toNat - l.toNat) = [] := by
   apply List.eq_nil_of_length_eq_zero
   rw [List.length_take, List.length_drop]; omega
  rw [hn]
  exact eU.empty fun _ => by simp [av.cut]; omega
 ·refine ⟨by rw [List.length_take, List.length_drop]; simp only [av.cut]; omega, fun ha => ?_, fun b o hb i x hx j v hv => ?_, fun i x hx => ?_⟩
  ·simp only [av.cut, if_neg hc] at ha
   cases hA : A.a with
   | none =>
    obtain ⟨h1, h2⟩ := hR.nil hA
    subst h1
    refine ⟨by simp, by simp only [av.cut]; omega⟩
   | some p => rw [hA] at ha; cases ha
  ·simp only [av.cut, if_neg hc] at hb
   cases hA : A.a with
   | none => rw [hA] at hb; cases hb
   | some p =>
    rw [hA] at hb
    simp only [Option.some.injEq, Prod.mk.injEq] at hb
    obtain ⟨rfl, rfl⟩ := hb
    have hlt : i < h.toNat - l.toNat := by
     rcases Nat.lt_or_ge i (h.toNat - l.toNat) with h1 | h1
     ·exact h1
     ·rw [List.getElem?_eq_none (by rw [List.length_take]; omega)] at hx; cases hx
    rw [List.getElem?_take, if_pos hlt, List.getElem?_drop] at hx
    have := hR.cells p.1 p.2 hA (l.toNat + i) x hx j v hv
    rwa [show p.2 + (l.toNat + i) * m + j = p.2 + l.toNat * m + i * m + j by rw [Nat.add_mul]; omega] at this
  ·have hlt : i < h.toNat - l.toNat := by
    rcases Nat.lt_or_ge i (h.toNat - l.toNat) with h1 | h1
    ·exact h1
    ·rw [List.getElem?_eq_none (by rw [List.length_take]; omega)] at hx; cases hx
   rw [List.getElem?_take, if_pos hlt, List.getElem?_drop] at hx
   exact hR.inner (l.toNat + i) x hx
section
variable {P : Program} {ρ : Operand → Value} {w : World} {dst : Option Tmp} {ty : TypeId} {pos : String} {af : Array Edge} {g : Option (Nat × Bool)} {t : TypeId} {x lo hi : Operand}
theorem lh {α σ : Type} {A : av σ} {xs r : List α} {l h : Int} {e m : Nat} (ht : P.underlying t = some (.slice e)) (hsz : (P.info? e).map (·.size) = some m) (hp : (A.a = none → xs = []) ∧ xs.length ≤ A.c) (hr : gK xs l h = some r) (vl vh : Option Value)
  (hl : match vl with | none => l = 0 | some v => ∃ k, v = .int k l) (hh : match vh with | none => h = xs.length | some v => ∃ k, v = .int k h) :
  (Instr.sliceAt t (ae A xs.length) vl vh none).run P w = .ok (ae (A.cut l.toNat m) r.length) w := by
 obtain ⟨hb, rfl⟩ := mP hr
 obtain ⟨inf, hi, hm⟩ := Option.map_eq_some_iff.1 hsz
 subst hm
 have hc := hp.2
 have hlen : ((xs.drop l.toNat).take (h.toNat - l.toNat)).length = h.toNat - l.toNat := by rw [List.length_take, List.length_drop]; omega
 have e1 : (match vh with | some v => Instr.sliceBound v A.c .sliceAcap | none => pure xs.length).run P w = .ok h.toNat w := by
  cases vh with
  | none => subst hh; simp
  | some v => obtain ⟨k, rfl⟩ := hh; exact cr ⟨by omega, by omega⟩
 have e2 : (match vl with | some v => Instr.sliceBound v h.toNat .sliceB | none => pure 0).run P w = .ok l.toNat w := by
  cases vl with
  | none => subst hl; simp
  | some v => obtain ⟨k, rfl⟩ := hl; exact cr ⟨hb.1, by omega⟩
 have hbounds : (Instr.sliceBounds true xs.length A.c vl vh none).run P w = .ok (l.toNat, h.toNat, A.c) w := by
  unfold Instr.sliceBounds
  cases vh <;> cases vl <;> simp_all [Sem.run_bind]
 have haddr : (if A.c = l.toNat then A.addr else A.addr.map (·.add (l.toNat * inf.size))) = (A.cut l.toNat inf.size).addr := by
  unfold av.addr av.cut
  by_cases hcl : A.c = l.toNat
  ·rw [if_pos hcl, if_pos hcl, if_pos hcl]
  ·rw [if_neg hcl, if_neg hcl, if_neg hcl]
   cases A.a with
   | none => rfl
   | some p => simp [dy]
 unfold Instr.sliceAt
 rw [Sem.ao (fo ht)]
 simp only
 unfold Instr.slice
 rw [Sem.ao (fo ht)]
 simp only
 rw [Sem.ao hbounds]
 simp only
 rw [Sem.ao (bH hi)]
 simp only [Sem.run_pure, hlen, haddr]
 rfl
theorem fT {α σ : Type} {A : av σ} {xs r : List α} {kh : IntKind} {h : Int} {e m : Nat} (ht : P.underlying t = some (.slice e)) (hsz : (P.info? e).map (·.size) = some m) (hp : (A.a = none → xs = []) ∧ xs.length ≤ A.c) (hr : gK xs 0 h = some r) (hx : ρ x = ae A xs.length) (hh : ρ hi = .int kh h) :
  (execOp ρ ⟨dst, .slice t x none (some hi) none, ty, pos, af, g⟩).run P w = .ok (.value (ae (A.cut 0 m) r.length)) w := by
 have := lh (P := P) (w := w) ht hsz hp hr none (some (.int kh h)) rfl ⟨kh, rfl⟩
 simp only [execOp, hx, hh, Option.map_some, Option.map_none]
 rw [Sem.ao this]; rfl
end
abbrev dM {σ : Type} (A : av σ) (k : Nat) : Value := .pointer (match A.a with
 | none => none
 | some p => some ⟨p.1, p.2 + k, none⟩)
theorem nR {α σ : Type} {m : Nat} {f : α → σ → List Value} {K : α → σ → Pr} {A : av σ} {xs : List α} {i : Int} {r : α} {w : World} (hR : eU m f K A xs w) (h : cI xs.length xs i = some r) : ∃ b o, A.a = some (b, o) := BV hR.ptr h
theorem lH {σ : Type} {A : av σ} {b o : Nat} (hA : A.a = some (b, o)) (k : Nat) : dM A k = .pointer (some ⟨b, o + k, none⟩) := by simp [dM, hA]
section
variable {P : Program} {ρ : Operand → Value} {w : World} {dst : Option Tmp} {ty : TypeId} {pos : String} {af : Array Edge} {g : Option (Nat × Bool)} {t : TypeId} {x y lo hi : Operand} {α σ : Type} {m : Nat} {f : α → σ → List Value} {K : α → σ → Pr} {A : av σ} {xs r' : List α} {i : Int} {r : α} {k kl kh : IntKind} {e : TypeId}
theorem aJ (ht : P.underlying t = some (.slice e)) (hi : (P.info? e).map (·.size) = some m) (h : cI xs.length xs i = some r) (hx : ρ x = ae A xs.length) (hy : ρ y = .int k i) (hR : eU m f K A xs w) :
  (execOp ρ ⟨dst, .indexAddr t x y, ty, pos, af, g⟩).run P w = .ok (.value (dM A (i.toNat * m))) w := by
 obtain ⟨b, o, hA⟩ := nR hR h
 rw [lH hA]
 exact si ht hi hA hx hy (bg h).1
theorem cY {s : TypeId} {j n n' : Nat} (h : cI xs.length xs i = some r) (hp : ρ x = dM A n) (hf : ∀ b o, (Instr.fieldAt s (.pointer (some ⟨b, o + n, none⟩)) j).run P w = .ok (.pointer (some ⟨b, o + n', none⟩)) w) (hR : eU m f K A xs w) :
  (execOp ρ ⟨dst, .fieldAddr s x j, ty, pos, af, g⟩).run P w = .ok (.value (dM A n')) w := by
 obtain ⟨b, o, hA⟩ := nR hR h
 rw [lH hA] at hp ⊢
 simp only [execOp, hp]
 rw [Sem.ao (hf b o)]
 rfl
theorem bp {j : Nat} {v : Value} (h : cI xs.length xs i = some r) (hagg : ∀ w, (isAgg t).run P w = .ok false w) (hp : ρ x = dM A (i.toNat * m + j)) (hv : (f r (A.s i.toNat))[j]? = some v) (hR : eU m f K A xs w) :
  (execOp ρ ⟨dst, .load t x, ty, pos, af, g⟩).run P w = .ok (.value v) w := by
 obtain ⟨b, o, hA⟩ := nR hR h
 rw [lH hA, ← Nat.add_assoc] at hp
 exact tC hA h hagg hp hv hR
theorem b4 {j n : Nat} {vs : List Value} (h : cI xs.length xs i = some r) (hagg : ∀ w, (isAgg t).run P w = .ok true w) (hsz : (P.info? t).map (·.size) = some n) (hp : ρ x = dM A (i.toNat * m + j)) (hv : ((f r (A.s i.toNat)).drop j).take n = vs) (hl : vs.length = n) (hR : eU m f K A xs w) :
  (execOp ρ ⟨dst, .load t x, ty, pos, af, g⟩).run P w = .ok (.value (.agg vs.toArray)) w := by
 obtain ⟨b, o, hA⟩ := nR hR h
 rw [lH hA, ← Nat.add_assoc] at hp
 exact sg hA h hagg hsz hp hv hl hR
end
end Eng
namespace Eng
open Go
def bL {α σ : Type} (m e : Nat) (f : α → σ → List Value) (A : av σ) (xs : List α) : Pr := fun w => A.z = none ∧ w.ownsRow 0 e m (ae A xs.length) xs.length (bR f A.s 0 xs)
abbrev bC {α σ : Type} (K : α → σ → Pr) (A : av σ) (xs : List α) : Pr := fun w => jj K A.s 0 xs w
theorem GS.split {w : World} : ∀ {Fs : List (List Nat)} {G1 G2 : List Pr}, GS Fs (G1 ++ G2) w → ∃ F1 F2, Fs = F1 ++ F2 ∧ GS F1 G1 w ∧ GS F2 G2 w
 | Fs, [], G2, h => ⟨[], Fs, rfl, trivial, h⟩
 | [], _ :: _, _, h => h.elim
 | F :: Fs, g :: G1, G2, h => by
  obtain ⟨F1, F2, rfl, h1, h2⟩ := GS.split (G1 := G1) h.2
  exact ⟨F :: F1, F2, rfl, ⟨h.1, h1⟩, h2⟩
theorem GS.perm {w : World} {G G' : List Pr} (hp : G.Perm G') : ∀ {Fs : List (List Nat)}, GS Fs G w → ∃ Fs', Fs.Perm Fs' ∧ GS Fs' G' w := by
 induction hp with
 | nil => intro Fs h; exact ⟨Fs, .refl _, h⟩
 | cons g hp ih =>
  intro Fs h
  cases Fs with
  | nil => exact h.elim
  | cons F Fs =>
   obtain ⟨Fs', h1, h2⟩ := ih h.2
   exact ⟨F :: Fs', h1.cons F, h.1, h2⟩
 | swap g g' l =>
  intro Fs h
  match Fs, h with
  | F :: F' :: Fs, h => exact ⟨F' :: F :: Fs, .swap .., h.2.1, h.1, h.2.2⟩
  | [_], h => exact h.2.elim
  | [], h => exact h.elim
 | trans h1 h2 ih1 ih2 =>
  intro Fs h
  obtain ⟨F1, p1, g1⟩ := ih1 h
  obtain ⟨F2, p2, g2⟩ := ih2 g1
  exact ⟨F2, p1.trans p2, g2⟩
theorem sk {a b : List (List Nat)} (h : a.Perm b) : a.flatten.Perm b.flatten := by
 induction h with
 | nil => exact .refl _
 | cons x _ ih => simp only [List.flatten_cons]; exact ih.append_left x
 | swap x y l => simp only [List.flatten_cons, ← List.append_assoc]; exact List.perm_append_comm.append_right _
 | trans _ _ h1 h2 => exact h1.trans h2
theorem Sat.jU {w0 w : World} {T : cD} {H : bw} {G G' Φ : List Pr} (h : Sat w0 T H G Φ w) (hp : G.Perm G') : Sat w0 T H G' Φ w := by
 obtain ⟨Fs, o⟩ := h.own
 obtain ⟨Fs', h1, h2⟩ := o.g.perm hp
 have hf : (keys H ++ Fs.flatten).Perm (keys H ++ Fs'.flatten) := (sk h1).append_left _
 exact ⟨h.os, h.tape, h.output, h.size, h.frame, Fs', hf.nodup_iff.1 o.nd, fun k hk => o.dG k (hf.mem_iff.2 hk), o.has, h2, fun φ hφ => by
  obtain ⟨F, a, b, c⟩ := o.ro φ hφ
  exact ⟨F, a, fun k hk hk' => b k hk (hf.mem_iff.2 hk'), c⟩⟩
theorem Sat.D7 {w0 w : World} {T : cD} {H : bw} {G1 G2 Φ : List Pr} (h : Sat w0 T H (G1 ++ G2) Φ w) : Sat w0 T H G1 Φ w := by
 obtain ⟨Fs, o⟩ := h.own
 obtain ⟨F1, F2, rfl, h1, _⟩ := GS.split o.g
 have hs : (keys H ++ F1.flatten).Sublist (keys H ++ (F1 ++ F2).flatten) := by
  rw [List.flatten_append, ← List.append_assoc]
  exact List.sublist_append_left _ _
 exact ⟨h.os, h.tape, h.output, h.size, h.frame, F1, o.nd.sublist hs, fun k hk => o.dG k (hs.mem hk), o.has, h1, fun φ hφ => by
  obtain ⟨F, a, b, c⟩ := o.ro φ hφ
  exact ⟨F, a, fun k hk hk' => b k hk (hs.mem hk'), c⟩⟩
theorem yR {α β : Type} {f : α → Option β} {g : α → β} : ∀ (l : List α), (∀ i ∈ l, f i = some (g i)) → l.filterMap f = l.map g
 | [], _ => rfl
 | a :: l, h => by rw [List.filterMap_cons, h a (List.mem_cons_self ..), List.map_cons, yR l fun i hi => h i (List.mem_cons_of_mem _ hi)]
theorem tH (G : List Pr) : (List.range G.length).filterMap (fun i => G[i]?) = G := by
 rw [yR (g := fun i => G.getD i (fun _ => True)) _ fun i hi => by
  have := List.mem_range.1 hi
  simp [List.getD, List.getElem?_eq_getElem this]]
 apply List.ext_getElem?
 intro i
 rcases Nat.lt_or_ge i G.length with h | h
 ·simp [h, List.getD]
 ·rw [List.getElem?_eq_none h, List.getElem?_eq_none (by simpa using h)]
theorem iG {α : Type _} : ∀ {G : List α} {i : Nat} {x : α}, G[i]? = some x → G.Perm (x :: G.eraseIdx i)
 | [], i, x, h => by simp at h
 | y :: G, 0, x, h => by
  simp only [List.getElem?_cons_zero, Option.some.injEq] at h
  subst h
  exact .refl _
 | y :: G, i + 1, x, h => by
  simp only [List.getElem?_cons_succ] at h
  rw [List.eraseIdx_cons_succ]
  exact ((iG h).cons y).trans (.swap ..)
theorem sj (a b : List Nat) (G : List Pr) : eY (a ++ b) G = eY a G ++ eY b G := by simp [eY]
theorem Sat.dE {w0 w : World} {T : cD} {H : bw} {G G' Φ : List Pr} (h : Sat w0 T H G Φ w) (is js : List Nat) (n : Nat) (hn : G.length = n) (hp : (is ++ js).isPerm (List.range n) = true) (e : eY is G = G') : Sat w0 T H G' Φ w := by
 subst e
 subst hn
 have h1 : G.Perm (eY is G ++ eY js G) := by
  rw [← sj]
  have := (List.isPerm_iff.1 hp).filterMap fun i => G[i]?
  rw [tH] at this
  exact this.symm
 exact (h.jU h1).D7
theorem Sat.fH {w0 w : World} {T : cD} {H : bw} {G Φ : List Pr} (h : Sat w0 T H G Φ w) {α σ : Type} (m e : Nat) (f : α → σ → List Value) (s : Nat → σ) : Sat w0 T H (bL m e f (av.nil s) ([] : List α) :: G) Φ w := by
 obtain ⟨Fs, o⟩ := h.own
 refine ⟨h.os, h.tape, h.output, h.size, h.frame, [] :: Fs, by simpa using o.nd, by simpa using o.dG, o.has, ⟨⟨⟨rfl, World.ownsRow_nil w 0 e m⟩, by simp, fun w' _ => ⟨rfl, World.ownsRow_nil w' 0 e m⟩⟩, o.g⟩, fun φ hφ => ?_⟩
 obtain ⟨F, a, b, c⟩ := o.ro φ hφ
 exact ⟨F, a, by simpa using b, c⟩
theorem Sat.fb {w0 w : World} {T : cD} {H : bw} {G Φ : List Pr} (h : Sat w0 T H G Φ w) {α σ : Type} {m e : Nat} {f : α → σ → List Value} (j : Nat) {b : Nat} {cs : Array Value} (s : Nat → σ) (xs : List α)
  (hj : H[j]? = some (b, .cells cs e (0, 0))) (hf : ∀ x s, (f x s).length = m) (hcs : bR f s 0 xs = cs.toList) (hm : xs.length ≤ maxLen) : Sat w0 T (H.eraseIdx j) (bL m e f (av.at b xs.length s) xs :: G) Φ w := by
 obtain ⟨Fs, o⟩ := h.own
 have hp := fQ hj
 have hkp : (keys H ++ Fs.flatten).Perm (keys (H.eraseIdx j) ++ ([b] :: Fs).flatten) := by
  have h1 := (keys_perm hp).append_right Fs.flatten
  refine h1.trans ?_
  show ((b :: keys (H.eraseIdx j)) ++ Fs.flatten).Perm (keys (H.eraseIdx j) ++ (b :: Fs.flatten))
  rw [List.cons_append]
  exact List.perm_middle.symm
 have hb := o.has (b, .cells cs e (0, 0)) (hp.mem_iff.2 (List.mem_cons_self ..))
 have hbm := o.dG b (hkp.mem_iff.2 (by simp))
 have hlen := ep (s := s) hf xs 0
 have own : ∀ w' : World, w'.heap[b]? = some (.cells cs e (0, 0)) → bL m e f (av.at b xs.length s) xs w' := fun w' hb' =>
  ⟨rfl, hlen, .inr ⟨b, xs.length, cs, rfl, Nat.zero_le _, hb', Nat.le_refl _, hm, by rw [← Array.length_toList, ← hcs, hlen], by rw [← hcs, ← hlen, List.take_length]⟩⟩
 refine ⟨h.os, h.tape, h.output, h.size, h.frame, [b] :: Fs, hkp.nodup_iff.1 o.nd, fun k hk => o.dG k (hkp.mem_iff.2 hk), fun p hpm => o.has p (hp.mem_iff.2 (List.mem_cons_of_mem _ hpm)), ⟨⟨own w hb, fun k hk => ?_, fun w' hw' => own w' ((hw' b (List.mem_singleton.2 rfl)).trans hb)⟩, o.g⟩, fun φ hφ => ?_⟩
 ·obtain rfl := List.mem_singleton.1 hk
  exact hbm.2
 ·obtain ⟨F, a1, a2, a3⟩ := o.ro φ hφ
  exact ⟨F, a1, fun k hk hk' => a2 k hk (hkp.mem_iff.2 hk'), a3⟩
theorem bL.row {α σ : Type} {m e : Nat} {f : α → σ → List Value} {K : α → σ → Pr} {A : av σ} {xs : List α} {w : World} (h : bL m e f A xs w) (hf : ∀ x s, (f x s).length = m) (hin : jj K A.s 0 xs w) : eU m f K A xs w := by
 obtain ⟨hz, hl, h2⟩ := h
 rcases h2 with ⟨h3, h4⟩ | ⟨g, cap, cur, h3, _, hg, hn, _, hs, ht⟩
 ·have : xs = [] := List.eq_nil_of_length_eq_zero h4
  subst this
  refine eU.empty fun _ => ?_
  simp only [ae, Value.slice.injEq] at h3
  exact h3.2.2
 ·simp only [ae, Value.slice.injEq, true_and] at h3
  obtain ⟨h5, h6⟩ := h3
  subst h6
  have ha : A.a = some (g, 0) := by
   unfold av.addr at h5
   cases hA : A.a with
   | none => rw [hA] at h5; rw [hz] at h5; cases h5
   | some p => rw [hA] at h5; simp only [Option.some.injEq, Addr.mk.injEq, and_true] at h5; rw [← h5.1, ← h5.2]
  obtain ⟨a, c, s, z⟩ := A
  simp only at ha hz
  subst ha
  subst hz
  exact cl hg hf (by rw [← ht]; exact List.take_prefix _ _) hn hin
theorem Sat.dD {w0 w : World} {T : cD} {H : bw} {G Φ : List Pr} {α σ : Type} {m e : Nat} {f : α → σ → List Value} {K : α → σ → Pr} {A : av σ} {xs : List α} (h : Sat w0 T H (bL m e f A xs :: G) Φ w) (hf : ∀ x s, (f x s).length = m) (hin : bC K A xs ∈ Φ) :
  Sat w0 T H G (Row m f K A xs :: Φ) w := by
 obtain ⟨Fs, o⟩ := h.own
 cases Fs with
 | nil => exact o.g.elim
 | cons F Fs =>
  obtain ⟨hF, hG⟩ := o.g
  have hsub : (keys H ++ Fs.flatten).Sublist (keys H ++ (F :: Fs).flatten) := by
   rw [List.flatten_cons]
   exact (List.sublist_append_right F Fs.flatten).append_left (keys H)
  have hdis : ∀ k ∈ F, k ∉ keys H ++ Fs.flatten := fun k hk hk' => by
   have hnd := o.nd
   rw [List.flatten_cons] at hnd
   have hp : (keys H ++ (F ++ Fs.flatten)).Perm (F ++ (keys H ++ Fs.flatten)) := by
    rw [← List.append_assoc, ← List.append_assoc]
    exact List.perm_append_comm.append_right _
   exact (List.nodup_append.1 (hp.nodup_iff.1 hnd)).2.2 k hk k hk' rfl
  obtain ⟨F2, l2, n2, a2⟩ := o.ro _ hin
  refine ⟨h.os, h.tape, h.output, h.size, h.frame, Fs, o.nd.sublist hsub, fun k hk => o.dG k (hsub.mem hk), o.has, hG, fun φ hφ => ?_⟩
  rw [List.mem_cons] at hφ
  rcases hφ with rfl | hφ
  ·refine ⟨F ++ F2, ⟨hF.now.row hf l2.now, fun k hk => ?_, fun w' hw' => (hF.stays w' fun k hk => hw' k (List.mem_append_left _ hk)).row hf (l2.stays w' fun k hk => hw' k (List.mem_append_right _ hk))⟩, fun k hk => ?_, fun k hk => ?_⟩
   ·exact (List.mem_append.1 hk).elim (hF.lt k) (l2.lt k)
   ·exact (List.mem_append.1 hk).elim (hdis k) fun hk' hm => n2 k hk' (hsub.mem hm)
   ·exact (List.mem_append.1 hk).elim (fun hk' => .inr (o.dG k (by rw [List.flatten_cons]; exact List.mem_append_right _ (List.mem_append_left _ hk'))).1) (a2 k)
  ·obtain ⟨F', b1, b2, b3⟩ := o.ro φ hφ
   exact ⟨F', b1, fun k hk hm => b2 k hk (hsub.mem hm), b3⟩
theorem kr {w : World} {e size n : Nat} {v : Value} {xs : List Value} {g : Nat} (h : w.ownsRow 0 e size v n xs) (hv : v.ownBlock = some g) : ∃ cur, w.heap[g]? = some (.cells cur e (0, 0)) := by
 rcases h.2 with ⟨rfl, _⟩ | ⟨g', cap, cur, rfl, _, hg, _⟩
 ·cases hv
 ·simp only [Value.ownBlock, Option.some.injEq] at hv
  subst hv
  exact ⟨cur, hg⟩
theorem bL.mem {α σ : Type} {m e : Nat} {f : α → σ → List Value} {A : av σ} {xs : List α} {w : World} {F : List Nat} (h : Loc F (bL m e f A xs) w) {g : Nat} (hg : (ae A xs.length).ownBlock = some g) : g ∈ F := by
 apply Classical.byContradiction
 intro hn
 let w' : World := { w with heap := w.heap.setIfInBounds g (.map #[] 0) }
 have h1 : bL m e f A xs w' := h.stays w' fun k hk => by
  have hne : g ≠ k := fun e => hn (e ▸ hk)
  show (w.heap.setIfInBounds g _)[k]? = w.heap[k]?
  rw [Array.getElem?_setIfInBounds_ne hne]
 obtain ⟨cur, h2⟩ := kr h1.2 hg
 obtain ⟨cur', h3⟩ := kr h.now.2 hg
 have hlt : g < w.heap.size := (Array.getElem?_eq_some_iff.1 h3).1
 have h4 : w'.heap[g]? = some (.map #[] 0) := by
  show (w.heap.setIfInBounds g _)[g]? = _
  rw [Array.getElem?_setIfInBounds_self_of_lt hlt]
 rw [h4] at h2
 cases h2
theorem Sat.qs {w0 w w' : World} {T : cD} {H : bw} {G Φ : List Pr} {α σ : Type} {m e : Nat} {f : α → σ → List Value} {A A' : av σ} {xs xs' : List α} (h : Sat w0 T H (bL m e f A xs :: G) Φ w)
  (hz : A'.z = none) (hown : w'.ownsRow 0 e m (ae A' xs'.length) xs'.length (bR f A'.s 0 xs')) (hg : w.grownBy w' (ae A xs.length).ownBlock)
  (hb : (ae A' xs'.length).ownBlock = (ae A xs.length).ownBlock ∨ ∃ g, (ae A' xs'.length).ownBlock = some g ∧ w.heap.size ≤ g) : Sat w0 T H (bL m e f A' xs' :: G) Φ w' := by
 obtain ⟨Fs, o⟩ := h.own
 cases Fs with
 | nil => exact o.g.elim
 | cons F Fs =>
  obtain ⟨hF, hG⟩ := o.g
  have hnd := o.nd
  rw [List.flatten_cons] at hnd
  have hp : (keys H ++ (F ++ Fs.flatten)).Perm (F ++ (keys H ++ Fs.flatten)) := by
   rw [← List.append_assoc, ← List.append_assoc]
   exact List.perm_append_comm.append_right _
  have hnd2 := List.nodup_append.1 (hp.nodup_iff.1 hnd)
  have hmine : ∀ k ∈ keys H ++ Fs.flatten, (k ∈ T.t ∨ w0.heap.size ≤ k) ∧ k < w.heap.size := fun k hk => o.dG k (by rw [List.flatten_cons]; exact hp.mem_iff.2 (List.mem_append_right _ hk))
  -- what is no part of the row is as it was
  have mA : ∀ k, k < w.heap.size → k ∉ F → w'.heap[k]? = w.heap[k]? := fun k hk hn => hg.block k hk fun e => hn (bL.mem hF e.symm)
  let F' : List Nat := (ae A' xs'.length).ownBlock.toList
  have hF' : ∀ k ∈ F', (ae A' xs'.length).ownBlock = some k := fun k hk => by simpa [F'] using hk
  have lt' : ∀ k ∈ F', k < w'.heap.size := fun k hk => by
   obtain ⟨cur, h1⟩ := kr hown (hF' k hk)
   exact (Array.getElem?_eq_some_iff.1 h1).1
  have in' : ∀ k ∈ F', k ∈ F ∨ w.heap.size ≤ k := fun k hk => by
   have h1 := hF' k hk
   rcases hb with h2 | ⟨g, h2, h3⟩
   ·exact .inl (bL.mem hF (h2 ▸ h1))
   ·rw [h1] at h2
    cases h2
    exact .inr h3
  have hnf : ∀ k ∈ keys H ++ Fs.flatten, k ∉ F := fun k hk hk' => hnd2.2.2 k hk' k hk rfl
  have nd' : (F' ++ (keys H ++ Fs.flatten)).Nodup := by
   rw [List.nodup_append]
   refine ⟨?_, hnd2.2.1, fun a ha b hb' e => ?_⟩
   ·show ((ae A' xs'.length).ownBlock.toList).Nodup
    cases (ae A' xs'.length).ownBlock <;> simp
   ·subst e
    rcases in' a ha with h1 | h1
    ·exact hnf a hb' h1
    ·have := (hmine a hb').2; omega
  refine ⟨hg.os.trans h.os, hg.tape.trans h.tape, hg.output.trans h.output, Nat.le_trans h.size hg.size, fun k hk hT => ?_, F' :: Fs, ?_, fun k hk => ?_, fun p hpm => ?_, ⟨⟨⟨hz, hown⟩, lt', fun w2 hw2 => ⟨hz, hown.1, ?_⟩⟩, ?_⟩, fun φ hφ => ?_⟩
  ·have hk' : k < w.heap.size := Nat.lt_of_lt_of_le hk h.size
   rw [mA k hk' fun hm => ?_]
   ·exact h.frame k hk hT
   ·have := (o.dG k (by rw [List.flatten_cons]; exact List.mem_append_right _ (List.mem_append_left _ hm))).1
    rcases this with h1 | h1
    ·exact hT h1
    ·omega
  ·rw [List.flatten_cons]
   have hp' : (keys H ++ (F' ++ Fs.flatten)).Perm (F' ++ (keys H ++ Fs.flatten)) := by
    rw [← List.append_assoc, ← List.append_assoc]
    exact List.perm_append_comm.append_right _
   exact hp'.nodup_iff.2 nd'
  ·rw [List.flatten_cons, List.mem_append, List.mem_append] at hk
   rcases hk with hk | hk | hk
   ·have := hmine k (List.mem_append_left _ hk)
    exact ⟨this.1, Nat.lt_of_lt_of_le this.2 hg.size⟩
   ·refine ⟨?_, lt' k hk⟩
    rcases in' k hk with h1 | h1
    ·exact (o.dG k (by rw [List.flatten_cons]; exact List.mem_append_right _ (List.mem_append_left _ h1))).1
    ·exact .inr (Nat.le_trans h.size h1)
   ·have := hmine k (List.mem_append_right _ hk)
    exact ⟨this.1, Nat.lt_of_lt_of_le this.2 hg.size⟩
  ·have hm : p.1 ∈ keys H := by rw [keys, List.mem_map]; exact ⟨p, hpm, rfl⟩
   rw [mA p.1 (hmine p.1 (List.mem_append_left _ hm)).2 (hnf p.1 (List.mem_append_left _ hm))]
   exact o.has p hpm
  ·rcases hown.2 with h1 | ⟨g, cap, cur, h1, h2, h3, h4⟩
   ·exact .inl h1
   ·refine .inr ⟨g, cap, cur, h1, h2, ?_, h4⟩
    rw [hw2 g (by show g ∈ (ae A' xs'.length).ownBlock.toList; rw [h1]; simp [Value.ownBlock])]
    exact h3
  ·exact hG.mono hg.size fun k hk => mA k (hmine k (List.mem_append_right _ hk)).2 (hnf k (List.mem_append_right _ hk))
  ·obtain ⟨Fr, b1, b2, b3⟩ := o.ro φ hφ
   refine ⟨Fr, b1.mono hg.size fun k hk => mA k (b1.lt k hk) fun hm => b2 k hk (by rw [List.flatten_cons]; exact List.mem_append_right _ (List.mem_append_left _ hm)), fun k hk hm => ?_, b3⟩
   rw [List.flatten_cons, List.mem_append, List.mem_append] at hm
   rcases hm with hm | hm | hm
   ·exact b2 k hk (List.mem_append_left _ hm)
   ·rcases in' k hm with h1 | h1
    ·exact b2 k hk (by rw [List.flatten_cons]; exact List.mem_append_right _ (List.mem_append_left _ h1))
    ·have := b1.lt k hk; omega
   ·exact b2 k hk (by rw [List.flatten_cons]; exact List.mem_append_right _ (List.mem_append_right _ hm))
def kM {σ : Type} (n : Nat) (s t : Nat → σ) : Nat → σ := fun i => if i < n then s i else t (i - n)
theorem tZ {α σ : Type} (f : α → σ → List Value) (s t : Nat → σ) (xs ys : List α) : bR f (kM xs.length s t) 0 (xs ++ ys) = bR f s 0 xs ++ bR f t 0 ys := by
 rw [mX, Nat.zero_add]
 congr 1
 ·exact ju xs 0 0 fun i hi => by simp [kM, hi]
 ·refine ju ys xs.length 0 fun i hi => ?_
  show (if xs.length + i < xs.length then s (xs.length + i) else t (xs.length + i - xs.length)) = t (0 + i)
  rw [if_neg (by omega), Nat.add_sub_cancel_left, Nat.zero_add]
theorem jj.kM {α σ : Type} {K : α → σ → Pr} {s t : Nat → σ} {xs ys : List α} {w : World} (h : jj K s 0 xs w) (h' : jj K t 0 ys w) : jj K (kM xs.length s t) 0 (xs ++ ys) w := by
 refine jj.of fun i x hx => ?_
 rw [Nat.zero_add]
 by_cases hi : i < xs.length
 ·rw [List.getElem?_append_left hi] at hx
  have := h.get hx
  rw [Nat.zero_add] at this
  simpa [Eng.kM, hi] using this
 ·rw [List.getElem?_append_right (by omega)] at hx
  have := h'.get hx
  rw [Nat.zero_add] at this
  simpa [Eng.kM, hi] using this
theorem eU.flat {α σ : Type} {m : Nat} {f : α → σ → List Value} {K : α → σ → Pr} {B : av σ} {ys : List α} {w : World} (hR : eU m f K B ys w) (hf : ∀ x s, (f x s).length = m) {b o' : Nat} (hBa : B.a = some (b, o')) :
  ∀ j v, (bR f B.s 0 ys)[j]? = some v → w.cell? ((⟨b, o', none⟩ : Addr).add j) = some v := fun j v hv => by
 have hlen := ep (s := B.s) hf ys 0
 have hj : j < ys.length * m := by
  rcases Nat.lt_or_ge j (ys.length * m) with h1 | h1
  ·exact h1
  ·rw [List.getElem?_eq_none (by omega)] at hv; cases hv
 have hm : 0 < m := by
  rcases Nat.eq_zero_or_pos m with h0 | h0
  ·rw [h0, Nat.mul_zero] at hj; omega
  ·exact h0
 have hq' : j / m < ys.length := Nat.div_lt_of_lt_mul (by rw [Nat.mul_comm]; exact hj)
 have hr' : j % m < m := Nat.mod_lt _ hm
 have hd' : j / m * m + j % m = j := by rw [Nat.mul_comm]; exact Nat.div_add_mod _ _
 have hx' : ys[j / m]? = some ys[j / m] := List.getElem?_eq_getElem hq'
 have hlt : j % m < (f ys[j / m] (B.s (j / m))).length := by rw [hf]; exact hr'
 have h2 := lP (n := 0) hf hx' (j := j % m) (v := (f ys[j / m] (B.s (j / m)))[j % m]) (by rw [Nat.zero_add]; exact List.getElem?_eq_getElem hlt)
 rw [hd', hv] at h2
 have h3 := hR.cells b o' hBa _ _ hx' (j % m) _ (List.getElem?_eq_getElem hlt)
 rw [dy, oI h2]
 rwa [show o' + j / m * m + j % m = o' + j by omega] at h3
theorem rK {α σ : Type} {f : α → σ → List Value} {s : Nat → σ} {p : Value → Bool} (h : ∀ x s, (f x s).all p = true) : ∀ (xs : List α) (n : Nat), ∀ u ∈ bR f s n xs, p u = true
 | [], _, u, hu => by cases hu
 | x :: r, n, u, hu => by
  rw [bR, List.mem_append] at hu
  exact hu.elim (fun hu => List.all_eq_true.1 (h x (s n)) u hu) (rK h r (n + 1) u)
section
variable {P : Program} {N : Nat} {ops : Array Oper} {Q : Exit → Act → World → Prop} {o : Oper} {l : List Oper} {L : Env} {w0 : World} {T : cD} {H : bw} {G Φ : List Pr} {α σ : Type}
theorem o2 {w : World} {t ty e : Nat} {inf : TypeInfo} {A B : av σ} {n : Nat} (ht : P.underlying t = some (.slice e)) (hi : P.info? e = some inf) (hn : n ≤ A.c) :
  (Builtin.append_ #[t, t] ty #[ae A n, ae B 0]).run P w = .ok (ae A n) w := by
 have hfc : (Builtin.firstCells inf.size 0 (ae B 0)).run P w = .ok #[] w := by
  unfold ae
  cases B.addr <;> simp [Builtin.firstCells, loadCells, loadCellsFrom]
 have hB : Builtin.lenOf (ae B 0) = pure 0 := rfl
 simp only [Builtin.append_, List.getElem?_toArray, List.getElem?_cons_zero, List.getElem?_cons_succ]
 simp only [Sem.run_bind, run_underlying ht, Result.andThen_ok, Go.sizeOf, typeInfo, hi, Sem.run_pure, hB]
 unfold ae
 cases A.addr <;> simp [run_underlying ht, hi, hfc, storeCells, hn]
theorem pQ {w : World} {t ty e m by_ : Nat} {inf : TypeInfo} {z : Value} {f : α → σ → List Value} {K : α → σ → Pr} {A B : av σ} {xs ys : List α} (ht : P.underlying t = some (.slice e)) (hi : P.info? e = some inf) (hz : inf.zero = some z) (hsz : inf.size = m) (hby : inf.bytes = by_)
  (hzs : z.cells.size = m) (hm : 0 < m) (hf : ∀ x s, (f x s).length = m) (h1 : ∀ x s, (f x s).all Value.oneCell' = true) (hA : bL m e f A xs w) (hR : eU m f K B ys w) {u : Unit} (hroom : ey by_ (xs ++ ys).length = some u) :
  ∃ (A' : av σ) (w' : World), (Builtin.append_ #[t, t] ty #[ae A xs.length, ae B ys.length]).run P w = .ok (ae A' (xs ++ ys).length) w' ∧ A'.z = none ∧ A'.s = kM xs.length A.s B.s ∧
   w'.ownsRow 0 e m (ae A' (xs ++ ys).length) (xs ++ ys).length (bR f A'.s 0 (xs ++ ys)) ∧ w.grownBy w' (ae A xs.length).ownBlock ∧
   ((ae A' (xs ++ ys).length).ownBlock = (ae A xs.length).ownBlock ∨ ∃ g, (ae A' (xs ++ ys).length).ownBlock = some g ∧ w.heap.size ≤ g) := by
 obtain ⟨hAz, hown⟩ := hA
 obtain ⟨hr1, hr2⟩ := oD hroom
 rw [List.length_append] at hr1 hr2
 have hflat : ∀ s, bR f (kM xs.length A.s s) 0 (xs ++ ys) = bR f A.s 0 xs ++ bR f s 0 ys := fun s => tZ f A.s s xs ys
 have lx := ep (s := A.s) hf xs 0
 have ly := ep (s := B.s) hf ys 0
 -- a row told by its value gives the slice's parts
 have conv : ∀ (w' : World) (v' : Value) (bs : Nat), w'.ownsRow bs e m v' (xs.length + ys.length) (bR f A.s 0 xs ++ bR f B.s 0 ys) → ∃ A' : av σ, v' = ae A' (xs ++ ys).length ∧ A'.z = none ∧ A'.s = kM xs.length A.s B.s ∧ w'.ownsRow 0 e m (ae A' (xs ++ ys).length) (xs ++ ys).length (bR f A'.s 0 (xs ++ ys)) := fun w' v' bs ho => by
  obtain ⟨hl, h2⟩ := ho
  rcases h2 with ⟨rfl, h3⟩ | ⟨g, cap, cur, rfl, _, hg, rest⟩
  ·have hx : xs = [] := List.eq_nil_of_length_eq_zero (by omega)
   have hy : ys = [] := List.eq_nil_of_length_eq_zero (by omega)
   subst hx; subst hy
   exact ⟨⟨none, 0, kM 0 A.s B.s, none⟩, rfl, rfl, rfl, World.ownsRow_nil w' 0 e m⟩
  ·refine ⟨⟨some (g, 0), cap, kM xs.length A.s B.s, none⟩, by rw [List.length_append]; rfl, rfl, rfl, ?_⟩
   rw [hflat, List.length_append]
   exact ⟨hl, .inr ⟨g, cap, cur, rfl, Nat.zero_le _, hg, rest⟩⟩
 by_cases hys : ys = []
 ·subst hys
  have hc : xs.length ≤ A.c := by
   rcases hown.2 with ⟨h3, h4⟩ | ⟨g, cap, cur, h3, _, _, h5, _⟩
   ·omega
   ·simp only [ae, Value.slice.injEq, true_and] at h3
    rw [h3.2]; exact h5
  obtain ⟨A', e1, e2, e3, e4⟩ := conv w (ae A xs.length) 0 (by simpa [bR] using hown)
  exact ⟨A', w, (o2 ht hi hc).trans (by rw [← e1]), e2, e3, e4, ⟨rfl, rfl, rfl, Nat.le_refl _, fun _ _ _ => rfl⟩, .inl (by rw [← e1])⟩
 have hne : 0 < ys.length := by
  cases ys with
  | nil => exact absurd rfl hys
  | cons => simp
 obtain ⟨b, o', hBa⟩ : ∃ b o', B.a = some (b, o') := by
  cases hb : B.a with
  | none => rw [(hR.nil hb).1] at hne; simp at hne
  | some p => exact ⟨p.1, p.2, rfl⟩
 have hBs : ae B ys.length = .slice (some ⟨b, o', none⟩) ys.length B.c := by unfold ae; rw [lW hBa]
 have hnews := hR.flat hf hBa
 have hmax : xs.length + ys.length ≤ maxLen := by simp only [maxLen]; omega
 rw [hBs]
 subst hsz
 subst hby
 rcases hown.2 with ⟨h3, h4⟩ | ⟨g, cap, cur, h3, _, hg, hnc, hcm, hcs, htake⟩
 ·have hx : xs = [] := List.eq_nil_of_length_eq_zero h4
  subst hx
  simp only [List.length_nil, Nat.zero_add] at hr1 hr2 h3 hmax
  have hr := run_append_nil (P := P) w t ty e inf z ht hi hz ⟨b, o', none⟩ ys.length B.c (bR f B.s 0 ys) ly hnews hne (by omega) (by omega)
  obtain ⟨A', e1, e2, e3, e4⟩ := conv (w.drew.alloc (.cells ((bR f B.s 0 ys).toArray ++ Builtin.zeroCells z.cells (grownCap w ys.length 0 e - ys.length)) e)) (.slice (some ⟨w.heap.size, 0, none⟩) ys.length (grownCap w ys.length 0 e)) 0
   ⟨by simp [bR, ly], .inr ⟨w.heap.size, grownCap w ys.length 0 e, _, by simp, Nat.zero_le _, heap_alloc_new w.drew _, by simpa using grownCap_ge w ys.length 0 e, grownCap_le_maxLen w ys.length 0 e hmax, by
    have := grownCap_ge w ys.length 0 e
    simp only [Array.size_append, List.size_toArray, size_zeroCells, hzs, ly, ← Nat.add_mul]
    congr 1; omega, by
    simp only [Array.toList_append, List.length_nil, Nat.zero_add, ← ly, bR, List.nil_append]
    exact List.take_left⟩⟩
  refine ⟨A', _, ?_, e2, e3, e4, ⟨rfl, rfl, rfl, by simp, fun k hk _ => heap_alloc_old w.drew _ hk⟩, .inr ⟨w.heap.size, by rw [← e1]; rfl, Nat.le_refl _⟩⟩
  show (Builtin.append_ #[t, t] ty #[ae A 0, _]).run P w = _
  rw [h3, hr, e1]
 ·have hs : ae A xs.length = .slice (some ⟨g, 0, none⟩) xs.length cap := h3
  by_cases hfit : xs.length + ys.length ≤ cap
  ·have hsize : xs.length * inf.size + (bR f B.s 0 ys).length ≤ cur.size := by rw [ly, hcs, ← Nat.add_mul]; exact Nat.mul_le_mul_right _ hfit
   have hr := run_append_room (P := P) w t ty e inf ht hi g xs.length cap cur hg ⟨b, o', none⟩ ys.length B.c (bR f B.s 0 ys) ly hnews (rK h1 ys 0) hfit hsize
   obtain ⟨A', e1, e2, e3, e4⟩ := conv (w.setRow g (cur.toList.take (xs.length * inf.size) ++ bR f B.s 0 ys ++ cur.toList.drop (xs.length * inf.size + (bR f B.s 0 ys).length)).toArray) (.slice (some ⟨g, 0, none⟩) (xs.length + ys.length) cap) 0
    ⟨by rw [List.length_append, lx, ly, Nat.add_mul], .inr ⟨g, cap, _, rfl, Nat.zero_le _, setRow_heap w g cur _ e _ hg, hfit, hcm, by
     simp only [List.size_toArray, List.length_append, List.length_take, List.length_drop, Array.length_toList]
     omega, by
     show ((cur.toList.take (xs.length * inf.size) ++ bR f B.s 0 ys) ++ _).take _ = _
     rw [htake]
     have : (xs.length + ys.length) * inf.size = (bR f A.s 0 xs ++ bR f B.s 0 ys).length := by rw [List.length_append, lx, ly, Nat.add_mul]
     rw [this]
     exact List.take_left⟩⟩
   refine ⟨A', _, ?_, e2, e3, e4, ?_, .inl (by rw [← e1, hs]; rfl)⟩
   ·rw [hs, hr, e1]
   ·rw [hs]
    exact ⟨rfl, rfl, rfl, by simp, fun k _ hk => setRow_other w g k _ (fun e => hk (by simp [Value.ownBlock, e]))⟩
  ·have holds : ∀ j u, (bR f A.s 0 xs)[j]? = some u → w.cell? ((⟨g, 0, none⟩ : Addr).add j) = some u := by
    have := World.ownsRow.cells hown (g := g) (by rw [hs]; rfl)
    exact this
   obtain ⟨v', w', r1, r2, r3⟩ := run_append_arg_grows (P := P) w t ty e inf z inf.size inf.bytes ht hi hz rfl rfl hzs hm ⟨g, 0, none⟩ xs.length cap (bR f A.s 0 xs) lx holds ⟨b, o', none⟩ ys.length B.c (bR f B.s 0 ys) ly hnews (by omega) hmax hr1
   obtain ⟨A', e1, e2, e3, e4⟩ := conv w' v' w.heap.size r2
   refine ⟨A', w', ?_, e2, e3, e4, ⟨r3.os, r3.tape, r3.output, r3.size, fun k hk _ => r3.block k hk (by simp)⟩, ?_⟩
   ·rw [hs, r1, e1]
   ·rcases r2.2 with ⟨_, h5⟩ | ⟨g', cap', cur', h5, h6, _⟩
    ·omega
    ·exact .inr ⟨g', by rw [← e1, h5]; rfl, h6⟩
theorem WL.dW {m by_ e : Nat} {z : Value} {f : α → σ → List Value} {K : α → σ → Pr} {A B : av σ} {xs ys : List α} {s x : Operand} {t : TypeId} {d : Nat} (i : Nat) {G' : List Pr} (ho : o.op = .call { callee := .builtin .append, args := #[s, x], argTypes := #[t, t] })
  (hd : o.dst = some d) (hdN : Nat.blt d N = true) (ht : P.underlying t = some (.slice e)) (hi : (P.info? e).map (fun q => (q.zero, q.size, q.bytes)) = some (some z, m, by_)) (hzs : Nat.beq z.cells.size m = true) (hm : Nat.blt 0 m = true) (hf : ∀ x s, (f x s).length = m) (h1 : ∀ x s, (f x s).all Value.oneCell' = true)
  (hk : (o.op.operands.all (known L) && !cA o.op) = true) (hs : cE L s = ae A xs.length) (hx : cE L x = ae B ys.length) (hG : G[i]? = some (bL m e f A xs)) (hG' : G.eraseIdx i = G') (hin : bC K A xs ∈ Φ) (hΦ : Row m f K B ys ∈ Φ)
  {u : Unit} (hroom : ey by_ (xs ++ ys).length = some u) (hg : cu ops L o = some true)
  (h : ∀ A' : av σ, WL P N ops Q l ((d, ae A' (xs ++ ys).length) :: L) (Sat w0 T H (bL m e f A' (xs ++ ys) :: G') (bC K A' (xs ++ ys) :: Φ))) : WL P N ops Q (o :: l) L (Sat w0 T H G Φ) := by
 obtain ⟨inf, hi', hq⟩ := Option.map_eq_some_iff.1 hi
 obtain ⟨hz, hsz, hby⟩ : inf.zero = some z ∧ inf.size = m ∧ inf.bytes = by_ := by simpa using hq
 subst hG'
 refine WL.op (X := av σ) (fun A' => ae A' (xs ++ ys).length) (fun A' => Sat w0 T H (bL m e f A' (xs ++ ys) :: G.eraseIdx i) (bC K A' (xs ++ ys) :: Φ)) (fun A' => (d, ae A' (xs ++ ys).length) :: L) hg hk (fun w hS => ?_) (fun A' => ?_) h
 ·have hperm : G.Perm (bL m e f A xs :: G.eraseIdx i) := iG hG
  have hS1 := hS.jU hperm
  obtain ⟨Fs, ow⟩ := hS1.own
  have hA : bL m e f A xs w := by
   cases Fs with
   | nil => exact ow.g.elim
   | cons F Fs => exact ow.g.1.now
  have hR := hS.fact hΦ
  obtain ⟨A', w', r1, r2, r3, r4, r5, r6⟩ := pQ (P := P) (ty := o.type) ht hi' hz hsz hby (nE hzs) (nB hm) hf h1 hA hR hroom
  refine ⟨A', w', mQ ho ?_, ?_⟩
  ·rw [hs, hx]; exact r1
  ·refine (hS1.qs r2 r4 r5 r6).derive [bC K A xs, Row m f K B ys] (fun ψ hψ => ?_) fun w2 hψ => ?_
   ·simp only [List.mem_cons, List.not_mem_nil, or_false] at hψ
    rcases hψ with rfl | rfl
    ·exact hin
    ·exact hΦ
   ·have a1 := hψ (bC K A xs) (List.mem_cons_self ..)
    have a2 := hψ (Row m f K B ys) (List.mem_cons_of_mem _ (List.mem_cons_self ..))
    show jj K A'.s 0 (xs ++ ys) w2
    rw [r3]
    exact jj.kM a1 (jj.of fun i x hx => by rw [Nat.zero_add]; exact a2.inner i x hx)
 ·unfold dV; rw [hd]; simp only [hdN]
end
section
variable {P : Program} {fn : Func} {R : Ending → World → Prop} {N : Nat} {k : List KI} {ops : Array Oper} {Q : Exit → Act → World → Prop} {l : List Oper} {L : Env} {w0 : World} {T : cD} {H H' : bw} {G G' F F' Γ Φ : List Pr} {α σ : Type}
theorem WP.dE (is js : List Nat) (n : Nat) (hn : G.length = n) (hp : (is ++ js).isPerm (List.range n) = true) (e : eY is G = G') (h : WP P fn R N k L (Sat w0 T H G' Φ)) : WP P fn R N k L (Sat w0 T H G Φ) := fun a w hh hS => h a w hh (hS.dE is js n hn hp e)
theorem WL.dE (is js : List Nat) (n : Nat) (hn : G.length = n) (hp : (is ++ js).isPerm (List.range n) = true) (e : eY is G = G') (h : WL P N ops Q l L (Sat w0 T H G' Φ)) : WL P N ops Q l L (Sat w0 T H G Φ) := fun a w hh hS => h a w hh (hS.dE is js n hn hp e)
theorem WP.fH (m e : Nat) (f : α → σ → List Value) (K : α → σ → Pr) (s : Nat → σ) (h : WP P fn R N k L (Sat w0 T H (bL m e f (av.nil s) ([] : List α) :: G) ((bC K (av.nil s) ([] : List α) :: F) ++ Γ))) : WP P fn R N k L (Sat w0 T H G (F ++ Γ)) := fun a w hh hS => h a w hh ((hS.fH m e f s).derive [] (by simp) fun _ _ => trivial)
theorem WP.fb {m e : Nat} {f : α → σ → List Value} (K : α → σ → Pr) (j : Nat) {b : Nat} {cs : Array Value} (s : Nat → σ) (xs : List α) (hj : H[j]? = some (b, .cells cs e (0, 0))) (hf : ∀ x s, (f x s).length = m) (hcs : bR f s 0 xs = cs.toList) (hm : xs.length ≤ maxLen)
  (is : List Nat) (Ψ : List Pr) (eΨ : eY is F = Ψ) (hin : ∀ w : World, (∀ ψ ∈ Ψ, ψ w) → jj K s 0 xs w) (he : H.eraseIdx j = H') (h : WP P fn R N k L (Sat w0 T H' (bL m e f (av.at b xs.length s) xs :: G) ((bC K (av.at b xs.length s) xs :: F) ++ Γ))) : WP P fn R N k L (Sat w0 T H G (F ++ Γ)) :=
 fun a w hh hS => h a w hh (he ▸ (hS.fb j s xs hj hf hcs hm).derive Ψ (fX is eΨ) hin)
theorem WL.fb {m e : Nat} {f : α → σ → List Value} (K : α → σ → Pr) (j : Nat) {b : Nat} {cs : Array Value} (s : Nat → σ) (xs : List α) (hj : H[j]? = some (b, .cells cs e (0, 0))) (hf : ∀ x s, (f x s).length = m) (hcs : bR f s 0 xs = cs.toList) (hm : xs.length ≤ maxLen)
  (is : List Nat) (Ψ : List Pr) (eΨ : eY is F = Ψ) (hin : ∀ w : World, (∀ ψ ∈ Ψ, ψ w) → jj K s 0 xs w) (he : H.eraseIdx j = H') (h : WL P N ops Q l L (Sat w0 T H' (bL m e f (av.at b xs.length s) xs :: G) ((bC K (av.at b xs.length s) xs :: F) ++ Γ))) : WL P N ops Q l L (Sat w0 T H G (F ++ Γ)) :=
 fun a w hh hS => h a w hh (he ▸ (hS.fb j s xs hj hf hcs hm).derive Ψ (fX is eΨ) hin)
theorem WP.dD {m e : Nat} {f : α → σ → List Value} {K : α → σ → Pr} {A : av σ} {xs : List α} (i j : Nat) (hG : G[i]? = some (bL m e f A xs)) (hG' : G.eraseIdx i = G') (hf : ∀ x s, (f x s).length = m) (hin : F[j]? = some (bC K A xs))
  (h : WP P fn R N k L (Sat w0 T H G' ((Row m f K A xs :: F) ++ Γ))) : WP P fn R N k L (Sat w0 T H G (F ++ Γ)) := fun a w hh hS => h a w hh (by
 subst hG'
 exact (hS.jU (iG hG)).dD hf (ar j hin))
theorem WL.dD {m e : Nat} {f : α → σ → List Value} {K : α → σ → Pr} {A : av σ} {xs : List α} (i j : Nat) (hG : G[i]? = some (bL m e f A xs)) (hG' : G.eraseIdx i = G') (hf : ∀ x s, (f x s).length = m) (hin : F[j]? = some (bC K A xs))
  (h : WL P N ops Q l L (Sat w0 T H G' ((Row m f K A xs :: F) ++ Γ))) : WL P N ops Q l L (Sat w0 T H G (F ++ Γ)) := fun a w hh hS => h a w hh (by
 subst hG'
 exact (hS.jU (iG hG)).dD hf (ar j hin))
end
end Eng
namespace Eng
open Go
theorem Sat.nj {w0 w : World} {T : cD} {H : bw} {G0 Gr Φ : List Pr} (h : Sat w0 T H (G0 ++ Gr) Φ w) (m : List Bool) :
  ∃ Z : cD, Sat w Z (dH m H) G0 Φ w ∧ ∀ H1 G1 Φ1 w', Sat w Z H1 G1 Φ1 w' → Sat w0 T (H1 ++ dB m H) (G1 ++ Gr) (Φ1 ++ Φ) w' := by
 obtain ⟨Fs, o⟩ := h.own
 obtain ⟨F0, Fr, rfl, g0, gr⟩ := GS.split o.g
 have hp : (keys H ++ (F0 ++ Fr).flatten).Perm ((keys (dH m H) ++ F0.flatten) ++ (keys (dB m H) ++ Fr.flatten)) := by
  refine ((keys_perm (iN m H)).append_right (F0 ++ Fr).flatten).symm.trans ?_
  rw [dg, List.flatten_append, List.append_assoc, List.append_assoc]
  refine List.Perm.append_left _ ?_
  rw [← List.append_assoc, ← List.append_assoc]
  exact List.perm_append_comm.append_right _
 have hmem : ∀ k, k ∈ keys H ++ (F0 ++ Fr).flatten ↔ k ∈ keys (dH m H) ++ F0.flatten ∨ k ∈ keys (dB m H) ++ Fr.flatten := fun k => by rw [hp.mem_iff, List.mem_append]
 have hnd := List.nodup_append.1 (hp.nodup_iff.1 o.nd)
 have m0 : ∀ k ∈ keys (dH m H) ++ F0.flatten, (k ∈ T.t ∨ w0.heap.size ≤ k) ∧ k < w.heap.size := fun k hk => o.dG k ((hmem k).2 (.inl hk))
 have mr : ∀ k ∈ keys (dB m H) ++ Fr.flatten, (k ∈ T.t ∨ w0.heap.size ≤ k) ∧ k < w.heap.size := fun k hk => o.dG k ((hmem k).2 (.inr hk))
 have dis : ∀ k ∈ keys (dH m H) ++ F0.flatten, k ∉ keys (dB m H) ++ Fr.flatten := fun k hk hk' => hnd.2.2 k hk k hk' rfl
 let A : Nat → Prop := fun k => k ∉ keys H ++ (F0 ++ Fr).flatten ∧ (T.a k ∨ k ∈ T.t ∨ w0.heap.size ≤ k)
 refine ⟨⟨keys (dH m H) ++ F0.flatten, A⟩, ⟨rfl, rfl, rfl, Nat.le_refl _, fun _ _ _ => rfl, F0, hnd.1, fun k hk => ⟨.inl hk, (m0 k hk).2⟩, fun p hpm => o.has p ((iR m H p).2 (.inl hpm)), g0, fun φ hφ => ?_⟩, fun H1 G1 Φ1 w' h' => ?_⟩
 ·obtain ⟨F, hl, hn, ha⟩ := o.ro φ hφ
  exact ⟨F, hl, fun k hkF hk => hn k hkF ((hmem k).2 (.inl hk)), fun k hkF => .inl ⟨hn k hkF, ha k hkF⟩⟩
 ·obtain ⟨Fs1, o1⟩ := h'.own
  have hstay : ∀ k, k < w.heap.size → k ∉ keys (dH m H) ++ F0.flatten → w'.heap[k]? = w.heap[k]? := fun k hk hn => h'.frame k hk hn
  have n1 : ∀ k ∈ keys H1 ++ Fs1.flatten, k ∉ keys (dB m H) ++ Fr.flatten := fun k hk hr => by
   rcases (o1.dG k hk).1 with h0 | h0
   ·exact dis k h0 hr
   ·have := (mr k hr).2; omega
  have hp1 : (keys (H1 ++ dB m H) ++ (Fs1 ++ Fr).flatten).Perm ((keys H1 ++ Fs1.flatten) ++ (keys (dB m H) ++ Fr.flatten)) := by
   rw [dg, List.flatten_append, List.append_assoc, List.append_assoc]
   refine List.Perm.append_left _ ?_
   rw [← List.append_assoc, ← List.append_assoc]
   exact List.perm_append_comm.append_right _
  have nd1 : ((keys H1 ++ Fs1.flatten) ++ (keys (dB m H) ++ Fr.flatten)).Nodup := List.nodup_append.2 ⟨o1.nd, hnd.2.1, fun a ha b hb e => n1 a ha (e ▸ hb)⟩
  refine ⟨h'.os.trans h.os, h'.tape.trans h.tape, h'.output.trans h.output, Nat.le_trans h.size h'.size, fun k hk0 hT => ?_, Fs1 ++ Fr, hp1.nodup_iff.2 nd1, fun k hk => ?_, fun p hpm => ?_, GS.append o1.g (gr.mono h'.size fun k hk => hstay k (mr k (List.mem_append_right _ hk)).2 fun h0 => dis k h0 (List.mem_append_right _ hk)), fun φ hφ => ?_⟩
  ·rw [hstay k (Nat.lt_of_lt_of_le hk0 h.size) fun h0 => ?_]
   ·exact h.frame k hk0 hT
   ·rcases (m0 k h0).1 with h1 | h1
    ·exact hT h1
    ·omega
  ·rw [hp1.mem_iff, List.mem_append] at hk
   rcases hk with hk | hk
   ·refine ⟨?_, (o1.dG k hk).2⟩
    rcases (o1.dG k hk).1 with h0 | h0
    ·exact (m0 k h0).1
    ·exact .inr (Nat.le_trans h.size h0)
   ·exact ⟨(mr k hk).1, Nat.lt_of_lt_of_le (mr k hk).2 h'.size⟩
  ·rw [List.mem_append] at hpm
   rcases hpm with hpm | hpm
   ·exact o1.has p hpm
   ·have hk : p.1 ∈ keys (dB m H) ++ Fr.flatten := List.mem_append_left _ (by rw [keys, List.mem_map]; exact ⟨p, hpm, rfl⟩)
    rw [hstay p.1 (mr _ hk).2 fun h0 => dis _ h0 hk]
    exact o.has p ((iR m H p).2 (.inr hpm))
  ·rw [List.mem_append] at hφ
   rcases hφ with hφ | hφ
   ·obtain ⟨F, hl, hn, ha⟩ := o1.ro φ hφ
    refine ⟨F, hl, fun k hkF hk => ?_, fun k hkF => ?_⟩
    ·rw [hp1.mem_iff, List.mem_append] at hk
     rcases hk with hk | hk
     ·exact hn k hkF hk
     ·rcases ha k hkF with h0 | h0 | h0
      ·exact h0.1 ((hmem k).2 (.inr hk))
      ·exact dis k h0 hk
      ·have h2 := (mr k hk).2
       have h3 : w.heap.size ≤ k := h0
       omega
    ·rcases ha k hkF with h0 | h0 | h0
     ·exact h0.2
     ·exact .inr (m0 k h0).1
     ·exact .inr (.inr (Nat.le_trans h.size h0))
   ·obtain ⟨F, hl, hn, ha⟩ := o.ro φ hφ
    refine ⟨F, hl.mono h'.size fun k hkF => hstay k (hl.lt k hkF) fun h0 => hn k hkF ((hmem k).2 (.inl h0)), fun k hkF hk => ?_, ha⟩
    rw [hp1.mem_iff, List.mem_append] at hk
    rcases hk with hk | hk
    ·rcases (o1.dG k hk).1 with h0 | h0
     ·exact hn k hkF ((hmem k).2 (.inl h0))
     ·have h2 := hl.lt k hkF
      have h3 : w.heap.size ≤ k := h0
      omega
    ·exact hn k hkF ((hmem k).2 (.inr hk))
def oV (P : Program) (f : FuncId) (args : Array Value) (H0 : bw) (G0 Φ0 : List Pr) {X : Type} (V : X → Value) (H1 : X → bw) (G1 Φ1 : X → List Pr) : Prop :=
 ∀ w Z, Sat w Z H0 G0 Φ0 w → Calls P f args w fun e w' => ∃ x, e = .returned (V x) ∧ Sat w Z (H1 x) (G1 x) (Φ1 x) w'
section
variable {P : Program} {N : Nat} {ops : Array Oper} {Q : Exit → Act → World → Prop} {l : List Oper} {L L' : Env} {w0 : World} {T : cD} {H H0 Hr : bw} {G G0 Gr F F' Γ Φ : List Pr} {o : Oper} {α σ : Type}
theorem WL.nj {F0 : List Pr} {f : FuncId} {args : Array Value} {X : Type} {V : X → Value} {H1 : X → bw} {G1 R : X → List Pr} (hs bs : List Nat) (m : List Bool) (L' : X → Env) (is : List Nat) (hF : eY is F = F0)
  (hc : oV P f args H0 G0 (F0 ++ Γ) V H1 G1 (fun x => R x ++ (F0 ++ Γ))) (hm : dH m H = H0) (hr : dB m H = Hr) (hG : G = G0 ++ Gr) (he : ja P o L H hs = some (f, args, bs, bs)) (hg : cu ops L o = some true) (hp : ∀ x, dV N o (V x) L = some (L' x))
  (h : ∀ x, WL P N ops Q l (L' x) (Sat w0 T (H1 x ++ Hr) (G1 x ++ Gr) ((R x ++ F) ++ Γ))) : WL P N ops Q (o :: l) L (Sat w0 T H G (F ++ Γ)) := by
 subst hG
 refine WL.call (X := X) hs bs V (fun x => Sat w0 T (H1 x ++ Hr) (G1 x ++ Gr) ((R x ++ F) ++ Γ)) L' he hg (fun w hS => ?_) hp h
 obtain ⟨Z, h0, hback⟩ := hS.nj m
 subst hm; subst hr
 refine (hc w Z (h0.less (bE is hF))).mono fun e w' ⟨x, a, b⟩ => ⟨x, a, (hback _ _ _ _ b).less fun φ hφ => ?_⟩
 rw [List.append_assoc, List.mem_append] at hφ
 rcases hφ with hφ | hφ
 ·exact List.mem_append_left _ (List.mem_append_left _ hφ)
 ·exact List.mem_append_right _ hφ
theorem Sat.BO {w : World} {m e : Nat} {f : α → σ → List Value} {K : α → σ → Pr} {A : av σ} {xs : List α} (hS : Sat w0 T H G Φ w) {i : Nat} (hG : G[i]? = some (bL m e f A xs)) (hf : ∀ x s, (f x s).length = m) (hin : bC K A xs ∈ Φ) : eU m f K A xs w := by
 have hS1 := hS.jU (iG hG)
 obtain ⟨Fs, ow⟩ := hS1.own
 cases Fs with
 | nil => exact ow.g.elim
 | cons F Fs => exact ow.g.1.now.row hf (hS.fact hin)
theorem WL.nK {m e : Nat} {f : α → σ → List Value} {K : α → σ → Pr} {A : av σ} {xs : List α} {v : Value} (i : Nat) (hG : G[i]? = some (bL m e f A xs)) (hf : ∀ x s, (f x s).length = m) (hin : bC K A xs ∈ Φ) (hr : ∀ w, Row m f K A xs w → (execOp (cE L) o).run P w = .ok (.value v) w)
  (hk : (o.op.operands.all (known L) && !cA o.op) = true) (hg : cu ops L o = some true) (hp : dV N o v L = some L') (h : WL P N ops Q l L' (Sat w0 T H G Φ)) : WL P N ops Q (o :: l) L (Sat w0 T H G Φ) := fun a w hh hS => by
 unfold wpList
 rw [cM hh hg, if_pos rfl]
 refine .inl ?_
 unfold Oper.wp
 rw [hh.exec hk, hr w (hS.BO hG hf hin)]
 exact h _ w (hh.dV hp) hS
theorem QL.nK {m e : Nat} {f : α → σ → List Value} {K : α → σ → Pr} {A : av σ} {xs : List α} {v : Value} {Q : Act → Prop} (i : Nat) (hG : G[i]? = some (bL m e f A xs)) (hf : ∀ x s, (f x s).length = m) (hin : bC K A xs ∈ Φ) (hr : ∀ w, Row m f K A xs w → (execOp (cE L) o).run P w = .ok (.value v) w)
  (hk : (o.op.operands.all (known L) && !cA o.op) = true) (hg : cu ops L o = some true) (hp : dV N o v L = some L') (h : QL P N ops (Sat w0 T H G Φ) Q l L') : QL P N ops (Sat w0 T H G Φ) Q (o :: l) L := fun a hh => by
 unfold wpQuiet
 rw [cM hh hg, if_pos rfl]
 refine ⟨v, fun w hC => ?_, h _ (hh.dV hp)⟩
 unfold Oper.quietAt
 rw [hh.exec hk, hr w (hC.BO hG hf hin)]
 exact ⟨rfl, rfl⟩
theorem rJ {f : α → σ → List Value} {m : Nat} {s : Nat → σ} (hf : ∀ x s, (f x s).length = m) : ∀ {xs : List α} {n i : Nat} {x : α}, i < xs.length → bR f s n (xs.set i x) = (bR f s n xs).take (i * m) ++ f x (s (n + i)) ++ (bR f s n xs).drop (i * m + m)
 | [], n, i, x, h => by simp at h
 | y :: ys, n, 0, x, h => by
  rw [List.set_cons_zero, bR, bR, Nat.zero_mul, List.take_zero, List.nil_append, Nat.zero_add, List.drop_left' (hf _ _)]
  rfl
 | y :: ys, n, i + 1, x, h => by
  have e : (i + 1) * m = (f y (s n)).length + i * m := by rw [hf, Nat.succ_mul, Nat.add_comm]
  have e2 : (i + 1) * m + m = (f y (s n)).length + (i * m + m) := by rw [e]; omega
  rw [List.set_cons_succ, bR, bR, rJ hf (by simpa using h), e2, e, List.take_append, Nat.add_sub_cancel_left, List.take_of_length_le (Nat.le_add_right _ _), List.drop_append, Nat.add_sub_cancel_left, List.drop_eq_nil_of_le (Nat.le_add_right _ _), List.nil_append, show n + 1 + i = n + (i + 1) by omega]
  simp only [List.append_assoc]
theorem Sat.EP {w : World} {m e : Nat} {f : α → Unit → List Value} {A : av Unit} {xs : List α} (hS : Sat w0 T H (bL m e f A xs :: G) Φ w) (hf : ∀ x s, (f x s).length = m) (h1 : ∀ x s, (f x s).all Value.oneCell' = true) {i : Nat} (hi : i < xs.length) (x : α) {b o' : Nat} (hA : A.a = some (b, o')) :
  ∃ w', (storeCells ⟨b, o' + i * m, none⟩ (f x ()) 0).run P w = .ok () w' ∧ Sat w0 T H (bL m e f A (xs.set i x) :: G) Φ w' := by
 obtain ⟨Fs, ow⟩ := hS.own
 cases Fs with
 | nil => exact ow.g.elim
 | cons F Fs =>
  obtain ⟨hz, hown⟩ := ow.g.1.now
  obtain ⟨hl, h2⟩ := hown
  rcases h2 with ⟨h3, h4⟩ | ⟨g, cap, cur, h3, _, hg, hn, hcm, hs, ht⟩
  ·omega
  ·have h3' := h3
   simp only [ae, Value.slice.injEq, true_and] at h3
   obtain ⟨h5, h6⟩ := h3
   have h7 : g = b ∧ o' = 0 := by
    rw [lW hA] at h5
    simp only [Option.some.injEq, Addr.mk.injEq, and_true] at h5
    exact ⟨h5.1.symm, h5.2⟩
   obtain ⟨rfl, rfl⟩ := h7
   have him : i * m + m ≤ xs.length * m := by rw [← Nat.succ_mul]; exact Nat.mul_le_mul_right _ hi
   have hxc : xs.length * m ≤ cap * m := Nat.mul_le_mul_right _ hn
   have hfit : i * m + 0 + (f x ()).length ≤ cur.size := by rw [hf, hs]; omega
   have hr := run_storeCells_at P g (i * m) e (f x ()) 0 cur w hg hfit (List.all_eq_true.1 (h1 x ()))
   refine ⟨_, by rw [Nat.zero_add]; exact hr, hS.qs (A' := A) (xs' := xs.set i x) hz ?_ ?_ ?_⟩
   ·rw [List.length_set]
    refine ⟨by rw [ep hf, List.length_set], .inr ⟨g, cap, _, h3', Nat.zero_le _, setRow_heap w g cur _ e _ hg, hn, hcm, ?_, ?_⟩⟩
    ·simp only [List.size_toArray, List.length_append, List.length_take, List.length_drop, Array.length_toList, hf]
     omega
    ·rw [rJ hf hi, ← ht]
     simp only [Nat.add_zero, hf, List.take_take, List.drop_take, Nat.min_eq_left (show i * m ≤ xs.length * m by omega)]
     rw [List.take_append, List.take_of_length_le (by simp only [List.length_append, List.length_take, Array.length_toList, hf]; omega)]
     congr 1
     simp only [List.length_append, List.length_take, Array.length_toList, hf]
     rw [Nat.min_eq_left (by omega)]
   ·rw [h3']
    exact ⟨rfl, rfl, rfl, by simp, fun k _ hk => setRow_other w g k _ (fun e => hk (by simp [Value.ownBlock, e]))⟩
   ·rw [List.length_set]
    exact .inl rfl
end
end Eng
namespace Eng
open Go
section
variable {P : Program} {N : Nat} {ops : Array Oper} {Q : Exit → Act → World → Prop} {l : List Oper} {L : Env} {w0 : World} {T : cD} {H : bw} {G G' Φ : List Pr} {α : Type} {ty : TypeId} {pos : String} {af : Array Edge} {g : Option (Nat × Bool)} {t : TypeId} {x y : Operand}
theorem WL.Ad {m e n : Nat} {f : α → Unit → List Value} {A : av Unit} {xs : List α} {i : Int} {u r : α} {v : Value} (j : Nat) (hsz : ∀ w, (Go.sizeOf t).run P w = .ok n w) (hn : n = m) (hk : known L x = true) (hk' : known L y = true) (hx : cE L x = dM A (i.toNat * m + 0)) (hy : cE L y = v)
  (hv : v.cells.toList = f r ()) (hu : cI xs.length xs i = some u) (hG : G[j]? = some (bL m e f A xs)) (hG' : G.eraseIdx j = G') (hf : ∀ x s, (f x s).length = m) (h1 : ∀ x s, (f x s).all Value.oneCell' = true) (hin : bC aA A xs ∈ Φ)
  (hg : cu ops L ⟨none, .store t x y, ty, pos, af, g⟩ = some true) (h : WL P N ops Q l L (Sat w0 T H (bL m e f A (xs.set i.toNat r) :: G') (bC aA A (xs.set i.toNat r) :: Φ))) : WL P N ops Q (⟨none, .store t x y, ty, pos, af, g⟩ :: l) L (Sat w0 T H G Φ) := fun a w hh hS => by
 subst hG'
 have hR := hS.BO hG hf hin
 obtain ⟨b, o, hA⟩ := nR hR hu
 have hlt : i.toNat < xs.length := by
  have := (List.getElem?_eq_some_iff.1 (bg hu).2).1
  exact this
 unfold wpList
 rw [cM hh hg, if_pos rfl]
 refine .inl ?_
 unfold Oper.wp
 rw [hh.exec (by simp [Op.operands, cA, hk, hk'])]
 obtain ⟨w', hr, hS'⟩ := (hS.jU (iG hG)).EP (P := P) hf h1 hlt r hA
 rw [lH hA, Nat.add_zero] at hx
 have hcs : v.cells.size = n := by rw [← Array.length_toList, hv, hf, hn]
 have : (execOp (cE L) ⟨none, .store t x y, ty, pos, af, g⟩).run P w = .ok .skip w' := by
  simp [execOp, hx, hy, Instr.storeAt, Instr.sureAddr, storeVar, hsz, hcs, hv, hr]
 rw [this]
 exact h a _ hh (hS'.derive [] (by simp) fun _ _ => jj.no _ _)
end
end Eng
namespace Eng
open Go
theorem run_makeSlice {P : Program} {ρ : Operand → Value} {w : World} {d : Option Tmp} {ty : TypeId} {pos : String} {af : Array Edge} {g : Option (Nat × Bool)} {t e : TypeId} {x : Operand} {α : Type} {f : α → List Value}
  {k : IntKind} {i : Int} {n by_ : Nat} {z : α} {zv : Value} (ht : P.underlying t = some (.slice e)) (hi : (P.info? e).map (fun q => (q.zero, q.size, q.bytes)) = some (some zv, (f z).length, by_)) (hzc : zv.cells.toList = f z) (hpos : 0 < (f z).length) (hf : ∀ x, (f x).length = (f z).length) (hx : ρ x = .int k i) (hm : jW by_ i = some n) :
  (execOp ρ ⟨d, .makeSlice t x x, ty, pos, af, g⟩).run P w = .ok (.value (.slice (some ⟨w.heap.size, 0, none⟩) n n)) { w with heap := w.heap.push (.cells (dU f (List.replicate n z)) e (0, 0)) } := by
 obtain ⟨inf, hi', hq⟩ := Option.map_eq_some_iff.1 hi
 clear hi
 have hi := hi'
 clear hi'
 obtain ⟨hz, hsz, rfl⟩ : inf.zero = some zv ∧ inf.size = (f z).length ∧ inf.bytes = by_ := by simpa using hq
 unfold jW at hm
 split at hm
 ·rename_i hb
  obtain ⟨h0, h1, h2⟩ := hb
  obtain rfl := oI hm
  have hw : IntKind.i64.wrap i = i := by
   have e1 : IntKind.i64.signed = true := rfl
   have e2 : IntKind.i64.bits = 64 := rfl
   unfold IntKind.wrap
   rw [e1, e2]
   simp only [Bool.true_and]
   have hm : i % (2 ^ 64 : Int) = i := Int.emod_eq_of_lt h0 (by omega)
   rw [hm, if_neg (by simp; omega)]
  have hty : (typeInfo e).run P w = .ok inf w := by simp [typeInfo, hi]
  have hng : ¬ (i < 0) := by omega
  have hbig : ¬ ((inf.bytes : Int) * i > 2 ^ 48) := by omega
  have hrow : (Array.range (i.toNat * inf.size)).map (fun j => zv.cells[j % zv.cells.size]!) = dU f (List.replicate i.toNat z) := by
   rw [hsz]; exact rl hzc hpos hf i.toNat
  have hask : ∀ m, (askRoom m).run P w = .ok () w := by intro m; unfold askRoom; split <;> rfl
  simp only [execOp, hx, Instr.makeSlice]
  rw [Sem.ao (a := Value.slice (some ⟨w.heap.size, 0, none⟩) i.toNat i.toNat) (w' := { w with heap := w.heap.push (.cells (dU f (List.replicate i.toNat z)) e (0, 0)) })]
  ·rfl
  ·rw [Sem.ao (fo ht)]
   simp only [asInt, asIntOf]
   simp only [Sem.run_bind, hty, Result.andThen, Sem.run_pure, hw]
   rw [if_neg (by simp; omega)]
   rw [Sem.ao (hask _), Sem.ao (bH hi)]
   by_cases hz0 : i.toNat * inf.size = 0
   ·have hi0 : i.toNat = 0 := by
     rcases Nat.mul_eq_zero.1 hz0 with h | h
     ·exact h
     ·omega
    rw [if_pos hz0]
    rw [hi0]
    have hr0 : ∀ (g : Nat → Value), Array.map g (Array.range (0 * inf.size)) = #[] := fun g => by
     apply Array.eq_empty_of_size_eq_zero; simp
    have hrf : dU f (List.replicate 0 z) = #[] := rfl
    simp only [Sem.run_bind, Sem.run_pure, Result.andThen, newRow, newObj, Sem.run, hr0, hrf]
   ·rw [if_neg hz0]
    have hzr : (zeroValue e).run P w = .ok zv w := by simp [zeroValue, hty, hz]
    rw [Sem.ao hzr]
    simp only [Sem.run_bind, Sem.run_pure, Result.andThen, newRow, newObj, Sem.run, hrow]
 ·cases hm
theorem qu {α : Type} (f : α → List Value) : ∀ (xs : List α) (n : Nat), bR (pl f) (fun _ => ()) n xs = xs.flatMap f
 | [], _ => rfl
 | x :: r, n => by rw [bR, qu f r, List.flatMap_cons]; rfl
theorem tD {α : Type} {f : α → List Value} {m : Nat} {xs : List α} {w : World} {b c : Nat} {e : TypeId} (hb : w.heap[b]? = some (.cells (dU f xs) e (0, 0))) (hf : ∀ x, (f x).length = m) (hc : xs.length ≤ c) : eU m (pl f) aA (av.at b c (fun _ => ())) xs w :=
 cl hb (fun x _ => hf x) ⟨[], by rw [qu, List.append_nil]; rfl⟩ hc (jj.no _ _)
section
variable {P : Program} {N : Nat} {ops : Array Oper} {o : Oper} {L : Env} {w0 : World} {T : cD} {H : bw} {G Φ Φs Ψ : List Pr} {α σ : Type}
theorem yw {d : Option Tmp} {ty : TypeId} {pos : String} {af : Array Edge} {gd : Option (Nat × Bool)} {t e m : Nat} {x : Operand} {f : α → List Value} {k : IntKind} {i : Int} {n by_ : Nat} {z : α} {zv : Value} (hO : o = ⟨d, .makeSlice t x x, ty, pos, af, gd⟩) (ht : P.underlying t = some (.slice e))
  (hi : (P.info? e).map (fun q => (q.zero, q.size, q.bytes)) = some (some zv, m, by_)) (hm0 : (f z).length = m) (hzc : zv.cells.toList = f z) (hpos : 0 < m) (hf : ∀ x, (f x).length = m) (hx : cE L x = .int k i) (hm : jW by_ i = some n) :
  ∀ A w, Sat w0 T (H ++ A) G Φs w → ∃ (x : av Unit) (w' : World), (execOp (cE L) o).run P w = .ok (.value (ae x (List.replicate n z).length)) w' ∧ Sat w0 T (H ++ A) G ([Row m (pl f) aA x (List.replicate n z)] ++ Φs) w' := fun A w hS => by
 subst hm0
 subst hO
 refine ⟨av.at w.heap.size n (fun _ => ()), _, (run_makeSlice ht hi hzc hpos hf hx hm).trans (by rw [List.length_replicate]; rfl), ?_⟩
 have h1 : Sat w0 T ((H ++ A) ++ [(w.heap.size, .cells (dU f (List.replicate n z)) e (0, 0))]) G Φs { w with heap := w.heap.push (.cells (dU f (List.replicate n z)) e (0, 0)) } := hS.alloc _
 have h2 := h1.freeze (H ++ A).length (b := w.heap.size) (o := .cells (dU f (List.replicate n z)) e (0, 0)) (by simp) [] (by simp) (φ := Row (f z).length (pl f) aA (av.at w.heap.size n (fun _ => ())) (List.replicate n z)) fun w' hb _ => tD hb hf (by rw [List.length_replicate]; exact Nat.le_refl _)
 rw [List.eraseIdx_append_of_length_le (Nat.le_refl _)] at h2
 simpa using h2
end
end Eng
namespace Eng
open Go
section
variable {P : Program} {Q : Exit → Act → World → Prop} {l : List Oper} {p : Nat} {E : List Nat}
end
end Eng
namespace Eng
open Go
section
variable {P : Program} {N : Nat} {ops : Array Oper} {Q : Exit → Act → World → Prop} {l : List Oper} {L : Env} {w0 : World} {T : cD} {H : bw} {G F Γ : List Pr} {o : Oper}
theorem WL.Df {X : Type} {V : X → Value} {R : X → List Pr} {L' : X → Env} (hk : (o.op.operands.all (known L) && !cA o.op) = true) (hrun : ∀ (A : bw) (w : World), Sat w0 T ([] ++ A) G (F ++ Γ) w → ∃ x w', (execOp (cE L) o).run P w = .ok (.value (V x)) w' ∧ Sat w0 T ([] ++ A) G (R x ++ (F ++ Γ)) w')
  (hg : cu ops L o = some true) (hp : ∀ x, dV N o (V x) L = some (L' x)) (h : ∀ x, WL P N ops Q l (L' x) (Sat w0 T H G ((R x ++ F) ++ Γ))) : WL P N ops Q (o :: l) L (Sat w0 T H G (F ++ Γ)) :=
 WL.op (X := X) V (fun x => Sat w0 T H G ((R x ++ F) ++ Γ)) L' hg hk (fun w hS => by
  obtain ⟨x, w', h1, h2⟩ := hrun H w hS
  exact ⟨x, w', h1, by rw [List.append_assoc]; exact h2⟩) hp h
end
end Eng
namespace Eng
open Go
def HG (H : bw) : Pr := fun w => (keys H).Nodup ∧ ∀ p ∈ H, w.heap[p.1]? = some p.2
theorem HG.mem {H : bw} {F : List Nat} {w : World} (h : Loc F (HG H) w) : ∀ p ∈ H, p.1 ∈ F := fun p hp => by
 apply Classical.byContradiction
 intro hn
 obtain ⟨o', ho'⟩ : ∃ o', o' ≠ p.2 := by
  by_cases e : p.2 = .map #[] 0
  ·exact ⟨.map #[] 1, by rw [e]; simp⟩
  ·exact ⟨.map #[] 0, fun h => e h.symm⟩
 let w' : World := { w with heap := w.heap.setIfInBounds p.1 o' }
 have h1 : HG H w' := h.stays w' fun k hk => by
  have hne : p.1 ≠ k := fun e => hn (e ▸ hk)
  show (w.heap.setIfInBounds p.1 _)[k]? = w.heap[k]?
  rw [Array.getElem?_setIfInBounds_ne hne]
 have hlt : p.1 < w.heap.size := (Array.getElem?_eq_some_iff.1 (h.now.2 p hp)).1
 have h2 : w'.heap[p.1]? = some o' := by
  show (w.heap.setIfInBounds p.1 o')[p.1]? = _
  rw [Array.getElem?_setIfInBounds_self_of_lt hlt]
 have := (h1.2 p hp).symm.trans h2
 exact ho' (oI this).symm
theorem Sat.pack {w0 w : World} {T : cD} {H1 H2 : bw} {G Φ : List Pr} (h : Sat w0 T (H1 ++ H2) G Φ w) : Sat w0 T H2 (HG H1 :: G) Φ w := by
 obtain ⟨Fs, o⟩ := h.own
 have hp : (keys (H1 ++ H2) ++ Fs.flatten).Perm (keys H2 ++ (keys H1 :: Fs).flatten) := by
  rw [dg, List.flatten_cons, List.append_assoc]
  rw [← List.append_assoc, ← List.append_assoc]
  exact List.perm_append_comm.append_right _
 have hn := o.nd
 rw [dg, List.nodup_append, List.nodup_append] at hn
 refine ⟨h.os, h.tape, h.output, h.size, h.frame, keys H1 :: Fs, hp.nodup_iff.1 o.nd, fun k hk => o.dG k (hp.mem_iff.2 hk), fun p hpm => o.has p (List.mem_append_right _ hpm), ⟨⟨⟨hn.1.1, fun p hpm => o.has p (List.mem_append_left _ hpm)⟩, fun k hk => ?_, fun w' hw' => ⟨hn.1.1, fun p hpm => ?_⟩⟩, o.g⟩, fun φ hφ => ?_⟩
 ·exact (o.dG k (by rw [dg]; simp only [List.mem_append]; exact .inl (.inl hk))).2
 ·rw [hw' p.1 (by rw [keys, List.mem_map]; exact ⟨p, hpm, rfl⟩)]
  exact o.has p (List.mem_append_left _ hpm)
 ·obtain ⟨F, a1, a2, a3⟩ := o.ro φ hφ
  exact ⟨F, a1, fun k hk hk' => a2 k hk (hp.mem_iff.2 hk'), a3⟩
theorem Sat.unpack {w0 w : World} {T : cD} {H1 H2 : bw} {G Φ : List Pr} (h : Sat w0 T H2 (HG H1 :: G) Φ w) : Sat w0 T (H1 ++ H2) G Φ w := by
 obtain ⟨Fs, o⟩ := h.own
 cases Fs with
 | nil => exact o.g.elim
 | cons F Fs =>
  obtain ⟨hF, hG⟩ := o.g
  have hn := hF.now.1
  have hsub : ∀ k ∈ keys H1, k ∈ F := fun k hk => by
   rw [keys, List.mem_map] at hk
   obtain ⟨p, hp, rfl⟩ := hk
   exact HG.mem hF p hp
  have hnd := o.nd
  rw [List.flatten_cons] at hnd
  have hp : (keys H2 ++ (F ++ Fs.flatten)).Perm (F ++ (keys H2 ++ Fs.flatten)) := by
   rw [← List.append_assoc, ← List.append_assoc]
   exact List.perm_append_comm.append_right _
  have hnd2 := List.nodup_append.1 (hp.nodup_iff.1 hnd)
  have hmem : ∀ k, k ∈ keys (H1 ++ H2) ++ Fs.flatten → k ∈ keys H2 ++ (F :: Fs).flatten := fun k hk => by
   rw [List.flatten_cons, hp.mem_iff]
   rw [dg, List.append_assoc] at hk
   rcases List.mem_append.1 hk with hk | hk
   ·exact List.mem_append_left _ (hsub k hk)
   ·exact List.mem_append_right _ hk
  refine ⟨h.os, h.tape, h.output, h.size, h.frame, Fs, ?_, fun k hk => o.dG k (hmem k hk), fun p hpm => ?_, hG, fun φ hφ => ?_⟩
  ·rw [dg, List.append_assoc]
   exact List.nodup_append.2 ⟨hn, hnd2.2.1, fun a ha b hb e => hnd2.2.2 a (hsub a ha) b hb e⟩
  ·rcases List.mem_append.1 hpm with hpm | hpm
   ·exact hF.now.2 p hpm
   ·exact o.has p hpm
  ·obtain ⟨F', a1, a2, a3⟩ := o.ro φ hφ
   exact ⟨F', a1, fun k hk hk' => a2 k hk (hmem k hk'), a3⟩
section
variable {P : Program} {fn : Func} {R : Ending → World → Prop} {N : Nat} {k : List KI} {L : Env} {S : Pr} {ops : Array Oper}
end
section
variable {P : Program} {fn : Func} {R : Ending → World → Prop} {N : Nat} {k : List KI} {L : Env} {S : Pr} {w0 : World} {T : cD} {H : bw} {G Φ : List Pr}
end
section
variable {P : Program} {fn : Func} {R : Ending → World → Prop} {N : Nat} {k : List KI} {L : Env} {w0 : World} {T : cD} {H Hi Hr : bw} {F Γ Φi : List Pr}
end
end Eng
namespace Eng
open Go Go.RowKit
def xv (T e B b : Nat) (s : ByteArray) : Pr := Lib.IsBuilder T e B b (Lib.byteCells s.data.toList)
theorem xv.loc {T e B b : Nat} {s : ByteArray} {w : World} (h : xv T e B b s w) : ∃ F, Loc F (xv T e B b s) w ∧ F.Nodup ∧ ∀ k ∈ F, B ≤ k := by
 have key : ∀ p, Lib.BuilderAt T e B b p (Lib.byteCells s.data.toList) w → ∃ F : List Nat, F.Nodup ∧ (∀ k ∈ F, B ≤ k) ∧ (∀ k ∈ F, k < w.heap.size) ∧ ∀ w' : World, (∀ k ∈ F, w'.heap[k]? = w.heap[k]?) → Lib.BuilderAt T e B b p (Lib.byteCells s.data.toList) w' := by
  rintro p ⟨hB, v, hb, ⟨hl, hv⟩, hne⟩
  have hbl := (Array.getElem?_eq_some_iff.1 hb).1
  rcases hv with ⟨rfl, hn⟩ | ⟨g, cap, cur, rfl, hg, hc, h1, h2, h3, h4⟩
  ·refine ⟨[b], by simp, by simpa using hB, by simpa using hbl, fun w' hw' => ⟨hB, _, by rw [hw' b (by simp)]; exact hb, ⟨hl, .inl ⟨rfl, hn⟩⟩, hne⟩⟩
  ·have hgl := (Array.getElem?_eq_some_iff.1 hc).1
   have hgb : b ≠ g := fun e => hne (by rw [e]; rfl)
   refine ⟨[b, g], by simpa using hgb, by simp; exact ⟨hB, hg⟩, by simp; exact ⟨hbl, hgl⟩, fun w' hw' => ⟨hB, _, by rw [hw' b (by simp)]; exact hb, ⟨hl, .inr ⟨g, cap, cur, rfl, hg, by rw [hw' g (by simp)]; exact hc, h1, h2, h3, h4⟩⟩, hne⟩⟩
 rcases h with h | h
 ·obtain ⟨F, a1, a2, a3, a4⟩ := key _ h
  exact ⟨F, ⟨.inl h, a3, fun w' hw' => .inl (a4 w' hw')⟩, a1, a2⟩
 ·obtain ⟨F, a1, a2, a3, a4⟩ := key _ h
  exact ⟨F, ⟨.inr h, a3, fun w' hw' => .inr (a4 w' hw')⟩, a1, a2⟩
section
variable {w w' : World} {Z : cD} {Φ : List Pr} {T e b : Nat} {s : ByteArray}
theorem Sat.FI (hS : Sat w Z [] [] Φ w) : ∃ Z0 : cD, Z0.t = [] ∧ Sat w Z0 [] [] Φ w ∧ ∀ w', Sat w Z0 [] [] Φ w' → Sat w Z [] [] Φ w' := by
 refine ⟨⟨[], fun k => Z.a k ∨ k ∈ Z.t⟩, rfl, ?_, fun w' h => ?_⟩
 ·obtain ⟨Fs, o⟩ := hS.own
  refine ⟨rfl, rfl, rfl, Nat.le_refl _, fun _ _ _ => rfl, [], ⟨by simp [keys], by simp [keys], by simp, trivial, fun φ hφ => ?_⟩⟩
  obtain ⟨F, a1, a2, a3⟩ := o.ro φ hφ
  exact ⟨F, a1, by simp [keys], fun k hk => (a3 k hk).elim (fun h => .inl (.inl h)) fun h => h.elim (fun h => .inl (.inr h)) fun h => .inr (.inr h)⟩
 ·obtain ⟨Fs, o⟩ := h.own
  refine ⟨h.os, h.tape, h.output, h.size, fun k hk _ => h.frame k hk (by simp), [], ⟨by simp [keys], by simp [keys], by simp, trivial, fun φ hφ => ?_⟩⟩
  obtain ⟨F, a1, a2, a3⟩ := o.ro φ hφ
  exact ⟨F, a1, by simp [keys], fun k hk => (a3 k hk).elim (fun h => h.elim .inl fun h => .inr (.inl h)) fun h => h.elim (fun h => nomatch h) fun h => .inr (.inr h)⟩
theorem Sat.zV (hS : Sat w Z [] [] Φ w) (hb : Below w.heap.size w w') : Sat w Z [] [] Φ w' := hS.xr hb.os hb.tape hb.output hb.size hb.block
theorem Sat.Be (hS : Sat w Z [] [] Φ w) (hb : Below w.heap.size w w') (h : xv T e w.heap.size b s w') : Sat w Z [] [xv T e w.heap.size b s] Φ w' := by
 obtain ⟨F, hl, hn, hF⟩ := h.loc
 obtain ⟨Fs, o⟩ := hS.own
 refine ⟨hb.os, hb.tape, hb.output, hb.size, fun k hk _ => hb.block k hk, [F], ⟨by simpa [keys] using hn, fun k hk => ?_, by simp, ⟨hl, trivial⟩, fun φ hφ => ?_⟩⟩
 ·have hk' : k ∈ F := by simpa [keys] using hk
  exact ⟨.inr (hF k hk'), hl.lt k hk'⟩
 ·obtain ⟨F', a1, a2, a3⟩ := o.ro φ hφ
  exact ⟨F', a1.mono hb.size fun k hk => hb.block k (a1.lt k hk), fun k hk hk' => by
   have h1 := a1.lt k hk
   have h2 := hF k (by simpa [keys] using hk')
   omega, a3⟩
theorem Sat.vj {H : bw} {G : List Pr} (hz : Z.t = []) (h : Sat w Z H G Φ w') : Below w.heap.size w w' := ⟨h.os, h.tape, h.output, h.size, fun k hk => h.frame k hk (by simp [hz])⟩
theorem Sat.Ek (h : Sat w Z [] [xv T e w.heap.size b s] Φ w') : xv T e w.heap.size b s w' := by
 obtain ⟨Fs, o⟩ := h.own
 cases Fs with
 | nil => exact o.g.elim
 | cons F Fs => exact o.g.1.now
theorem WP.CJ {P : Program} {fn : Func} {R : Ending → World → Prop} {N : Nat} {k : List KI} {L : Env} (hz : Z.t = []) (hS : Sat w Z [] [] Φ w) (h : WP P fn R N k L (Sat w Z [] [xv T e w.heap.size b ⟨#[]⟩] Φ)) :
  WP P fn R N k L (Sat w Z [(b, .cells #[.pointer none, .slice none 0 0] T (0, 0))] [] Φ) := fun a w' hh hw => by
 refine h a w' hh (hS.Be (hw.vj hz) (.inl ⟨?_, _, hw.get (j := 0) rfl, ⟨rfl, .inl ⟨rfl, rfl⟩⟩, by simp [Value.ownBlock]⟩))
 obtain ⟨Fs, o⟩ := hw.own
 rcases (o.dG b (by simp [keys])).1 with h1 | h1
 ·simp [hz] at h1
 ·exact h1
def CI (x y : ByteArray) : Option ByteArray := if x.size + y.size ≤ 140737488355328 then some (x ++ y) else none
section
variable {P : Program} {N : Nat} {ops : Array Oper} {Q : Exit → Act → World → Prop} {o : Oper} {l : List Oper} {L L' : Env} {ρ : Go.Shelf.Ren}
theorem WL.ze (LY : Go.Proofs.Lays.n166 P ρ) (X : Go.Proofs.Builder.Extra P ρ) (hz : Z.t = []) (hS : Sat w Z [] [] Φ w) (hs bs : List Nat) (t s t' : ByteArray)
  (he : ja P o L [] hs = some (ρ.f 166, #[.pointer (some ⟨b, 0, none⟩), .string s], bs, bs)) (ht : CI t s = some t') (hg : cu ops L o = some true) (hp : dV N o (.tuple #[.int .i64 s.size, .nilIface]) L = some L')
  (h : WL P N ops Q l L' (Sat w Z [] [xv (ρ.t 72) (ρ.t 5) w.heap.size b t'] Φ)) : WL P N ops Q (o :: l) L (Sat w Z [] [xv (ρ.t 72) (ρ.t 5) w.heap.size b t] Φ) := by
 unfold CI at ht
 split at ht
 ·rename_i hlen
  obtain rfl := oI ht
  refine WL.call (X := Unit) hs bs (fun _ => .tuple #[.int .i64 s.size, .nilIface]) (fun _ => Sat w Z [] [xv (ρ.t 72) (ρ.t 5) w.heap.size b (t ++ s)] Φ) (fun _ => L') he hg (fun w1 hw => ?_) (fun _ => hp) (fun _ => h)
  have hB := hw.vj hz
  refine (Go.Proofs.Any.Builder_WriteString LY X w.heap.size b _ s w1 hw.Ek (by rw [Lib.byteCells_length]; exact hlen) hB.size).mono fun e w2 ⟨he, h1, h2⟩ => ⟨(), he, hS.Be (hB.trans h2) (.inr ?_)⟩
  rw [Lib.strCells_eq, ← Lib.byteCells_append] at h1
  simpa using h1
 ·cases ht
theorem WL.xp (LY : Go.Proofs.Lays.n169 P ρ) (X : Go.Proofs.Builder.Extra P ρ) (hz : Z.t = []) (hS : Sat w Z [] [] Φ w) (hs bs : List Nat) (t : ByteArray)
  (he : ja P o L [] hs = some (ρ.f 169, #[.pointer (some ⟨b, 0, none⟩)], bs, bs)) (hg : cu ops L o = some true) (hp : dV N o (.string t) L = some L')
  (h : WL P N ops Q l L' (Sat w Z [] [] Φ)) : WL P N ops Q (o :: l) L (Sat w Z [] [xv (ρ.t 72) (ρ.t 5) w.heap.size b t] Φ) := by
 refine WL.call (X := Unit) hs bs (fun _ => .string t) (fun _ => Sat w Z [] [] Φ) (fun _ => L') he hg (fun w1 hw => ?_) (fun _ => hp) (fun _ => h)
 have hB := hw.vj hz
 exact (Go.Proofs.Any.Builder_String_any LY X w.heap.size b t.data.toList w1 hw.Ek hB.size).mono fun e w2 ⟨he, h2⟩ => ⟨(), by rw [he], hS.zV (hB.trans h2)⟩
end
end
end Eng
namespace Eng
open Go
def jY (D : Env) : List Nat := D.map (·.1)
def zu (l : List Oper) (D L : Env) : Bool := l.all fun o => match o.dst with
 | none => true
 | some d => (look D d).isSome || (look L d).isNone
def oo (H : bw) (hs : List Nat) : List Nat := (hs.map fun j => ((H[j]?).map (·.1)).getD 0).reverse
def CH (H : bw) (hs : List Nat) : List Nat := hs.map fun j => ((H[j]?).map (·.1)).getD 0
def C8 (cs : Array Value) (i : Nat) : List Value → Array Value
 | [] => cs
 | v :: r => C8 (cs.setIfInBounds i v) (i + 1) r
def BN (i : Nat) (vs : List Value) : Obj → Obj
 | .cells cs e fr => .cells (C8 cs i vs) e fr
 | o => o
def Dj : bw → Nat → (Obj → Obj) → bw
 | [], _, _ => []
 | (b, o) :: H, 0, f => (b, f o) :: H
 | p :: H, j + 1, f => p :: Dj H j f
def CY : List (Nat × Nat × List Value) → bw → bw
 | [], H => H
 | (j, i, vs) :: r, H => CY r (Dj H j (BN i vs))
theorem ik (D L : Env) (t : Nat) : look (D ++ L) t = (look D t).or (look L t) := by
 induction D with
 | nil => rfl
 | cons p D ih =>
  obtain ⟨k, v⟩ := p
  simp only [List.cons_append, look]
  split
  ·rfl
  ·exact ih
theorem jS {N : Nat} {o : Oper} {v : Value} {L L' : Env} {t : Nat} (h : dV N o v L = some L') (ht : o.dst ≠ some t) : look L' t = look L t := by
 unfold Eng.dV at h
 split at h
 ·rw [← oI h]
 ·rename_i d hd
  split at h
  ·rw [← oI h]
   have : Nat.beq d t = false := by
    rw [Bool.eq_false_iff]; intro hh; exact ht (hd.trans (congrArg some (nE hh)))
   simp [look, this]
  ·cases h
theorem mB {P : Program} {N : Nat} {ops : Array Oper} {t : Nat} : ∀ (l : List Oper) (L : Env) (s : St) (L' : Env) (s' : St), kP P N ops l L s = some (L', s') → (∀ o ∈ l, o.dst ≠ some t) → look L' t = look L t
 | [], L, s, L', s', h, _ => by
  simp only [kP, Option.some.injEq, Prod.mk.injEq] at h
  rw [h.1]
 | o :: l, L, s, L', s', h, ht => by
  simp only [kP] at h
  have h0 := ht o (List.mem_cons_self ..)
  have h1 := fun o' ho' => ht o' (List.mem_cons_of_mem _ ho')
  split at h
  ·cases h
  ·split at h
   ·rename_i L1 hL1
    rw [mB l _ _ _ _ h h1, jS hL1 h0]
   ·cases h
  ·split at h
   ·rename_i L1 s1 hE
    rw [mB l _ _ _ _ h h1]
    unfold Aj at hE
    split at hE
    ·cases hE
    ·split at hE
     ·simp only [Option.map_eq_some_iff, Prod.mk.injEq] at hE
      obtain ⟨L2, hL2, rfl, _⟩ := hE
      exact jS hL2 h0
     ·simp only [Option.map_eq_some_iff, Prod.mk.injEq] at hE
      obtain ⟨L2, hL2, rfl, _⟩ := hE
      exact jS hL2 h0
     ·cases hE
   ·cases h
theorem jz {P : Program} {N : Nat} {ops : Array Oper} {H : bw} {t : Nat} : ∀ (l : List Oper) (L : Env) (hs : List Nat) (L' : Env) (es : List (Nat × Nat)), gm P N ops H l L hs = some (L', es) → (∀ o ∈ l, o.dst ≠ some t) → look L' t = look L t
 | [], L, hs, L', es, h, _ => by
  simp only [gm, Option.some.injEq, Prod.mk.injEq] at h
  rw [h.1]
 | o :: l, L, hs, L', es, h, ht => by
  simp only [gm] at h
  have h0 := ht o (List.mem_cons_self ..)
  have h1 := fun o' ho' => ht o' (List.mem_cons_of_mem _ ho')
  split at h
  ·cases h
  ·split at h
   ·rename_i L1 hL1
    rw [jz l _ _ _ _ h h1, jS hL1 h0]
   ·cases h
  ·split at h
   ·cases h
   ·split at h
    ·split at h
     ·rename_i L1 hL1
      simp only [Option.map_eq_some_iff, Prod.mk.injEq, Prod.exists] at h
      obtain ⟨L2, es2, h2, rfl, rfl⟩ := h
      rw [jz l _ _ _ _ h2 h1, jS hL1 h0]
     ·cases h
    ·cases h
theorem Has.delta {N : Nat} {a : Act} {L L1 D : Env} {l : List Oper} (h : Has N a L1) (hD : Eng.fL (jY D) L1 = D) (hK : zu l D L = true) (hkeep : ∀ t, (∀ o ∈ l, o.dst ≠ some t) → ∀ v, look L t = some v → look L1 t = some v) : Has N a (D ++ L) := by
 refine ⟨h.size, h.defers, fun t v ht => h.has t v ?_⟩
 rw [ik] at ht
 cases hd : look D t with
 | some u =>
  rw [hd] at ht
  obtain rfl := oI ht
  rw [← hD] at hd
  exact ku hd
 | none =>
  rw [hd] at ht
  have hL : look L t = some v := ht
  refine hkeep t (fun o ho e => ?_) v hL
  have := List.all_eq_true.1 hK o ho
  rw [e] at this
  simp [hd, hL] at this
theorem iQ {P : Program} {N : Nat} {ops : Array Oper} {Q : Exit → Act → World → Prop} {w0 : World} {T : cD} {G Φ : List Pr} {l r : List Oper} {L L0 D : Env} {H H' : bw} {hs bs : List Nat} {a : Act} {w : World}
  (h : lk P N ops l L0 H w.heap.size hs (jY D) = some (D, H', bs, bs)) (hK : zu l D L = true) (hsub : ∀ t v, look L t = some v → look L0 t = some v) (hh : Has N a L0) (hS : Sat w0 T H G Φ w)
  (hk : ∀ a' w', Has N a' (D ++ L) → Sat w0 T H' G Φ w' → wpList P ops Q r a' w') : wpList P ops Q (l ++ r) a w := by
 unfold lk at h
 split at h
 ·rename_i L1 s1 h1
  simp only [Option.some.injEq, Prod.mk.injEq] at h
  obtain ⟨hD, rfl, e1, e2⟩ := h
  exact nc l L0 _ L1 s1 a w h1 (im (e1.trans e2.symm)) rfl hh hS fun a' w' ha hw => hk a' w' (ha.delta hD hK fun t ht v hv => by rw [mB _ _ _ _ _ h1 ht]; exact hsub t v hv) hw
 ·cases h
theorem mR {P : Program} {N : Nat} {ops : Array Oper} {w0 : World} {T : cD} {H : bw} {G Φ : List Pr} {Q : Act → Prop} {l r : List Oper} {L L0 D : Env} {hs bs : List Nat} {a : Act} (h : lj P N ops H l L0 hs (jY D) = some (D, bs, bs)) (hK : zu l D L = true) (hsub : ∀ t v, look L t = some v → look L0 t = some v) (hh : Has N a L0)
  (hk : ∀ a', Has N a' (D ++ L) → wpQuiet P ops (Sat w0 T H G Φ) Q r a') : wpQuiet P ops (Sat w0 T H G Φ) Q (l ++ r) a := by
 unfold lj at h
 split at h
 ·rename_i L1 es h1
  simp only [Option.some.injEq, Prod.mk.injEq] at h
  obtain ⟨hD, e1, e2⟩ := h
  exact lp l L0 hs L1 es a h1 (im (e1.trans e2.symm)) hh fun a' ha => hk a' (ha.delta hD hK fun t ht v hv => by rw [jz _ _ _ _ _ h1 ht]; exact hsub t v hv)
 ·cases h
theorem Has.over {N : Nat} {a : Act} {L : Env} {t : Nat} {v : Value} (h : Has N a L) (hv : look L t = some v) : Has N a ((t, v) :: L) := ⟨h.size, h.defers, fun t' u hu => by
 simp only [look] at hu
 by_cases e : t = t'
 ·subst e
  have : Nat.beq t t = true := Nat.beq_refl t
  simp only [this] at hu
  exact h.has _ _ (hv.trans hu)
 ·have : Nat.beq t t' = false := by
   rw [Bool.eq_false_iff]; intro hh; exact e (nE hh)
  simp only [this] at hu
  exact h.has _ _ hu⟩
theorem rF {L : Env} {t : Nat} {v : Value} (hv : look L t = some v) (t' : Nat) (u : Value) (h : look L t' = some u) : look ((t, v) :: L) t' = some u := by
 simp only [look]
 by_cases e : t = t'
 ·subst e
  have : Nat.beq t t = true := Nat.beq_refl t
  simp only [this]
  exact hv.symm.trans h
 ·have : Nat.beq t t' = false := by
   rw [Bool.eq_false_iff]; intro hh; exact e (nE hh)
  simp only [this]
  exact h
section
variable {P : Program} {N : Nat} {ops : Array Oper} {Q : Exit → Act → World → Prop} {w0 : World} {T : cD} {G Φ : List Pr} {l : List Oper} {L : Env} {H : bw} {S : Pr}
theorem WL.rn (k : Nat) (hs : List Nat) (D : Env) (hk : WL P N ops Q (l.drop k) (D ++ L) (Sat w0 T H G Φ)) (h : ∀ n, lk P N ops (l.take k) L H n hs (jY D) = some (D, H, oo H hs, oo H hs) := by intro n; kernel_rfl) (hK : zu (l.take k) D L = true := by kernel_rfl) :
  WL P N ops Q l L (Sat w0 T H G Φ) := fun a w hh hS => by
 have := iQ (r := l.drop k) (Q := Q) (h w.heap.size) hK (fun _ _ h => h) hh hS fun a' w' ha hw => hk a' w' ha hw
 rwa [List.take_append_drop] at this
theorem WL.rh (k : Nat) (hs : List Nat) (D : Nat → Env) (U : Nat → List (Nat × Nat × List Value)) (A : Nat → bw) (hk : ∀ n, WL P N ops Q (l.drop k) (D n ++ L) (Sat w0 T (CY (U n) (H ++ A n)) G Φ)) (h : ∀ n, lk P N ops (l.take k) L H n hs (jY (D n)) = some (D n, CY (U n) (H ++ A n), oo (H ++ A n) hs, oo (H ++ A n) hs) := by intro n; kernel_rfl) (hK : ∀ n, zu (l.take k) (D n) L = true := by intro n; kernel_rfl) :
  WL P N ops Q l L (Sat w0 T H G Φ) := fun a w hh hS => by
 have := iQ (r := l.drop k) (Q := Q) (h w.heap.size) (hK _) (fun _ _ h => h) hh hS fun a' w' ha hw => hk _ a' w' ha hw
 rwa [List.take_append_drop] at this
theorem WL.bo (t : Nat) (c : Bool) (k : Nat) (hs hs' : List Nat) (D : Bool → Env) (hk : WL P N ops Q (l.drop k) (D c ++ L) (Sat w0 T H G Φ)) (hc : look L t = some (.bool c) := by kernel_rfl)
  (ht : ∀ n, lk P N ops (l.take k) ((t, .bool true) :: L) H n hs (jY (D true)) = some (D true, H, oo H hs, oo H hs) := by intro n; kernel_rfl) (hf : ∀ n, lk P N ops (l.take k) ((t, .bool false) :: L) H n hs' (jY (D false)) = some (D false, H, oo H hs', oo H hs') := by intro n; kernel_rfl)
  (hK : ∀ b, zu (l.take k) (D b) L = true := by intro b; kernel_rfl) : WL P N ops Q l L (Sat w0 T H G Φ) := fun a w hh hS => by
 have := iQ (l := l.take k) (r := l.drop k) (Q := Q) (L := L) (L0 := (t, .bool c) :: L) (D := D c) (H := H) (H' := H) (hs := if c then hs else hs') (bs := oo H (if c then hs else hs')) (by cases c; exact hf _; exact ht _) (hK c) (rF hc) (hh.over hc) hS fun a' w' ha hw => hk a' w' ha hw
 rwa [List.take_append_drop] at this
theorem WL.sp (t : Nat) (c : Bool) (ht : c = true → WL P N ops Q l ((t, .bool true) :: L) S) (hf : c = false → WL P N ops Q l ((t, .bool false) :: L) S) (hc : look L t = some (.bool c) := by kernel_rfl) : WL P N ops Q l L S := fun a w hh hS => by
 cases c
 ·exact hf rfl a w (hh.over hc) hS
 ·exact ht rfl a w (hh.over hc) hS
end
section
variable {P : Program} {N : Nat} {ops : Array Oper} {Q : Act → Prop} {w0 : World} {T : cD} {G Φ : List Pr} {l : List Oper} {L : Env} {H : bw}
theorem QL.rn (k : Nat) (hs : List Nat) (D : Env) (hk : QL P N ops (Sat w0 T H G Φ) Q (l.drop k) (D ++ L)) (h : lj P N ops H (l.take k) L hs (jY D) = some (D, CH H hs, CH H hs) := by kernel_rfl) (hK : zu (l.take k) D L = true := by kernel_rfl) : QL P N ops (Sat w0 T H G Φ) Q l L := fun a hh => by
 have := mR (r := l.drop k) (Q := Q) (w0 := w0) (T := T) (G := G) (Φ := Φ) h hK (fun _ _ h => h) hh fun a' ha => hk a' ha
 rwa [List.take_append_drop] at this
theorem QL.bo (t : Nat) (c : Bool) (k : Nat) (hs hs' : List Nat) (D : Bool → Env) (hk : QL P N ops (Sat w0 T H G Φ) Q (l.drop k) (D c ++ L)) (hc : look L t = some (.bool c) := by kernel_rfl)
  (ht : lj P N ops H (l.take k) ((t, .bool true) :: L) hs (jY (D true)) = some (D true, CH H hs, CH H hs) := by kernel_rfl) (hf : lj P N ops H (l.take k) ((t, .bool false) :: L) hs' (jY (D false)) = some (D false, CH H hs', CH H hs') := by kernel_rfl)
  (hK : ∀ b, zu (l.take k) (D b) L = true := by intro b; kernel_rfl) : QL P N ops (Sat w0 T H G Φ) Q l L := fun a hh => by
 have := mR (l := l.take k) (r := l.drop k) (Q := Q) (w0 := w0) (T := T) (G := G) (Φ := Φ) (L := L) (L0 := (t, .bool c) :: L) (D := D c) (H := H) (hs := if c then hs else hs') (bs := CH H (if c then hs else hs')) (by cases c; exact hf; exact ht) (hK c) (rF hc) (hh.over hc) fun a' ha => hk a' ha
 rwa [List.take_append_drop] at this
theorem QL.sp (t : Nat) (c : Bool) (ht : c = true → QL P N ops (Sat w0 T H G Φ) Q l ((t, .bool true) :: L)) (hf : c = false → QL P N ops (Sat w0 T H G Φ) Q l ((t, .bool false) :: L)) (hc : look L t = some (.bool c) := by kernel_rfl) : QL P N ops (Sat w0 T H G Φ) Q l L := fun a hh => by
 cases c
 ·exact hf rfl a (hh.over hc)
 ·exact ht rfl a (hh.over hc)
end
section
variable {P : Program} {fn : Func} {R : Ending → World → Prop} {N : Nat} {k : List KI} {L : Env} {w0 : World} {T : cD} {H : bw} {G Φ : List Pr} {id : Nat} {l : List Oper}
theorem WP.rn (hs : List Nat) (D : Env) (hk : WP P fn R N k (D ++ L) (Sat w0 T H G Φ)) (h : ∀ n, lk P N l.toArray l L H n hs (jY D) = some (D, H, oo H hs, oo H hs) := by intro n; kernel_rfl) (hK : zu l D L = true := by kernel_rfl) (hd : gU (dr k) l = true := by rfl) :
  WP P fn R N (.code (.region id l.toArray false) :: k) L (Sat w0 T H G Φ) := WP.region (fun a w hh hS => by
 have := iQ (r := []) (Q := pb P fn R k) (h w.heap.size) hK (fun _ _ h => h) hh hS fun a' w' ha hw => hk a' w' ha hw
 rwa [List.append_nil] at this) hd
theorem WP.rh (hs : List Nat) (D : Nat → Env) (U : Nat → List (Nat × Nat × List Value)) (A : Nat → bw) (hk : ∀ n, WP P fn R N k (D n ++ L) (Sat w0 T (CY (U n) (H ++ A n)) G Φ)) (h : ∀ n, lk P N l.toArray l L H n hs (jY (D n)) = some (D n, CY (U n) (H ++ A n), oo (H ++ A n) hs, oo (H ++ A n) hs) := by intro n; kernel_rfl) (hK : ∀ n, zu l (D n) L = true := by intro n; kernel_rfl) (hd : gU (dr k) l = true := by rfl) :
  WP P fn R N (.code (.region id l.toArray false) :: k) L (Sat w0 T H G Φ) := WP.region (fun a w hh hS => by
 have := iQ (r := []) (Q := pb P fn R k) (h w.heap.size) (hK _) (fun _ _ h => h) hh hS fun a' w' ha hw => hk _ a' w' ha hw
 rwa [List.append_nil] at this) hd
theorem WP.kp (m : List Bool) (h : WP P fn R N k L (Sat w0 T (dH m H) G Φ)) : WP P fn R N k L (Sat w0 T H G Φ) := WP.mA m rfl h
theorem WL.kp {ops : Array Oper} {Q : Exit → Act → World → Prop} (m : List Bool) (h : WL P N ops Q l L (Sat w0 T (dH m H) G Φ)) : WL P N ops Q l L (Sat w0 T H G Φ) := WL.mA m rfl h
end
end Eng
namespace Eng
open Go
structure aS (V : Type) where
 es : List (Int × V × Nat)
 c : Nat
section
variable {V : Type}
def aS.nil : aS V := ⟨[], 0⟩
def eo (kk : IntKind) (f : V → Value) (m : aS V) : Array MapEntry := (m.es.map fun e => { key := .int kk e.1, val := f e.2.1, born := e.2.2 }).toArray
def aS.get (m : aS V) (k : Int) : Option V := (m.es.find? fun e => k == e.1).map (·.2.1)
def lg (k : Int) (v : V) : List (Int × V × Nat) → Option (List (Int × V × Nat))
 | [] => none
 | e :: r => bif k == e.1 then some ((k, v, e.2.2) :: r) else (lg k v r).map (e :: ·)
def aS.set (m : aS V) (k : Int) (v : V) : aS V := match lg k v m.es with
 | some es => ⟨es, m.c⟩
 | none => ⟨m.es ++ [(k, v, m.c)], m.c + 1⟩
def Am (k : Int) : List (Int × V × Nat) → List (Int × V × Nat)
 | [] => []
 | e :: r => bif k == e.1 then r else e :: Am k r
def aS.len (m : aS V) : Int := (m.es.length : Int)
def sK (kk : IntKind) (f : V → Value) (e : Int × V × Nat) : MapEntry := { key := .int kk e.1, val := f e.2.1, born := e.2.2 }
theorem find_spec (kk : IntKind) (f : V → Value) (k : Int) : ∀ (es : List (Int × V × Nat)) (i : Nat),
  (Instr.findNow (.int kk) (.int kk k) (es.map (sK kk f)) i = some none ∧ (es.find? fun e => k == e.1) = none ∧ (∀ v, lg k v es = none) ∧ Am k es = es) ∨
  ∃ j e, Instr.findNow (.int kk) (.int kk k) (es.map (sK kk f)) i = some (some (i + j, f e.2.1)) ∧ (es.find? fun e => k == e.1) = some e ∧ es[j]? = some e ∧ e.1 = k ∧ (∀ v, lg k v es = some (es.set j (k, v, e.2.2))) ∧ Am k es = es.eraseIdx j
 | [], i => .inl ⟨rfl, rfl, fun _ => rfl, rfl⟩
 | e :: es, i => by
  simp only [List.map_cons, Instr.findNow, sK, Instr.sameNow, if_pos, lg, Am]
  rw [List.find?_cons]
  cases h : (k == e.1)
  ·rcases find_spec kk f k es (i + 1) with ⟨h1, h2, h3, h4⟩ | ⟨j, u, h1, h2, h3, h4, h5, h6⟩
   ·exact .inl ⟨h1, h2, fun v => by rw [h3]; rfl, by rw [cdF, h4]⟩
   ·refine .inr ⟨j + 1, u, ?_, h2, by simpa using h3, h4, fun v => by rw [h5]; rfl, by rw [cdF, h6]; rfl⟩
    show Instr.findNow (.int kk) (.int kk k) (es.map (sK kk f)) (i + 1) = _
    rw [h1]
    congr 3; omega
  ·have : k = e.1 := by simpa using h
   exact .inr ⟨0, e, rfl, rfl, rfl, this.symm, fun v => rfl, rfl⟩
theorem lL (kk : IntKind) (f : V → Value) (m : aS V) : (eo kk f m).toList = m.es.map (sK kk f) := by simp [eo, sK]
section
variable {P : Program} {w : World} {t kt et : TypeId} {kk : IntKind} {f : V → Value} {m : aS V} {b : Nat} {k : Int} {z v : V}
theorem pO (ok : Bool) (ht : P.underlying t = some (.map kt et)) (hk : P.underlying kt = some (.int kk)) (hz : ∀ w, (zeroValue et).run P w = .ok (f z) w) (hb : w.heap[b]? = some (.map (eo kk f m) m.c)) :
  (Instr.lookup t (.map (some b)) (.int kk k) ok).run P w = .ok (cond ok (.tuple #[f ((m.get k).getD z), .bool (m.get k).isSome]) (f ((m.get k).getD z))) w := by
 have hK : MapKept.IsKey (.int kk) (.int kk k) := by simp [MapKept.IsKey]
 rcases find_spec kk f k m.es 0 with ⟨h1, h2, _⟩ | ⟨j, e, h1, h2, _⟩
 ·rw [← lL kk f m] at h1
  unfold aS.get
  cases ok <;> simp [Instr.lookup, run_underlying ht, MapKept.run_getObj_map hb, MapKept.run_checkKey hk hK, MapKept.run_findKey hk h1, hz, Result.andThen, h2]
 ·rw [← lL kk f m] at h1
  unfold aS.get
  cases ok <;> simp [Instr.lookup, run_underlying ht, MapKept.run_getObj_map hb, MapKept.run_checkKey hk hK, MapKept.run_findKey hk h1, hz, Result.andThen, h2]
theorem yD (kk : IntKind) (f : V → Value) (es : List (Int × V × Nat)) (c : Nat) (k : Int) (v : V) (j : Nat) (e : Int × V × Nat) (h3 : es[j]? = some e) : eo kk f ⟨es.set j (k, v, e.2.2), c⟩ = (eo kk f ⟨es, c⟩).modify j (fun q => { q with key := .int kk k, val := f v }) := by
 unfold eo
 apply Array.ext
 ·simp
 ·intro i h1 h2
  simp only [List.map_set, List.getElem_toArray, List.size_toArray, List.length_map, Array.getElem_modify, List.getElem_set, List.getElem_map]
  by_cases hij : j = i
  ·subst hij
   obtain ⟨hl, he⟩ := List.getElem?_eq_some_iff.1 h3
   simp [he]
  ·simp [hij]
theorem pM (ht : P.underlying t = some (.map kt et)) (hk : P.underlying kt = some (.int kk)) (hb : w.heap[b]? = some (.map (eo kk f m) m.c)) :
  (Instr.mapUpdate t (.map (some b)) (.int kk k) (f v)).run P w = .ok () { w with heap := w.heap.setIfInBounds b (.map (eo kk f (m.set k v)) (m.set k v).c) } := by
 have hK : MapKept.IsKey (.int kk) (.int kk k) := by simp [MapKept.IsKey]
 rcases find_spec kk f k m.es 0 with ⟨h1, h2, h3, _⟩ | ⟨j, e, h1, h2, h3, h4, h5, _⟩
 ·rw [← lL kk f m] at h1
  have e1 : m.set k v = ⟨m.es ++ [(k, v, m.c)], m.c + 1⟩ := by unfold aS.set; rw [h3]
  have e2 : eo kk f (m.set k v) = (eo kk f m).push { key := .int kk k, val := f v, born := m.c } := by rw [e1]; simp [eo]
  rw [e2, e1]
  simp [Instr.mapUpdate, run_underlying ht, MapKept.run_getObj_map hb, MapKept.run_checkKey hk hK, MapKept.run_findKey hk h1, MapKept.run_setObj_map _ hb, Result.andThen]
 ·rw [← lL kk f m] at h1
  have e1 : m.set k v = ⟨m.es.set j (k, v, e.2.2), m.c⟩ := by unfold aS.set; rw [h5]
  have e2 := yD kk f m.es m.c k v j e h3
  have hj : (eo kk f m)[0 + j]? = some (sK kk f e) := by
   rw [Nat.zero_add]
   unfold eo
   simp [h3, sK]
  rw [e1, e2]
  simp only [Nat.zero_add] at h1 hj
  simp [Instr.mapUpdate, run_underlying ht, MapKept.run_getObj_map hb, MapKept.run_checkKey hk hK, MapKept.run_findKey hk h1, hj, sK, h4, MapKept.run_keyThatStays hK, MapKept.run_setObj_map _ hb, Result.andThen]
theorem pN (ht : P.underlying t = some (.map kt et)) (hb : w.heap[b]? = some (.map (eo kk f m) m.c)) (ty : TypeId) : (Builtin.len_ #[t] ty #[.map (some b)]).run P w = .ok (.int .i64 m.len) w := by
 have : (eo kk f m).size = m.es.length := by simp [eo]
 simp [Builtin.len_, run_underlying ht, MapKept.run_getObj_map hb, Result.andThen, aS.len, this, goInt]
end
section
variable {P : Program} {N : Nat} {ops : Array Oper} {Q : Exit → Act → World → Prop} {ty : TypeId} {pos : String} {af : Array Edge} {g : Option (Nat × Bool)} {t kt et : TypeId} {x y : Operand} {l : List Oper} {L L' : Env} {w0 : World} {T : cD} {H H' : bw} {G Φ : List Pr} {kk : IntKind} {f : V → Value} {m : aS V} {b : Nat} {k : Int} {z v : V} {dst : Option Tmp} {ok : Bool}
theorem WL.yC (j : Nat) (z : V) (ht : P.underlying t = some (.map kt et)) (hk : P.underlying kt = some (.int kk)) (hz : ∀ w, (zeroValue et).run P w = .ok (f z) w) (hkn : (known L x && known L y) = true) (hx : cE L x = .map (some b)) (hy : cE L y = .int kk k) (hj : H[j]? = some (b, .map (eo kk f m) m.c))
  (hg : cu ops L ⟨dst, .lookup t x y ok, ty, pos, af, g⟩ = some true) (hp : dV N ⟨dst, .lookup t x y ok, ty, pos, af, g⟩ (cond ok (.tuple #[f ((m.get k).getD z), .bool (m.get k).isSome]) (f ((m.get k).getD z))) L = some L') (h : WL P N ops Q l L' (Sat w0 T H G Φ)) :
  WL P N ops Q (⟨dst, .lookup t x y ok, ty, pos, af, g⟩ :: l) L (Sat w0 T H G Φ) := fun a w hh hS => by
 rw [Bool.and_eq_true] at hkn
 unfold wpList
 rw [cM hh hg, if_pos rfl]
 refine .inl ?_
 unfold Oper.wp
 rw [hh.exec (by simp [Op.operands, cA, hkn])]
 have : (execOp (cE L) ⟨dst, .lookup t x y ok, ty, pos, af, g⟩).run P w = .ok (.value (cond ok (.tuple #[f ((m.get k).getD z), .bool (m.get k).isSome]) (f ((m.get k).getD z)))) w := by
  simp [execOp, hx, hy, pO (f := f) (z := z) ok ht hk hz (hS.get hj), Result.andThen]
 rw [this]
 exact h _ w (hh.dV hp) hS
theorem WL.qg (j : Nat) {u : Operand} (v : V) (ht : P.underlying t = some (.map kt et)) (hk : P.underlying kt = some (.int kk)) (hkn : (known L x && (known L y && known L u)) = true) (hx : cE L x = .map (some b)) (hy : cE L y = .int kk k) (hu : cE L u = f v) (hj : H[j]? = some (b, .map (eo kk f m) m.c))
  (hg : cu ops L ⟨none, .mapUpdate t x y u, ty, pos, af, g⟩ = some true) (h : WL P N ops Q l L (Sat w0 T (H.set j (b, .map (eo kk f (m.set k v)) (m.set k v).c)) G Φ)) :
  WL P N ops Q (⟨none, .mapUpdate t x y u, ty, pos, af, g⟩ :: l) L (Sat w0 T H G Φ) := fun a w hh hS => by
 simp only [Bool.and_eq_true] at hkn
 unfold wpList
 rw [cM hh hg, if_pos rfl]
 refine .inl ?_
 unfold Oper.wp
 rw [hh.exec (by simp [Op.operands, cA, hkn])]
 have hb := hS.get hj
 have : (execOp (cE L) ⟨none, .mapUpdate t x y u, ty, pos, af, g⟩).run P w = .ok .skip { w with heap := w.heap.setIfInBounds b (.map (eo kk f (m.set k v)) (m.set k v).c) } := by
  simp [execOp, hx, hy, hu, pM (f := f) (v := v) ht hk hb, Result.andThen]
 rw [this]
 have hlt := (Array.getElem?_eq_some_iff.1 hb).1
 exact h a _ hh (hS.iL hj rfl rfl rfl (by simp) (by simp [hlt]) fun q hq => by simp [Ne.symm hq])
theorem WL.uW {o : Oper} (j : Nat) (ho : o.op = .call { callee := .builtin .len, args := #[x], argTypes := #[t] }) (ht : P.underlying t = some (.map kt et)) (hkn : (o.op.operands.all (known L) && !cA o.op) = true) (hx : cE L x = .map (some b)) (hj : H[j]? = some (b, .map (eo kk f m) m.c))
  (hg : cu ops L o = some true) (hp : dV N o (.int .i64 m.len) L = some L') (h : WL P N ops Q l L' (Sat w0 T H G Φ)) : WL P N ops Q (o :: l) L (Sat w0 T H G Φ) := fun a w hh hS => by
 unfold wpList
 rw [cM hh hg, if_pos rfl]
 refine .inl ?_
 unfold Oper.wp
 rw [hh.exec hkn]
 have : (execOp (cE L) o).run P w = .ok (.value (.int .i64 m.len)) w := by
  simp [execOp, ho, hx, resolve, invoke, go_sem, pN ht (hS.get hj)]
 rw [this]
 exact h _ w (hh.dV hp) hS
end
end
end Eng
namespace Eng
open Go
structure oA (X : Type) where
 p : Nat
 q : Nat
 h : (Nat → X) → bw
 g : (Nat → X) → List Pr
structure nC (X : Type) where
 A : List Nat
 us : List Nat
 out : List Nat
 D : List Nat
 K : List Nat
 v : (Nat → X) → Value
 f : (Nat → X) → List Pr
variable {X : Type}
def fM (x : Nat → X) (i : Nat) (u : X) : Nat → X := fun j => bif Nat.beq j i then u else x j
theorem ra (x : Nat → X) (i : Nat) (u : X) : fM x i u i = u := by simp [fM]
theorem kg (x : Nat → X) {i j : Nat} (u : X) (h : j ≠ i) : fM x i u j = x j := by
 have : Nat.beq j i = false := by rw [Bool.eq_false_iff]; intro hh; exact h (nE hh)
 simp [fM, this]
def pW (L : Nat → Bool) (r : oA X) : Bool := (Nat.beq r.p 0 || L (r.p - 1)) && !L r.q
def ll (rs : List (oA X)) (x : Nat → X) (is : List Nat) : bw := is.flatMap fun j => match rs[j]? with
 | some r => r.h x
 | none => []
def ln (rs : List (oA X)) (x : Nat → X) (is : List Nat) : List Pr := is.flatMap fun j => match rs[j]? with
 | some r => r.g x
 | none => []
def live (rs : List (oA X)) (L : Nat → Bool) : List Nat := (List.range rs.length).filter fun j => match rs[j]? with
 | some r => pW L r
 | none => false
def ff (os : List (nC X)) (x : Nat → X) (is : List Nat) : List Pr := is.flatMap fun j => match os[j]? with
 | some o => o.f x
 | none => []
def dk (l : List Oper) (os : List (nC X)) (x : Nat → X) (L0 : Env) : List Nat → Env
 | [] => L0
 | j :: is => match (l[j]?).bind (·.dst), os[j]? with
  | some d, some o => (d, o.v x) :: dk l os x L0 is
  | _, _ => dk l os x L0 is
def gD (n : Nat) (l : List Nat) : Bool := l.any (Nat.beq n)
theorem aC {n : Nat} {l : List Nat} : gD n l = true ↔ n ∈ l := by
 unfold gD
 rw [List.any_eq_true]
 constructor
 ·rintro ⟨m, hm, h⟩; rw [nE h]; exact hm
 ·intro h; exact ⟨n, h, Nat.beq_refl n⟩
def kH (o : Oper) : List Nat := (o.after.toList.filter fun e => Region.binds .any e).map (·.on)
def qd : List Nat → Bool
 | [] => true
 | n :: r => !gD n r && qd r
theorem mu : ∀ {l : List Nat}, qd l = true → l.Nodup
 | [], _ => List.nodup_nil
 | n :: r, h => by
  simp only [qd, Bool.and_eq_true, Bool.not_eq_true'] at h
  refine List.nodup_cons.2 ⟨fun hm => ?_, mu h.2⟩
  rw [aC.2 hm] at h
  cases h.1
def wY (l : List Oper) (rs : List (oA X)) (os : List (nC X)) (i : Nat) : Bool := match l[i]?, os[i]? with
 | some o, some t =>
  (kH o).all (fun e => Nat.blt e i)
  && t.A.all (fun k => gD k (kH o) || (kH o).any fun e => match os[e]? with | some t' => gD k t'.A | none => false)
  && t.D.all (fun k => gD k t.A)
  && qd t.us && qd t.out
  && t.us.all (fun j => match rs[j]? with
   | some r => (Nat.beq r.p 0 || gD (r.p - 1) t.A) && (Nat.beq r.q i || Nat.ble l.length r.q || (match os[r.q]? with | some t' => gD i t'.A | none => false))
   | none => false)
  && (List.range rs.length).all (fun j => match rs[j]? with
   | some r => (bif Nat.beq r.q i then gD j t.us else true) && (Bool.or (gD j t.out) (!((gD j t.us && !Nat.beq r.q i) || Nat.beq r.p (i + 1)))) && (Bool.or (!gD j t.out) ((gD j t.us && !Nat.beq r.q i) || Nat.beq r.p (i + 1)))
   | none => false)
  && t.out.all (fun j => Nat.blt j rs.length)
 | _, _ => false
def fw (l : List Oper) (j : Nat) : Option Nat := (l[j]?).bind (·.dst)
def C1 (l : List Oper) : Bool := (List.range l.length).all fun j => (List.range l.length).all fun k => Nat.beq j k || (match fw l j, fw l k with
 | some d, some d' => !Nat.beq d d'
 | _, _ => true)
def ER (l : List Oper) (L0 : Env) (os : List (nC X)) : Bool := (List.range l.length).all fun j => match fw l j with
 | some d => (look L0 d).isNone || (List.range l.length).all fun i => match os[i]?, os[j]? with
  | some t, some t' => Nat.beq i j || gD d t.K || gD i t'.A
  | _, _ => false
 | none => true
def kv (l : List Oper) (L0 : Env) (rs : List (oA X)) (os : List (nC X)) : Bool :=
 Nat.beq os.length l.length && (List.range l.length).all (wY l rs os) && C1 l && ER l L0 os
def kQ (K : List Nat) (L : Env) : Env := match K with
 | [] => L
 | _ => L.filter fun e => !gD e.1 K
def iV (l : List Oper) (L : Nat → Bool) (L0 : Env) : Env := L0.filter fun e => (List.range l.length).all fun j => !(L j && match fw l j with | some d => Nat.beq d e.1 | none => false)
def Fb (l : List Oper) (L0 Lf : Env) : Bool := l.all fun o => match o.dst with
 | some d => (look L0 d).isNone || (look Lf d).isSome
 | none => true
theorem ij (p : Nat → Bool) : ∀ (L : Env) (d : Nat), look (L.filter fun e => p e.1) d = if p d then look L d else none
 | [], d => by simp [look]
 | (d', v) :: r, d => by
  rw [List.filter_cons]
  by_cases e : d' = d
  ·subst e
   cases hp : p d' with
   | true => simp [look]
   | false => simp [look, ij p r, hp]
  ·have hb : Nat.beq d' d = false := by rw [Bool.eq_false_iff]; intro hh; exact e (nE hh)
   split
   ·simp only [look]; rw [ij p r]; simp [e, hb]
   ·rw [ij p r]; simp [look, e, hb]
theorem mw {K : List Nat} {L : Env} {d : Nat} {u : Value} (h : look (kQ K L) d = some u) : look L d = some u ∧ d ∉ K := by
 unfold kQ at h
 split at h
 ·exact ⟨h, by simp⟩
 ·rw [ij (fun d => !gD d K)] at h
  split at h
  ·rename_i hp
   refine ⟨h, fun hm => ?_⟩
   rw [aC.2 hm] at hp; cases hp
  ·cases h
section
variable {P : Program} {N : Nat} {w0 : World} {T : cD}
def wu (P : Program) (N : Nat) (w0 : World) (T : cD) (l : List Oper) (L0 : Env) (F0 Γ0 : List Pr) (rs : List (oA X)) (os : List (nC X)) (i : Nat) : Prop :=
 ∀ o t, l[i]? = some o → os[i]? = some t → ∀ (x : Nat → X) (Hr : bw) (Gr Γ : List Pr) (Lr : Env) (Q : Exit → Act → World → Prop), (∀ φ ∈ Γ0, φ ∈ Γ) →
  (∀ u, WL P N l.toArray Q [] (dk l os (fM x i u) (kQ t.K L0) (i :: t.A) ++ Lr) (Sat w0 T (ll rs (fM x i u) t.out ++ Hr) (ln rs (fM x i u) t.out ++ Gr) (t.f (fM x i u) ++ ((ff os x t.A ++ F0) ++ Γ)))) →
  WL P N l.toArray Q [o] (dk l os x (kQ t.K L0) t.A ++ Lr) (Sat w0 T (ll rs x t.us ++ Hr) (ln rs x t.us ++ Gr) ((ff os x t.A ++ F0) ++ Γ))
def vt (rs : List (oA X)) (os : List (nC X)) (i : Nat) : Prop := ∀ t : nC X, os[i]? = some t → ∀ x x' : Nat → X, (∀ k ∈ i :: t.D, x k = x' k) → t.v x = t.v x' ∧ t.f x = t.f x' ∧ ∀ (j : Nat) (r : oA X), rs[j]? = some r → r.p = i + 1 → r.h x = r.h x' ∧ r.g x = r.g x'
theorem fY {l : List Oper} {os : List (nC X)} {x : Nat → X} {L0 : Env} {d : Nat} {u : Value} : ∀ {is : List Nat}, look (dk l os x L0 is) d = some u → (∃ k t, k ∈ is ∧ fw l k = some d ∧ os[k]? = some t ∧ u = t.v x) ∨ look L0 d = some u
 | [], h => .inr h
 | j :: is, h => by
  unfold dk at h
  split at h
  ·rename_i d' o e1 e2
   simp only [look] at h
   split at h
   ·rename_i hb
    have := nE hb
    subst this
    exact .inl ⟨j, o, List.mem_cons_self .., e1, e2, (oI h).symm⟩
   ·rcases fY h with ⟨k, t, h1, h2⟩ | h
    ·exact .inl ⟨k, t, List.mem_cons_of_mem _ h1, h2⟩
    ·exact .inr h
  ·rcases fY h with ⟨k, t, h1, h2⟩ | h
   ·exact .inl ⟨k, t, List.mem_cons_of_mem _ h1, h2⟩
   ·exact .inr h
theorem iH {l : List Oper} {os : List (nC X)} {x : Nat → X} {L0 : Env} {d j : Nat} {t : nC X} (hu : ∀ j k d, fw l j = some d → fw l k = some d → j = k) (hd : fw l j = some d) (ht : os[j]? = some t) : ∀ {is : List Nat}, j ∈ is → look (dk l os x L0 is) d = some (t.v x)
 | [], h => nomatch h
 | k :: is, h => by
  unfold dk
  split
  ·rename_i d' o e1 e2
   simp only [look]
   split
   ·rename_i hb
    obtain rfl := nE hb
    obtain rfl := hu _ _ _ hd e1
    rw [ht] at e2
    obtain rfl := oI e2
    rfl
   ·rename_i hb
    rcases List.mem_cons.1 h with rfl | h
    ·have : d' = d := oI (e1.symm.trans hd)
     subst this
     rw [Nat.beq_refl] at hb; cases hb
    ·exact iH hu hd ht h
  ·rename_i e1
   rcases List.mem_cons.1 h with rfl | h
   ·exact absurd ht (by intro e; exact e1 d t hd e)
   ·exact iH hu hd ht h
theorem gp {l : List Oper} {os : List (nC X)} {x : Nat → X} {L0 : Env} {d : Nat} {u : Value} (h : look L0 d = some u) : ∀ is : List Nat, look (dk l os x L0 is) d ≠ none
 | [] => by rw [show dk l os x L0 [] = L0 from rfl, h]; simp
 | j :: is => by
  unfold dk
  split
  ·simp only [look]
   split
   ·simp
   ·exact gp h is
  ·exact gp h is
theorem iU {l : List Oper} {L : Nat → Bool} {L0 : Env} {d : Nat} {u : Value} : look (iV l L L0) d = some u ↔ look L0 d = some u ∧ ∀ j, j < l.length → L j = true → fw l j ≠ some d := by
 unfold iV
 rw [ij (fun d => (List.range l.length).all fun j => !(L j && match fw l j with | some d' => Nat.beq d' d | none => false))]
 constructor
 ·intro h
  split at h
  ·rename_i hp
   refine ⟨h, fun j hj hL hd => ?_⟩
   have := List.all_eq_true.1 hp j (List.mem_range.2 hj)
   rw [hL, hd] at this
   simp at this
  ·cases h
 ·rintro ⟨h1, h2⟩
  rw [if_pos, h1]
  refine List.all_eq_true.2 fun j hj => ?_
  have := h2 j (List.mem_range.1 hj)
  cases hL : L j with
  | false => rfl
  | true =>
   cases hd : fw l j with
   | none => rfl
   | some d' =>
    have h3 := this hL
    rw [hd] at h3
    have : Nat.beq d' d = false := by rw [Bool.eq_false_iff]; intro hh; exact h3 (by rw [nE hh])
    simp [this]
theorem iI {α β : Type} (f : α → List β) {a b : List α} (h : a.Perm b) : (a.flatMap f).Perm (b.flatMap f) := h.flatMap_right f
theorem fp {n : Nat} {p : Nat → Bool} (h : (List.range n).all p = true) {i : Nat} (hi : i < n) : p i = true := List.all_eq_true.1 h i (List.mem_range.2 hi)
structure Inv (l : List Oper) (L0 : Env) (N : Nat) (w0 : World) (T : cD) (F0 Γ0 : List Pr) (rs : List (oA X)) (os : List (nC X)) (L : Nat → Bool) (a : Act) (w : World) (x : Nat → X) : Prop where
 lt : ∀ j, L j = true → j < l.length
 closed : ∀ (j : Nat) (t : nC X), L j = true → os[j]? = some t → ∀ k ∈ t.A, L k = true
 env : ∀ (j : Nat) (t : nC X) (d : Nat), L j = true → os[j]? = some t → fw l j = some d → a.tmps[d]? = some (t.v x)
 yP : Has N a (iV l L L0)
 sat : Sat w0 T (ll rs x (live rs L)) (ln rs x (live rs L)) (ff os x ((List.range l.length).filter L) ++ (F0 ++ Γ0)) w
theorem qp {l : List Oper} {os : List (nC X)} {x : Nat → X} {L0 : Env} {a : Act} {is : List Nat} (h0 : Has N a L0) (h : ∀ (j : Nat) (t : nC X) (d : Nat), j ∈ is → os[j]? = some t → fw l j = some d → a.tmps[d]? = some (t.v x)) : Has N a (dk l os x L0 is) :=
 ⟨h0.size, h0.defers, fun d u hu => by
  rcases fY hu with ⟨k, t, h1, h2, h3, rfl⟩ | hu
  ·exact h k t d h1 h3 h2
  ·exact h0.has d u hu⟩
theorem Ac {a : Act} {E E' : Env} (h : Has N a E) (h' : Has N a E') : Has N a (E ++ E') := ⟨h.size, h.defers, fun d u hu => by
 rw [ik] at hu
 cases hd : look E d with
 | some v => rw [hd] at hu; obtain rfl := oI hu; exact h.has d _ hd
 | none => rw [hd] at hu; exact h'.has d u hu⟩
theorem wA {o : Oper} {a : Act} {w : World} {K : Act → World → Prop} {Q Q' : Exit → Act → World → Prop} (h : ∀ e a w, e ≠ .normal → Q' e a w → Q e a w) (hw : o.wp P a w K Q') : o.wp P a w K Q := by
 have hL : LetsOut Q' → LetsOut Q := fun ⟨a', w', h'⟩ => ⟨a', w', h _ _ _ (by simp) h'⟩
 unfold Oper.wp at hw ⊢
 generalize (execOp a.eval o).run P w = res at hw ⊢
 cases res with
 | ok v w1 =>
  cases v with
  | value v => exact hw
  | skip => exact hw
  | defer d => exact hw
  | enter f args =>
   rw [Oper.upon_enter] at hw ⊢
   refine Calls.mono hw fun e w2 h3 => ?_
   cases e with
   | returned v => exact h3
   | panicked chain => exact h _ _ _ (by simp) h3
   | outgrown => exact hL h3
  | row row args => exact hw
  | _ => exact hw
 | halt e w1 => cases e <;> first | exact h _ _ _ (by simp) hw | exact hw
theorem jX {rs : List (oA X)} {L : Nat → Bool} {j : Nat} : j ∈ live rs L ↔ ∃ r, rs[j]? = some r ∧ pW L r = true := by
 unfold live
 rw [List.mem_filter, List.mem_range]
 constructor
 ·rintro ⟨h1, h2⟩
  rw [List.getElem?_eq_getElem h1] at h2
  exact ⟨_, List.getElem?_eq_getElem h1, h2⟩
 ·rintro ⟨r, h1, h2⟩
  refine ⟨(List.getElem?_eq_some_iff.1 h1).1, ?_⟩
  rw [h1]; exact h2
theorem my (rs : List (oA X)) (L : Nat → Bool) : (live rs L).Nodup := List.nodup_range.sublist List.filter_sublist
def jy (L : Nat → Bool) (i : Nat) : Nat → Bool := fun j => if j = i then true else L j
theorem Inv.step {l : List Oper} {L0 : Env} {F0 Γ0 : List Pr} {rs : List (oA X)} {os : List (nC X)} (hg : kv l L0 rs os = true) (ht : ∀ i, wu P N w0 T l L0 F0 Γ0 rs os i) (ha : ∀ i, vt rs os i) (ha0 : ∀ (j : Nat) (r : oA X), rs[j]? = some r → r.p = 0 → ∀ x x', r.h x = r.h x' ∧ r.g x = r.g x')
  {L : Nat → Bool} {a : Act} {w : World} {x : Nat → X} (hI : Inv l L0 N w0 T F0 Γ0 rs os L a w x) {i : Nat} (hi : i < l.length) (hLi : L i = false) (hpre : ∀ o, l[i]? = some o → ∀ e ∈ kH o, L e = true) (K : Act → World → Prop) (Q : Exit → Act → World → Prop)
  (hK : ∀ a' w' x', Inv l L0 N w0 T F0 Γ0 rs os (jy L i) a' w' x' → K a' w') : wpOp P l.toArray Q i K a w := by
 simp only [kv, Bool.and_eq_true] at hg
 obtain ⟨⟨⟨hlen, hops⟩, huniq⟩, hsep⟩ := hg
 have hlen := nE hlen
 have hop := fp hops hi
 obtain ⟨o, ho⟩ : ∃ o, l[i]? = some o := ⟨_, List.getElem?_eq_getElem hi⟩
 obtain ⟨t, hti⟩ : ∃ t, os[i]? = some t := ⟨_, List.getElem?_eq_getElem (by omega)⟩
 have hop0 : ∀ j, j < l.length → wY l rs os j = true := fun j hj => fp hops hj
 unfold wY at hop
 simp only [ho, hti, Bool.and_eq_true] at hop
 obtain ⟨⟨⟨⟨⟨⟨⟨hedge, hA⟩, hD⟩, hus⟩, hout⟩, huse⟩, hrs⟩, houtlt⟩ := hop
 have husN := mu hus
 have houtN := mu hout
 have hpre := hpre o ho
 have hAL : ∀ k ∈ t.A, L k = true := fun k hk => by
  have := List.all_eq_true.1 hA k hk
  rw [Bool.or_eq_true] at this
  rcases this with h | h
  ·exact hpre k (aC.1 h)
  ·rw [List.any_eq_true] at h
   obtain ⟨e, he, h⟩ := h
   split at h
   ·rename_i t' ht'
    exact hI.closed e t' (hpre e he) ht' k (aC.1 h)
   ·cases h
 have huniq' : ∀ j k d, fw l j = some d → fw l k = some d → j = k := fun j k d hj hk => by
  have hjl : j < l.length := by
   apply Classical.byContradiction; intro hh
   unfold fw at hj; rw [List.getElem?_eq_none (by omega)] at hj; cases hj
  have hkl : k < l.length := by
   apply Classical.byContradiction; intro hh
   unfold fw at hk; rw [List.getElem?_eq_none (by omega)] at hk; cases hk
  have := fp (fp huniq hjl) hkl
  rw [hj, hk, Bool.or_eq_true] at this
  rcases this with h | h
  ·exact nE h
  ·simp only [Nat.beq_refl] at h; cases h
 have hdl : ∀ j d, fw l j = some d → j < l.length := fun j d hj => by
  apply Classical.byContradiction; intro hh
  unfold fw at hj; rw [List.getElem?_eq_none (by omega)] at hj; cases hj
 have hsep' : ∀ d u j, look L0 d = some u → d ∉ t.K → fw l j = some d → j = i ∨ ∃ tj, os[j]? = some tj ∧ i ∈ tj.A := fun d u j hu hK hj => by
  have h1 := fp hsep (hdl j d hj)
  rw [hj] at h1
  simp only [hu, Option.isNone_some, Bool.false_or] at h1
  have h2 := fp h1 hi
  rw [hti] at h2
  split at h2
  ·rename_i t1 t2 e1 e2
   obtain rfl := oI e1
   rw [Bool.or_eq_true, Bool.or_eq_true] at h2
   rcases h2 with (h2 | h2) | h2
   ·exact .inl (nE h2).symm
   ·exact absurd (aC.1 h2) hK
   ·exact .inr ⟨_, e2, aC.1 h2⟩
  ·cases h2
 have hnoex : ∀ d u, look (kQ t.K L0) d = some u → ∀ j, L j = true → fw l j ≠ some d := fun d u hu j hL hj => by
  obtain ⟨h1, h2⟩ := mw hu
  rcases hsep' d u j h1 h2 hj with rfl | ⟨tj, h3, h4⟩
  ·rw [hL] at hLi; cases hLi
  ·have := hI.closed j tj hL h3 i h4
   rw [hLi] at this; cases this
 have hLr : Has N a (dk l os x (iV l L L0) ((List.range l.length).filter L)) := qp hI.yP fun j t' d hj h1 h2 => hI.env j t' d (List.mem_filter.1 hj).2 h1 h2
 have hD0 : Has N a (kQ t.K L0) := ⟨hI.yP.size, hI.yP.defers, fun d u hu => hI.yP.has d u (iU.2 ⟨(mw hu).1, fun j _ hL => hnoex d u hu j hL⟩)⟩
 have hE : Has N a (dk l os x (kQ t.K L0) t.A ++ dk l os x (iV l L L0) ((List.range l.length).filter L)) := Ac (qp hD0 fun j t' d hj h1 h2 => hI.env j t' d (hAL j hj) h1 h2) hLr
 -- what is used is there
 have husL : ∀ j ∈ t.us, j ∈ live rs L := fun j hj => by
  have := List.all_eq_true.1 huse j hj
  split at this
  ·rename_i r hr
   rw [Bool.and_eq_true] at this
   obtain ⟨h1, h2⟩ := this
   refine jX.2 ⟨r, hr, ?_⟩
   unfold pW
   rw [Bool.and_eq_true]
   refine ⟨?_, ?_⟩
   ·rw [Bool.or_eq_true] at h1 ⊢
    rcases h1 with h1 | h1
    ·exact .inl h1
    ·exact .inr (hAL _ (aC.1 h1))
   ·rw [Bool.not_eq_true']
    simp only [Bool.or_eq_true] at h2
    rcases h2 with (h2 | h2) | h2
    ·rw [nE h2]; exact hLi
    ·cases hq : L r.q with
     | false => rfl
     | true => have := hI.lt _ hq; have := nB h2; omega
    ·cases hq : L r.q with
     | false => rfl
     | true =>
      split at h2
      ·rename_i t' ht'
       have := hI.closed _ t' hq ht' i (aC.1 h2)
       rw [hLi] at this; cases this
      ·cases h2
  ·cases this
 let rest := (live rs L).filter fun j => !gD j t.us
 have hrest : ∀ j, j ∈ rest ↔ j ∈ live rs L ∧ j ∉ t.us := fun j => by
  rw [List.mem_filter, Bool.not_eq_true', ← Bool.not_eq_true, aC]
 have hrestN : rest.Nodup := (my rs L).sublist List.filter_sublist
 have hp1 : (live rs L).Perm (t.us ++ rest) := (List.perm_ext_iff_of_nodup (my rs L) (List.nodup_append.2 ⟨husN, hrestN, fun p hp q hq e => ((hrest q).1 hq).2 (e ▸ hp)⟩)).2 fun j => by
  rw [List.mem_append, hrest]
  by_cases hj : j ∈ t.us
  ·simp [hj, husL j hj]
  ·simp [hj]
 have hS1 : Sat w0 T (ll rs x t.us ++ ll rs x rest) (ln rs x t.us ++ ln rs x rest) ((ff os x t.A ++ F0) ++ (ff os x ((List.range l.length).filter L) ++ (F0 ++ Γ0))) w := by
  have h1 := (hI.sat.perm (iI _ hp1)).jU (iI _ hp1)
  simp only [List.flatMap_append] at h1
  refine h1.less fun φ hφ => ?_
  simp only [List.mem_append] at hφ ⊢
  rcases hφ with (hφ | hφ) | hφ
  ·left
   unfold ff at hφ ⊢
   rw [List.mem_flatMap] at hφ ⊢
   obtain ⟨k, hk, hφ⟩ := hφ
   exact ⟨k, List.mem_filter.2 ⟨List.mem_range.2 (hI.lt k (hAL k hk)), hAL k hk⟩, hφ⟩
  ·exact .inr (.inl hφ)
  ·exact hφ
 -- the operation
 let Q' : Exit → Act → World → Prop := fun e a w => match e with
  | .normal => K a w
  | e => Q e a w
 have htrip := ht i o t ho hti x (ll rs x rest) (ln rs x rest) (ff os x ((List.range l.length).filter L) ++ (F0 ++ Γ0)) (dk l os x (iV l L L0) ((List.range l.length).filter L)) Q' (fun φ hφ => by simp only [List.mem_append]; exact .inr (.inr hφ)) (fun u => ?_) a w hE hS1
 ·unfold wpOp
  have hoo : l.toArray[i]? = some o := by simpa using ho
  rw [hoo]
  dsimp only
  unfold wpList at htrip
  split at htrip
  ·rename_i hw
   rw [if_pos hw]
   rcases htrip with h | ⟨h1, h2⟩
   ·exact .inl (wA (Q' := Q') (fun e a w he hq => by cases e <;> first | exact absurd rfl he | exact hq) h)
   ·obtain ⟨a', w', h2⟩ := h2
    exact .inr ⟨h1, a', w', h2⟩
  ·rename_i hw
   rw [if_neg hw]
   exact htrip
 ·intro a' w' hh' hS'
  show K a' w'
  refine hK a' w' (fM x i u) ?_
  have hxD : ∀ j t', L j = true → os[j]? = some t' → ∀ k ∈ j :: t'.D, x k = fM x i u k := fun j t' hj ht' k hk => by
   rw [kg]
   intro e
   subst e
   rcases List.mem_cons.1 hk with rfl | hk
   ·rw [hj] at hLi; cases hLi
   ·have hjl := hI.lt j hj
    have hopj := hop0 j hjl
    obtain ⟨oj, hoj⟩ : ∃ o, l[j]? = some o := ⟨_, List.getElem?_eq_getElem hjl⟩
    unfold wY at hopj
    simp only [hoj, ht', Bool.and_eq_true] at hopj
    have hDj := hopj.1.1.1.1.1.2
    have := hI.closed j t' hj ht' k (aC.1 (List.all_eq_true.1 hDj k hk))
    rw [hLi] at this; cases this
  have hag : ∀ j t', L j = true → os[j]? = some t' → t'.v x = t'.v (fM x i u) ∧ t'.f x = t'.f (fM x i u) ∧ ∀ (q : Nat) (r : oA X), rs[q]? = some r → r.p = j + 1 → r.h x = r.h (fM x i u) ∧ r.g x = r.g (fM x i u) := fun j t' hj ht' => ha j t' ht' _ _ (hxD j t' hj ht')
  have hlook : ∀ d v, look (dk l os (fM x i u) (kQ t.K L0) (i :: t.A) ++ dk l os x (iV l L L0) ((List.range l.length).filter L)) d = some v → a'.tmps[d]? = some v := hh'.has
  refine ⟨fun j hj => ?_, fun j t' hj ht' k hk => ?_, fun j t' d hj ht' hd => ?_, ?_, ?_⟩
  ·unfold jy at hj
   split at hj
   ·omega
   ·exact hI.lt j hj
  ·unfold jy at hj ⊢
   split
   ·rfl
   ·split at hj
    ·rename_i e
     subst e
     obtain rfl := oI (hti.symm.trans ht')
     exact hAL k hk
    ·exact hI.closed j t' hj ht' k hk
  ·refine hlook d _ ?_
   rw [ik]
   by_cases hm : j ∈ i :: t.A
   ·rw [iH huniq' hd ht' hm]; rfl
   ·have hji : j ≠ i := fun e => hm (e ▸ List.mem_cons_self ..)
    have hLj : L j = true := by unfold jy at hj; rwa [if_neg hji] at hj
    cases hd1 : look (dk l os (fM x i u) (kQ t.K L0) (i :: t.A)) d with
    | some v =>
     exfalso
     rcases fY hd1 with ⟨k, tk, h1, h2, _, _⟩ | h0
     ·exact hm (huniq' _ _ _ hd h2 ▸ h1)
     ·exact hnoex d v h0 j hLj hd
    | none =>
     show look (dk l os x (iV l L L0) ((List.range l.length).filter L)) d = _
     rw [iH huniq' hd ht' (List.mem_filter.2 ⟨List.mem_range.2 (hI.lt j hLj), hLj⟩), (hag j _ hLj ht').1]
  ·refine ⟨hh'.size, hh'.defers, fun d v hv => ?_⟩
   obtain ⟨hv1, hv2⟩ := iU.1 hv
   have hsi : jy L i i = true := by simp [jy]
   have hsL : ∀ k, L k = true → jy L i k = true := fun k hk => by
    unfold jy; split
    ·rfl
    ·exact hk
   refine hlook d v ?_
   rw [ik]
   cases hd1 : look (dk l os (fM x i u) (kQ t.K L0) (i :: t.A)) d with
   | some v' =>
    rcases fY hd1 with ⟨k, tk, h1, h2, _⟩ | h0
    ·exfalso
     refine hv2 k (hdl k d h2) ?_ h2
     rcases List.mem_cons.1 h1 with rfl | h1
     ·exact hsi
     ·exact hsL k (hAL k h1)
    ·exact ((mw h0).1.symm.trans hv1)
   | none =>
    have hlv : look (iV l L L0) d = some v := iU.2 ⟨hv1, fun j hj hL => hv2 j hj (hsL j hL)⟩
    show look (dk l os x (iV l L L0) ((List.range l.length).filter L)) d = _
    cases hd2 : look (dk l os x (iV l L L0) ((List.range l.length).filter L)) d with
    | none => exact absurd hd2 (gp hlv _)
    | some v' =>
     rcases fY hd2 with ⟨k, tk, h1, h2, _⟩ | h0
     ·exact absurd h2 (hv2 k (hdl k d h2) (hsL k (List.mem_filter.1 h1).2))
     ·rw [← h0, hlv]
  ·-- memory
   have hmemo : ∀ j, j ∈ live rs (jy L i) ↔ j ∈ t.out ∨ j ∈ rest := fun j => by
    rw [hrest, jX, jX]
    by_cases hjl : j < rs.length
    ·obtain ⟨r, hr⟩ : ∃ r, rs[j]? = some r := ⟨_, List.getElem?_eq_getElem hjl⟩
     have hj := fp hrs hjl
     simp only [hr, Bool.and_eq_true] at hj
     obtain ⟨⟨h1, h2⟩, h3⟩ := hj
     have e1 : (∃ r', rs[j]? = some r' ∧ pW (jy L i) r' = true) ↔ pW (jy L i) r = true := ⟨fun ⟨r', a, b⟩ => by rw [hr] at a; obtain rfl := oI a; exact b, fun h => ⟨r, hr, h⟩⟩
     have e2 : (∃ r', rs[j]? = some r' ∧ pW L r' = true) ↔ pW L r = true := ⟨fun ⟨r', a, b⟩ => by rw [hr] at a; obtain rfl := oI a; exact b, fun h => ⟨r, hr, h⟩⟩
     rw [e1, e2]
     have hoT : j ∈ t.out ↔ ((j ∈ t.us ∧ r.q ≠ i) ∨ r.p = i + 1) := by
      have e3 : (gD j t.us && !Nat.beq r.q i || Nat.beq r.p (i + 1)) = true ↔ ((j ∈ t.us ∧ r.q ≠ i) ∨ r.p = i + 1) := by
       rw [Bool.or_eq_true, Bool.and_eq_true, aC, Bool.not_eq_true', ← Bool.not_eq_true, Nat.beq_eq, Nat.beq_eq]
      rw [← e3, ← aC]
      clear e3
      revert h2 h3
      generalize gD j t.out = c
      generalize (gD j t.us && !Nat.beq r.q i || Nat.beq r.p (i + 1)) = d
      intro h2 h3
      revert h2 h3
      cases c <;> cases d <;> simp
     rw [hoT]
     have hqi : r.q = i → j ∈ t.us := fun e => by
      rw [show Nat.beq r.q i = true from e ▸ Nat.beq_refl _, cdT] at h1
      exact aC.1 h1
     -- one that is made here has not been ended
     have hmade : r.p = i + 1 → L r.q = false ∧ r.q ≠ i := fun e => by
      have hqu : ∀ q, r.q = q → q < l.length → ∀ tq, os[q]? = some tq → i ∈ tq.A := fun q hq hql tq htq => by
       have hopq := hop0 q hql
       obtain ⟨oq, hoq⟩ : ∃ o, l[q]? = some o := ⟨_, List.getElem?_eq_getElem hql⟩
       unfold wY at hopq
       simp only [hoq, htq, Bool.and_eq_true] at hopq
       have hrq := fp hopq.1.2 hjl
       simp only [hr, Bool.and_eq_true] at hrq
       have h5 := hrq.1.1
       rw [show Nat.beq r.q q = true from hq ▸ Nat.beq_refl _, cdT] at h5
       have h6 := List.all_eq_true.1 hopq.1.1.2 j (aC.1 h5)
       simp only [hr, Bool.and_eq_true, Bool.or_eq_true] at h6
       rcases h6.1 with h7 | h7
       ·have := nE h7; omega
       ·have := aC.1 h7
        rwa [e, Nat.add_sub_cancel] at this
      refine ⟨?_, fun hq => ?_⟩
      ·cases hq : L r.q with
       | false => rfl
       | true =>
        have hql := hI.lt _ hq
        obtain ⟨tq, htq⟩ : ∃ tq, os[r.q]? = some tq := ⟨_, List.getElem?_eq_getElem (by omega)⟩
        have := hI.closed _ tq hq htq i (hqu r.q rfl hql tq htq)
        rw [hLi] at this; cases this
      ·have := hqu i hq hi t hti
       have := hAL i this
       rw [hLi] at this; cases this
     unfold pW jy
     by_cases hq : r.q = i
     ·have h7 := hqi hq
      have hpi : r.p ≠ i + 1 := fun e => (hmade e).2 hq
      simp [hq, h7, hpi]
     ·by_cases hp : r.p = i + 1
      ·obtain ⟨h8, _⟩ := hmade hp
       simp [hq, hp, h8, hLi]
      ·by_cases hu : j ∈ t.us
       ·have hpr := husL j hu
        rw [jX, e2] at hpr
        unfold pW at hpr
        have hne : r.p = 0 ∨ r.p - 1 ≠ i := by
         by_cases h0 : r.p = 0
         ·exact .inl h0
         ·right; omega
        rcases hne with h0 | h0
        ·simp [hq, hu, h0] at hpr ⊢; exact hpr
        ·simp [hq, hu, h0] at hpr ⊢; exact hpr
       ·have hne : r.p = 0 ∨ r.p - 1 ≠ i := by
         by_cases h0 : r.p = 0
         ·exact .inl h0
         ·right; omega
        rcases hne with h0 | h0
        ·simp [hq, hu, hp, h0]
        ·simp [hq, hu, hp, h0]
    ·have hn : rs[j]? = none := List.getElem?_eq_none (by omega)
     have ho : j ∉ t.out := fun hh => by
      have := nB (List.all_eq_true.1 houtlt j hh)
      omega
     simp [hn, ho]
   have hod : ∀ p, p ∈ t.out → p ∉ rest := fun p hp hr => by
    obtain ⟨h1, h2⟩ := (hrest p).1 hr
    obtain ⟨r, hr1, hr2⟩ := jX.1 h1
    have hj := fp hrs (List.getElem?_eq_some_iff.1 hr1).1
    simp only [hr1, Bool.and_eq_true] at hj
    have h3 := hj.2
    rw [show gD p t.out = true from aC.2 hp, Bool.not_true, Bool.false_or, Bool.or_eq_true, Bool.and_eq_true, aC] at h3
    rcases h3 with h3 | h3
    ·exact h2 h3.1
    ·have hpe := nE h3
     unfold pW at hr2
     rw [hpe, Nat.add_sub_cancel, hLi] at hr2
     simp at hr2
   have hp2 : (live rs (jy L i)).Perm (t.out ++ rest) := (List.perm_ext_iff_of_nodup (my rs _) (List.nodup_append.2 ⟨houtN, hrestN, fun p hp q hq e => hod p hp (e ▸ hq)⟩)).2 fun j => by rw [List.mem_append, hmemo]
   -- what was there is what it was
   have hsame : ∀ j ∈ rest, ∀ r : oA X, rs[j]? = some r → r.h x = r.h (fM x i u) ∧ r.g x = r.g (fM x i u) := fun j hj r hr => by
    obtain ⟨h1, _⟩ := (hrest j).1 hj
    obtain ⟨r', hr1, hr2⟩ := jX.1 h1
    obtain rfl := oI (hr.symm.trans hr1)
    by_cases hp0 : r.p = 0
    ·exact ha0 j r hr hp0 _ _
    ·unfold pW at hr2
     rw [Bool.and_eq_true, Bool.or_eq_true] at hr2
     rcases hr2.1 with h | h
     ·exact absurd (nE h) hp0
     ·obtain ⟨tp, htp⟩ : ∃ tp, os[r.p - 1]? = some tp := ⟨_, List.getElem?_eq_getElem (by have := hI.lt _ h; omega)⟩
      exact (hag _ tp h htp).2.2 j r hr (by omega)
   have eH : ll rs x rest = ll rs (fM x i u) rest := by
    unfold ll
    rw [List.flatMap_def, List.flatMap_def]
    congr 1
    refine List.map_congr_left fun j hj => ?_
    cases hr : rs[j]? with
    | none => rfl
    | some r => exact (hsame j hj r hr).1
   have eG : ln rs x rest = ln rs (fM x i u) rest := by
    unfold ln
    rw [List.flatMap_def, List.flatMap_def]
    congr 1
    refine List.map_congr_left fun j hj => ?_
    cases hr : rs[j]? with
    | none => rfl
    | some r => exact (hsame j hj r hr).2
   rw [eH, eG] at hS'
   have h1 : Sat w0 T (ll rs (fM x i u) (t.out ++ rest)) (ln rs (fM x i u) (t.out ++ rest)) (t.f (fM x i u) ++ ((ff os x t.A ++ F0) ++ (ff os x ((List.range l.length).filter L) ++ (F0 ++ Γ0)))) w' := by
    simp only [ll, ln, List.flatMap_append] at hS' ⊢
    exact hS'
   have h2 := (h1.perm (iI _ hp2.symm)).jU (iI _ hp2.symm)
   refine h2.less fun φ hφ => ?_
   simp only [List.mem_append] at hφ ⊢
   rcases hφ with hφ | hφ
   ·unfold ff at hφ
    rw [List.mem_flatMap] at hφ
    obtain ⟨k, hk, hφ⟩ := hφ
    obtain ⟨hk1, hk2⟩ := List.mem_filter.1 hk
    by_cases e : k = i
    ·subst e
     rw [hti] at hφ
     exact .inl hφ
    ·have hLk : L k = true := by unfold jy at hk2; rwa [if_neg e] at hk2
     right; right; left
     unfold ff
     rw [List.mem_flatMap]
     refine ⟨k, List.mem_filter.2 ⟨hk1, hLk⟩, ?_⟩
     cases hok : os[k]? with
     | none => rw [hok] at hφ; exact hφ
     | some tk => rw [hok] at hφ; show φ ∈ tk.f x; rw [(hag k tk hLk hok).2.1]; exact hφ
   ·exact .inr (.inr (.inr hφ))
def qX (L : Nat → Bool) : Nat → Nat
 | 0 => 0
 | n + 1 => qX L n + cond (L n) 0 1
theorem ui {L : Nat → Bool} {i : Nat} (hi : L i = false) : ∀ n, qX (jy L i) n + (if i < n then 1 else 0) = qX L n
 | 0 => by simp [qX]
 | n + 1 => by
  have ih := ui (L := L) hi n
  unfold qX
  by_cases e : n = i
  ·subst e
   rw [if_neg (by omega)] at ih
   rw [if_pos (by omega), show jy L n n = true by simp [jy], hi]
   simp at ih ⊢
   exact ih
  ·rw [show jy L i n = L n by simp [jy, e]]
   by_cases h : i < n
   ·rw [if_pos h] at ih; rw [if_pos (by omega)]; omega
   ·rw [if_neg h] at ih; rw [if_neg (by omega)]; omega
theorem wg (L : Nat → Bool) : ∀ n, qX L n ≤ n
 | 0 => Nat.le_refl _
 | n + 1 => by
  have := wg L n
  unfold qX
  cases L n <;> simp <;> omega
theorem rS {L : Nat → Bool} : ∀ {n}, qX L n = 0 → ∀ j, j < n → L j = true
 | 0, _, j, h => by omega
 | n + 1, h, j, hj => by
  unfold qX at h
  by_cases e : j = n
  ·subst e
   cases hL : L j with
   | true => rfl
   | false => rw [hL] at h; simp at h
  ·exact rS (n := n) (by omega) j (by omega)
theorem xi {l : List Oper} {L0 : Env} {F0 Γ0 : List Pr} {rs : List (oA X)} {os : List (nC X)} (hg : kv l L0 rs os = true) (ht : ∀ i, wu P N w0 T l L0 F0 Γ0 rs os i) (ha : ∀ i, vt rs os i) (ha0 : ∀ (j : Nat) (r : oA X), rs[j]? = some r → r.p = 0 → ∀ x x', r.h x = r.h x' ∧ r.g x = r.g x')
  {Q : Exit → Act → World → Prop} (fin : ∀ L a w x, (∀ j, j < l.length → L j = true) → Inv l L0 N w0 T F0 Γ0 rs os L a w x → Q .normal a w) : ∀ (fuel : Nat) (listed : Array Bool) (a : Act) (w : World) (x : Nat → X), listed.size = l.length → Inv l L0 N w0 T F0 Γ0 rs os (fun j => listed.getD j false) a w x → qX (fun j => listed.getD j false) l.length ≤ fuel → wpAny P .any l.toArray Q fuel listed a w := by
 intro fuel
 have hg' := hg
 simp only [kv, Bool.and_eq_true] at hg'
 have hops := hg'.1.1.2
 have hedge : ∀ (i : Nat) (o : Oper), l[i]? = some o → ∀ e ∈ kH o, e < i := fun i o ho => by
  have hop := fp hops (List.getElem?_eq_some_iff.1 ho).1
  unfold wY at hop
  simp only [ho] at hop
  split at hop
  ·rename_i o' t e1 e2
   obtain rfl := oI e1
   simp only [Bool.and_eq_true] at hop
   intro e he
   exact nB (List.all_eq_true.1 hop.1.1.1.1.1.1.1 e he)
  ·cases hop
 have hallE : ∀ (listed : Array Bool) (o : Oper), (o.after.all fun e => !Region.binds .any e || listed.getD e.on false) = true ↔ ∀ e ∈ kH o, listed.getD e false = true := fun listed o => by
  rw [Array.all_eq_true']
  unfold kH
  constructor
  ·intro h e he
   obtain ⟨q, hq, rfl⟩ := List.mem_map.1 he
   obtain ⟨h1, h2⟩ := List.mem_filter.1 hq
   have := h q (by simpa using h1)
   simpa [h2] using this
  ·intro h q hq
   cases hb : Region.binds .any q with
   | false => rfl
   | true => simpa using h q.on (List.mem_map.2 ⟨q, List.mem_filter.2 ⟨by simpa using hq, hb⟩, rfl⟩)
 have hall : ∀ (listed : Array Bool), listed.size = l.length → Region.ready .any l.toArray listed = [] → ∀ j, j < l.length → listed.getD j false = true := fun listed hsz hr => by
  intro j
  induction j using Nat.strongRecOn with
  | ind j ih =>
   intro hj
   cases hL : listed.getD j false with
   | true => rfl
   | false =>
    exfalso
    have : j ∈ Region.ready .any l.toArray listed := by
     unfold Region.ready
     rw [List.mem_filter]
     refine ⟨by simpa using hj, ?_⟩
     have h1 : listed.getD j true = false := by
      rw [Array.getD_eq_getD_getElem?] at hL ⊢
      rw [Array.getElem?_eq_getElem (by omega)] at hL ⊢
      exact hL
     have h2 : l.toArray[j]? = some l[j] := by simp [hj]
     simp only [h1, h2, Option.map_some, Option.getD_some, Bool.not_false, Bool.true_and]
     exact (hallE listed l[j]).2 fun e he => ih e (hedge j _ (List.getElem?_eq_getElem hj) e he) (by have := hedge j _ (List.getElem?_eq_getElem hj) e he; omega)
    rw [hr] at this
    cases this
 induction fuel with
 | zero =>
  intro listed a w x hsz hI hc
  have hz := rS (Nat.le_zero.1 hc)
  refine ⟨?_, fin _ a w x hz hI⟩
  unfold Region.ready
  rw [List.filter_eq_nil_iff]
  intro j hj
  have hj' : j < l.length := by simpa using hj
  have h1 := hz j hj'
  rw [Array.getD_eq_getD_getElem?, Array.getElem?_eq_getElem (by omega)] at h1
  rw [Array.getD_eq_getD_getElem?, Array.getElem?_eq_getElem (by omega)]
  simp at h1 ⊢
  simp [h1]
 | succ fuel ih =>
  intro listed a w x hsz hI hc
  refine ⟨fun hr => fin _ a w x (hall listed hsz hr) hI, fun i hi => ?_⟩
  unfold Region.ready at hi
  obtain ⟨hi1, hi2⟩ := List.mem_filter.1 hi
  have hil : i < l.length := by simpa using hi1
  rw [Bool.and_eq_true] at hi2
  have h2 : l.toArray[i]? = some l[i] := by simp [hil]
  simp only [h2, Option.map_some, Option.getD_some] at hi2
  have hLi : listed.getD i false = false := by
   have := hi2.1
   rw [Array.getD_eq_getD_getElem?, Array.getElem?_eq_getElem (by omega)] at this ⊢
   simpa using this
  refine hI.step hg ht ha ha0 hil hLi (fun o ho => by
   rw [List.getElem?_eq_getElem hil] at ho
   obtain rfl := oI ho
   exact (hallE listed _).1 hi2.2) _ Q fun a' w' x' hI' => ?_
  have e : (fun j => (listed.setIfInBounds i true).getD j false) = jy (fun j => listed.getD j false) i := by
   funext j
   unfold jy
   rw [Array.getD_eq_getD_getElem?, Array.getElem?_setIfInBounds]
   by_cases hj : i = j
   ·subst hj; simp [hsz, hil]
   ·rw [if_neg hj, if_neg (fun h => hj h.symm)]; exact (Array.getD_eq_getD_getElem? ..).symm
  refine ih (listed.setIfInBounds i true) a' w' x' (by simpa using hsz) (by rw [e]; exact hI') ?_
  rw [e]
  have := ui (L := fun j => listed.getD j false) hLi l.length
  rw [if_pos hil] at this
  omega
theorem WP.graph [Inhabited X] {fn : Func} {R : Ending → World → Prop} {k : List KI} {id : Nat} {l : List Oper} {L0 : Env} {F0 Γ0 : List Pr} {H : bw} {G : List Pr} (rs : List (oA X)) (os : List (nC X)) (hm : P.follows .mixedOrders = true) (hg : kv l L0 rs os = true)
  (hH : ll rs (fun _ => default) (live rs fun _ => false) = H) (hG : ln rs (fun _ => default) (live rs fun _ => false) = G)
  (ht : ∀ i, wu P N w0 T l L0 F0 Γ0 rs os i) (ha : ∀ i, vt rs os i) (ha0 : ∀ (j : Nat) (r : oA X), rs[j]? = some r → r.p = 0 → ∀ x x', r.h x = r.h x' ∧ r.g x = r.g x')
  (hk : ∀ x, WP P fn R N k (dk l os x (iV l (fun j => Nat.blt j l.length) L0) (List.range l.length)) (Sat w0 T (ll rs x (live rs fun j => Nat.blt j l.length)) (ln rs x (live rs fun j => Nat.blt j l.length)) (ff os x (List.range l.length) ++ (F0 ++ Γ0)))) (hdd : gU (dr k) l = true := by rfl) :
  WP P fn R N (.code (.region id l.toArray true) :: k) L0 (Sat w0 T H G (F0 ++ Γ0)) := WP.E0 hm (fun a w ha0' hS => by
 refine xi hg ht ha ha0 (fun L a' w' x hall hI => ?_) l.toArray.size (Array.replicate l.toArray.size false) a { w with drawn := w.drawn + 1 } (fun _ => default) (by simp) ?_ ?_
 ·have hL : ∀ j, L j = Nat.blt j l.length := fun j => by
   by_cases h : j < l.length
   ·rw [hall j h, show Nat.blt j l.length = true from Nat.ble_eq_true_of_le h]
   ·have h1 : L j = false := by
     cases hj : L j with
     | false => rfl
     | true => exact absurd (hI.lt j hj) h
    rw [h1]
    symm
    rw [Bool.eq_false_iff]
    intro hh
    exact h (nB hh)
  have hLL : L = fun j => Nat.blt j l.length := funext hL
  subst hLL
  have hf : (List.range l.length).filter (fun j => Nat.blt j l.length) = List.range l.length := List.filter_eq_self.2 fun j hj => Nat.ble_eq_true_of_le (List.mem_range.1 hj)
  have h1 := hI.sat
  rw [hf] at h1
  have h2 := hk x a' w' (qp hI.yP fun j t d hj h3 h4 => hI.env j t d (Nat.ble_eq_true_of_le (List.mem_range.1 hj)) h3 h4) h1
  exact h2
 ·have e : (fun j => (Array.replicate l.toArray.size false).getD j false) = fun _ => false := by
   funext j
   rw [Array.getD_eq_getD_getElem?, Array.getElem?_replicate]
   split <;> rfl
  rw [e]
  refine ⟨fun j hj => (by cases hj), fun j t hj => (by cases hj), fun j t d hj => (by cases hj), ⟨ha0'.size, ha0'.defers, fun d u hu => ha0'.has d u (iU.1 hu).1⟩, ?_⟩
  have hf : (List.range l.length).filter (fun _ => false) = [] := by simp
  rw [hf, hH, hG]
  exact hS.drew
 ·have := wg (fun j => (Array.replicate l.toArray.size false).getD j false) l.length
  simpa using this) hdd
def aq (p : Nat → Prop) : Nat → Nat → Prop
 | 0, _ => True
 | c + 1, i => p i ∧ aq p c (i + 1)
theorem aq.cons {p : Nat → Prop} {c i : Nat} (h : p i) (hr : aq p c (i + 1)) : aq p (c + 1) i := ⟨h, hr⟩
theorem aq.nil {p : Nat → Prop} {i : Nat} : aq p 0 i := trivial
theorem aq.get {p : Nat → Prop} : ∀ {c s : Nat}, aq p c s → ∀ i, s ≤ i → i < s + c → p i
 | 0, s, _, i, h1, h2 => by omega
 | c + 1, s, h, i, h1, h2 => by
  by_cases e : i = s
  ·subst e; exact h.1
  ·exact aq.get h.2 i (by omega) (by omega)
def zo (P : Program) (N : Nat) (w0 : World) (T : cD) (l : List Oper) (L0 : Env) (F0 Γ0 : List Pr) (rs : List (oA X)) (os : List (nC X)) (i : Nat) : Prop :=
 ∀ o t, l[i]? = some o → os[i]? = some t → ∀ (x : Nat → X) (Gr Γ : List Pr) (Lr : Env) (Q : Exit → Act → World → Prop),
  (∀ u, WL P N l.toArray Q [] (dk l os (fM x i u) (kQ t.K L0) (i :: t.A) ++ Lr) (Sat w0 T (ll rs (fM x i u) t.out) (ln rs (fM x i u) t.out ++ Gr) ((t.f (fM x i u) ++ ((ff os x t.A ++ F0) ++ Γ)) ++ Γ0))) →
  WL P N l.toArray Q [o] (dk l os x (kQ t.K L0) t.A ++ Lr) (Sat w0 T (ll rs x t.us) (ln rs x t.us ++ Gr) (((ff os x t.A ++ F0) ++ Γ) ++ Γ0))
theorem zo.FE {l : List Oper} {L0 : Env} {F0 Γ0 : List Pr} {rs : List (oA X)} {os : List (nC X)} {i : Nat} (h : zo P N w0 T l L0 F0 Γ0 rs os i) : wu P N w0 T l L0 F0 Γ0 rs os i := by
 intro o t ho ht x Hr Gr Γ Lr Q hΓ hk
 have h1 := h o t ho ht x (HG Hr :: Gr) Γ Lr Q fun u a w hh hS => hk u a w hh ?_
 ·intro a w hh hS
  refine h1 a w hh ?_
  have h2 := Sat.pack (H1 := Hr) (hS.perm List.perm_append_comm)
  refine (h2.jU List.perm_middle.symm).less fun φ hφ => ?_
  rcases List.mem_append.1 hφ with hφ | hφ
  ·exact hφ
  ·exact List.mem_append_right _ (hΓ φ hφ)
 ·have h2 := hS.jU List.perm_middle
  exact ((Sat.unpack h2).perm List.perm_append_comm).less fun φ hφ => List.mem_append_left _ hφ
def bf (os : List (nC X)) (i : Nat) : Prop := ∀ t : nC X, os[i]? = some t → ∀ x x' : Nat → X, (∀ k ∈ i :: t.D, x k = x' k) → t.v x = t.v x' ∧ t.f x = t.f x'
def D9 (os : List (nC X)) (p : Nat) : List Nat := match p with
 | 0 => []
 | q + 1 => q :: match os[q]? with
  | some t => t.D
  | none => []
def dA (rs : List (oA X)) (os : List (nC X)) (j : Nat) : Prop := ∀ r : oA X, rs[j]? = some r → ∀ x x' : Nat → X, (∀ k ∈ D9 os r.p, x k = x' k) → r.h x = r.h x' ∧ r.g x = r.g x'
theorem bf.c {os : List (nC X)} {i : Nat} {A us out D K : List Nat} {v : Value} {f : List Pr} (h : os[i]? = some ⟨A, us, out, D, K, fun _ => v, fun _ => f⟩) : bf os i := fun t ht x x' _ => by
 obtain rfl := oI (ht.symm.trans h)
 exact ⟨rfl, rfl⟩
theorem dA.c {rs : List (oA X)} {os : List (nC X)} {j : Nat} {p q : Nat} {h : bw} {g : List Pr} (e : rs[j]? = some ⟨p, q, fun _ => h, fun _ => g⟩) : dA rs os j := fun r hr x x' _ => by
 obtain rfl := oI (hr.symm.trans e)
 exact ⟨rfl, rfl⟩
theorem WP.fB [Inhabited X] {fn : Func} {R : Ending → World → Prop} {k : List KI} {id : Nat} {l : List Oper} {L0 : Env} {F0 Γ0 : List Pr} {H : bw} {G : List Pr} (n m : Nat) (rs : List (oA X)) (os : List (nC X)) (Lf : (Nat → X) → Env) (Hf : (Nat → X) → bw) (Gf Ff : (Nat → X) → List Pr)
  (ht : aq (zo P N w0 T l L0 F0 Γ0 rs os) n 0) (hv : aq (bf os) n 0) (hr : aq (dA rs os) m 0)
  (hk : ∀ x, WP P fn R N k (Lf x ++ L0) (Sat w0 T (Hf x) (Gf x) (Ff x ++ (F0 ++ Γ0)))) (hm : P.follows .mixedOrders = true := by kernel_rfl) (hn : l.length = n := by kernel_rfl) (hm' : rs.length = m := by kernel_rfl) (hg : kv l L0 rs os = true := by kernel_rfl)
  (hH : ll rs (fun _ => default) (live rs fun _ => false) = H := by kernel_rfl) (hG : ln rs (fun _ => default) (live rs fun _ => false) = G := by kernel_rfl)
  (hLf : ∀ x, fL (jY (Lf x)) (dk l os x [] (List.range l.length)) = Lf x := by intro x; kernel_rfl) (hcv : ∀ x, Fb l L0 (Lf x) = true := by intro x; kernel_rfl) (hHf : ∀ x, ll rs x (live rs fun j => Nat.blt j l.length) = Hf x := by intro x; kernel_rfl) (hGf : ∀ x, ln rs x (live rs fun j => Nat.blt j l.length) = Gf x := by intro x; kernel_rfl) (hFf : ∀ x, ff os x (List.range l.length) = Ff x := by intro x; kernel_rfl)
  (hdd : gU (dr k) l = true := by rfl) : WP P fn R N (.code (.region id l.toArray true) :: k) L0 (Sat w0 T H G (F0 ++ Γ0)) := by
 have hlenO : os.length = l.length := by
  have h := hg
  simp only [kv, Bool.and_eq_true] at h
  exact nE h.1.1.1
 have hlt : ∀ (j : Nat) (r : oA X), rs[j]? = some r → j < m := fun j r h => hm' ▸ (List.getElem?_eq_some_iff.1 h).1
 refine WP.graph rs os hm hg hH hG (fun i => ?_) (fun i t hti x x' hx => ?_) (fun j r hjr hp x x' => hr.get j (by omega) (by have := hlt j r hjr; omega) r hjr x x' (fun k hk => by rw [hp] at hk; cases hk)) (fun x => ?_) hdd
 ·by_cases hi : i < n
  ·exact (ht.get i (by omega) (by omega)).FE
  ·intro o t ho
   rw [List.getElem?_eq_none (by omega)] at ho; cases ho
 ·have hi : i < n := by have := (List.getElem?_eq_some_iff.1 hti).1; omega
  obtain ⟨h1, h2⟩ := hv.get i (by omega) (by omega) t hti x x' hx
  refine ⟨h1, h2, fun j r hjr hp => hr.get j (by omega) (by have := hlt j r hjr; omega) r hjr x x' fun k hk => hx k ?_⟩
  rw [hp] at hk
  simp only [D9, hti] at hk
  exact hk
 ·intro a w hh hS
  rw [hHf, hGf, hFf] at hS
  have hem : Has N a (dk l os x [] (List.range l.length)) := ⟨hh.size, hh.defers, fun d u hu => by
   rcases fY hu with ⟨j, t, h1, h2, h3, rfl⟩ | h0
   ·exact hh.has d _ (by
     have : ∀ is, j ∈ is → ∃ v, look (dk l os x (iV l (fun j => Nat.blt j l.length) L0) is) d = some v ∧ look (dk l os x [] is) d = some v := fun is => by
      induction is with
      | nil => intro h; cases h
      | cons k is ih =>
       intro hm
       unfold dk
       split
       ·rename_i d' o e1 e2
        simp only [look]
        split
        ·exact ⟨_, rfl, rfl⟩
        ·rename_i hb
         rcases List.mem_cons.1 hm with rfl | hm
         ·have : d' = d := oI (e1.symm.trans h2)
          subst this
          rw [Nat.beq_refl] at hb; cases hb
         ·exact ih hm
       ·rename_i e1
        rcases List.mem_cons.1 hm with rfl | hm
        ·exact absurd h3 (by intro e; exact e1 d t h2 e)
        ·exact ih hm
     obtain ⟨v, h4, h5⟩ := this _ h1
     rw [hu] at h5
     rw [h4, h5])
   ·cases h0⟩
  have hf : Has N a (Lf x) := by rw [← hLf x]; exact hem.fL _
  refine hk x a w ⟨hh.size, hh.defers, fun d v hd => ?_⟩ hS
  rw [ik] at hd
  cases hd1 : look (Lf x) d with
  | some v' => rw [hd1] at hd; obtain rfl := oI hd; exact hf.has d _ hd1
  | none =>
   rw [hd1] at hd
   have hd : look L0 d = some v := hd
   have hnw : ∀ j, fw l j ≠ some d := fun j hj => by
    have hjl : j < l.length := by
     apply Classical.byContradiction; intro hh
     unfold fw at hj; rw [List.getElem?_eq_none (by omega)] at hj; cases hj
    unfold fw at hj
    rw [List.getElem?_eq_getElem hjl] at hj
    have := List.all_eq_true.1 (hcv x) _ (List.getElem_mem hjl)
    rw [show (l[j]).dst = some d from hj] at this
    simp [hd, hd1] at this
   refine hh.has d v ?_
   have hlv : look (iV l (fun j => Nat.blt j l.length) L0) d = some v := iU.2 ⟨hd, fun j _ _ => hnw j⟩
   cases hd2 : look (dk l os x (iV l (fun j => Nat.blt j l.length) L0) (List.range l.length)) d with
   | none => exact absurd hd2 (gp hlv _)
   | some v' =>
    rcases fY hd2 with ⟨k, tk, _, h2, _⟩ | h0
    ·exact absurd h2 (hnw k)
    ·rw [← h0, hlv]
theorem WL.fin {ops : Array Oper} {Q : Exit → Act → World → Prop} {L L' : Env} {H H' : bw} {G G' Φ Φ' : List Pr} (h : WL P N ops Q [] L' (Sat w0 T H' G' Φ')) (eL : L' = L := by kernel_rfl) (eH : H' = H := by kernel_rfl) (eG : G' = G := by kernel_rfl) (eF : Φ' = Φ := by kernel_rfl) : WL P N ops Q [] L (Sat w0 T H G Φ) := by
 subst eL; subst eH; subst eG; subst eF; exact h
theorem WP.rs {fn : Func} {R : Ending → World → Prop} {k : List KI} {L : Env} {S : Pr} (ks : List Nat) (h : WP P fn R N k (fL ks L) S) : WP P fn R N k L S := fun a w hh hS => h a w (hh.fL ks) hS
end
end Eng
namespace Eng
open Go
def av.iL {σ : Type} (A : av σ) (i : Nat) (s' : σ) : av σ := { A with s := fM A.s i s' }
theorem jQ {σ : Type} (A : av σ) (i : Nat) (s' : σ) (n : Nat) : ae (A.iL i s') n = ae A n := rfl
theorem Sat.Dk {w0 w : World} {T : cD} {H : bw} {G Φ : List Pr} {p q : Pr} (h : Sat w0 T H (p :: G) Φ w) (hpq : ∀ F, Loc F p w → Loc F q w) : Sat w0 T H (q :: G) Φ w := by
 obtain ⟨Fs, o⟩ := h.own
 cases Fs with
 | nil => exact o.g.elim
 | cons F Fs => exact ⟨h.os, h.tape, h.output, h.size, h.frame, F :: Fs, o.nd, o.dG, o.has, ⟨hpq F o.g.1, o.g.2⟩, o.ro⟩
theorem Sat.yv {w0 w : World} {T : cD} {H : bw} {G Φ : List Pr} {p : Pr} (h : Sat w0 T H (p :: G) Φ w) : p w := by
 obtain ⟨Fs, o⟩ := h.own
 cases Fs with
 | nil => exact o.g.elim
 | cons F Fs => exact o.g.1.now
section
variable {w0 w : World} {T : cD} {H : bw} {G Φ : List Pr} {α σ : Type} {m e : Nat} {f : α → σ → List Value} {K : α → σ → Pr} {A : av σ} {xs : List α}
theorem oK {s : Nat → σ} (hf : ∀ x s, (f x s).length = m) : ∀ {xs : List α} {n i : Nat} {u : α}, xs[i]? = some u → ∃ A B : List Value, A.length = i * m ∧ bR f s n xs = A ++ (f u (s (n + i)) ++ B) ∧ ∀ r s', bR f (fM s (n + i) s') n (xs.set i r) = A ++ (f r s' ++ B)
 | [], n, i, u, h => by simp at h
 | y :: ys, n, 0, u, h => by
  simp only [List.getElem?_cons_zero, Option.some.injEq] at h
  subst h
  refine ⟨[], bR f s (n + 1) ys, by simp, rfl, fun r s' => ?_⟩
  rw [List.set_cons_zero, bR, Nat.add_zero, ra]
  have e := ju (f := f) (s := fM s n s') (t := s) ys (n + 1) (n + 1) fun k _ => kg (i := n) (j := n + 1 + k) _ _ (by omega)
  rw [e]; rfl
 | y :: ys, n, i + 1, u, h => by
  simp only [List.getElem?_cons_succ] at h
  obtain ⟨A, B, h1, h2, h3⟩ := oK (s := s) hf (n := n + 1) h
  refine ⟨f y (s n) ++ A, B, by rw [List.length_append, hf, h1, Nat.succ_mul, Nat.add_comm], ?_, fun r s' => ?_⟩
  ·rw [bR, h2, show n + 1 + i = n + (i + 1) by omega, List.append_assoc]
  ·have := h3 r s'
   rw [show n + 1 + i = n + (i + 1) by omega] at this
   rw [List.set_cons_succ, bR, this, kg _ _ (by omega), List.append_assoc]
theorem Sat.wI {P : Program} (hS : Sat w0 T H (bL m e f A xs :: G) Φ w) (hf : ∀ x s, (f x s).length = m) {i off : Nat} {u : α} (hi : xs[i]? = some u) (r : α) (s' : σ) (vs : List Value) (h1 : ∀ v ∈ vs, v.oneCell' = true)
  (hr : f r s' = (f u (A.s i)).take off ++ vs ++ (f u (A.s i)).drop (off + vs.length)) (hoff : off + vs.length ≤ m) {b o' : Nat} (hA : A.a = some (b, o')) :
  ∃ w', (storeCells ⟨b, o' + (i * m + off), none⟩ vs 0).run P w = .ok () w' ∧ Sat w0 T H (bL m e f (A.iL i s') (xs.set i r) :: G) Φ w' := by
 have hi' : i < xs.length := (List.getElem?_eq_some_iff.1 hi).1
 obtain ⟨hz, hown⟩ := hS.yv
 obtain ⟨hl, h2⟩ := hown
 rcases h2 with ⟨h3, h4⟩ | ⟨g, cap, cur, h3, _, hg, hn, hcm, hs, ht⟩
 ·omega
 ·have h3' := h3
  simp only [ae, Value.slice.injEq, true_and] at h3
  obtain ⟨h5, h6⟩ := h3
  have h7 : g = b ∧ o' = 0 := by
   rw [lW hA] at h5
   simp only [Option.some.injEq, Addr.mk.injEq, and_true] at h5
   exact ⟨h5.1.symm, h5.2⟩
  obtain ⟨rfl, rfl⟩ := h7
  have him : i * m + m ≤ xs.length * m := by rw [← Nat.succ_mul]; exact Nat.mul_le_mul_right _ hi'
  have hxc : xs.length * m ≤ cap * m := Nat.mul_le_mul_right _ hn
  have hfit : (i * m + off) + 0 + vs.length ≤ cur.size := by rw [hs]; omega
  have hrun := run_storeCells_at P g (i * m + off) e vs 0 cur w hg hfit h1
  obtain ⟨X, Y, p1, p2, p3⟩ := oK (s := A.s) hf (n := 0) hi
  simp only [Nat.zero_add] at p2 p3
  refine ⟨_, by rw [Nat.zero_add]; exact hrun, hS.qs (A' := A.iL i s') (xs' := xs.set i r) hz ?_ ?_ ?_⟩
  ·rw [List.length_set]
   refine ⟨by rw [ep hf, List.length_set], .inr ⟨g, cap, _, h3', Nat.zero_le _, setRow_heap w g cur _ e _ hg, hn, hcm, ?_, ?_⟩⟩
   ·simp only [List.size_toArray, List.length_append, List.length_take, List.length_drop, Array.length_toList]
    omega
   ·show _ = bR f (fM A.s i s') 0 (xs.set i r)
    rw [p3, hr]
    have hcur : cur.toList = X ++ (f u (A.s i) ++ Y) ++ cur.toList.drop (xs.length * m) := by rw [← p2, ← ht, List.take_append_drop]
    have hfl := hf u (A.s i)
    have hYl : (X ++ (f u (A.s i) ++ Y)).length = xs.length * m := by rw [← p2]; exact ep hf xs 0
    generalize cur.toList.drop (xs.length * m) = Z at hcur
    simp only [Nat.add_zero]
    rw [hcur]
    have e1 : (X ++ (f u (A.s i) ++ Y) ++ Z).take (i * m + off) = X ++ (f u (A.s i)).take off := by
     rw [List.append_assoc, List.take_append, p1, List.take_of_length_le (by omega), Nat.add_sub_cancel_left, List.append_assoc, List.take_append_of_le_length (by omega)]
    have e2 : (X ++ (f u (A.s i) ++ Y) ++ Z).drop (i * m + off + vs.length) = (f u (A.s i)).drop (off + vs.length) ++ (Y ++ Z) := by
     rw [List.append_assoc, List.drop_append, p1, List.drop_eq_nil_of_le (by omega), List.nil_append, List.append_assoc, List.drop_append, show i * m + off + vs.length - i * m = off + vs.length by omega, hfl, show off + vs.length - m = 0 by omega, List.drop_zero]
    rw [e1, e2]
    have e3 : (X ++ List.take off (f u (A.s i)) ++ vs ++ ((f u (A.s i)).drop (off + vs.length) ++ (Y ++ Z))) = (X ++ (List.take off (f u (A.s i)) ++ vs ++ (f u (A.s i)).drop (off + vs.length) ++ Y)) ++ Z := by simp only [List.append_assoc]
    rw [e3]
    have e4 : xs.length * m = (X ++ (List.take off (f u (A.s i)) ++ vs ++ (f u (A.s i)).drop (off + vs.length) ++ Y)).length := by
     rw [← hYl]
     simp only [List.length_append, List.length_take, List.length_drop]
     omega
    rw [e4]
    exact List.take_left
  ·rw [h3']
   exact ⟨rfl, rfl, rfl, by simp, fun k _ hk => setRow_other w g k _ (fun e => hk (by simp [Value.ownBlock, e]))⟩
  ·rw [List.length_set]
   exact .inl rfl
theorem jj.wI {s : Nat → σ} {w : World} (h : jj K s 0 xs w) {i : Nat} {r : α} {s' : σ} (hr : K r s' w) : jj K (fM s i s') 0 (xs.set i r) w := jj.of fun k x hx => by
 rw [Nat.zero_add]
 by_cases e : k = i
 ·subst e
  rw [ra]
  rw [List.getElem?_set_self'] at hx
  cases hk : xs[k]? with
  | none => rw [hk] at hx; cases hx
  | some y => rw [hk] at hx; obtain rfl := oI hx; exact hr
 ·rw [kg _ _ e]
  rw [List.getElem?_set_ne (by omega)] at hx
  have := h.get hx
  rwa [Nat.zero_add] at this
end
section
variable {P : Program} {fn : Func} {R : Ending → World → Prop} {k : List KI} {N : Nat} {ops : Array Oper} {Q : Exit → Act → World → Prop} {l : List Oper} {L L' : Env} {w0 : World} {T : cD} {H : bw} {G G' F Γ Φ : List Pr} {o : Oper} {α σ : Type} {ty : TypeId} {pos : String} {af : Array Edge} {g : Option (Nat × Bool)} {t : TypeId} {x y : Operand}
theorem WP.uS {L1 : Env} {H' : bw} (ks : List Nat) (h1 : fL ks L = L1) (hL : L1 = L') (hH : H = H') (h : WP P fn R N k L' (Sat w0 T H' G Φ)) : WP P fn R N k L (Sat w0 T H G Φ) := by
 subst hH; subst hL; subst h1; exact WP.rs ks h
theorem WL.wI {m e n off : Nat} {f : α → σ → List Value} {K : α → σ → Pr} {A : av σ} {xs : List α} {i : Int} {u r : α} {s' : σ} {v : Value} (j : Nat) (is : List Nat) {Ψ : List Pr} (hsz : ∀ w, (Go.sizeOf t).run P w = .ok n w) (hk : known L x = true) (hk' : known L y = true) (hx : cE L x = dM A (i.toNat * m + off)) (hy : cE L y = v)
  (hn : v.cells.size = n) (hv : v.cells.toList.all Value.oneCell' = true) (hr : f r s' = (f u (A.s i.toNat)).take off ++ v.cells.toList ++ (f u (A.s i.toNat)).drop (off + v.cells.toList.length)) (hoff : Nat.ble (off + v.cells.toList.length) m = true) (hu : cI xs.length xs i = some u) (hG : G[j]? = some (bL m e f A xs)) (hG' : G.eraseIdx j = G') (hf : ∀ x s, (f x s).length = m) (hin : bC K A xs ∈ F ++ Γ)
  (eΨ : eY is F = Ψ) (hK : ∀ w : World, K u (A.s i.toNat) w → (∀ ψ ∈ Ψ, ψ w) → K r s' w)
  (hg : cu ops L ⟨none, .store t x y, ty, pos, af, g⟩ = some true) (h : WL P N ops Q l L (Sat w0 T H (bL m e f (A.iL i.toNat s') (xs.set i.toNat r) :: G') ((bC K (A.iL i.toNat s') (xs.set i.toNat r) :: F) ++ Γ))) : WL P N ops Q (⟨none, .store t x y, ty, pos, af, g⟩ :: l) L (Sat w0 T H G (F ++ Γ)) := fun a w hh hS => by
 subst hG'
 have hget := (bg hu).2
 have hlt : i.toNat < xs.length := (List.getElem?_eq_some_iff.1 hget).1
 have hS1 := hS.jU (iG hG)
 have hR : eU m f K A xs w := hS1.yv.row hf (hS.fact hin)
 obtain ⟨b, o, hA⟩ := nR hR hu
 unfold wpList
 rw [cM hh hg, if_pos rfl]
 refine .inl ?_
 unfold Oper.wp
 rw [hh.exec (by simp [Op.operands, cA, hk, hk'])]
 obtain ⟨w', hrun, hS'⟩ := hS1.wI (P := P) hf hget r s' v.cells.toList (List.all_eq_true.1 hv) hr (nB hoff) hA
 rw [lH hA] at hx
 have : (execOp (cE L) ⟨none, .store t x y, ty, pos, af, g⟩).run P w = .ok .skip w' := by
  simp [execOp, hx, hy, Instr.storeAt, Instr.sureAddr, storeVar, hsz, hn, hrun]
 rw [this]
 refine h a _ hh (hS'.derive (bC K A xs :: Ψ) (fun ψ hψ => ?_) fun w2 hψ => ?_)
 ·rcases List.mem_cons.1 hψ with rfl | hψ
  ·exact hin
  ·exact fX is eΨ ψ hψ
 ·have a1 := hψ (bC K A xs) (List.mem_cons_self ..)
  have a2 := jj.get a1 hget
  rw [Nat.zero_add] at a2
  exact jj.wI a1 (hK w2 a2 fun ψ hm => hψ ψ (List.mem_cons_of_mem _ hm))
end
end Eng
namespace Eng
open Go
def y8 (n c : Nat) (l : Int) : Option Nat := if 0 ≤ l ∧ l.toNat ≤ n ∧ l.toNat < c ∧ n ≤ c then some (n - l.toNat) else none
def y9 (c : Nat) (h : Int) : Option Nat := if 0 ≤ h ∧ h.toNat ≤ c then some h.toNat else none
def uh {α : Type} (ys : List α) (off n so sn : Nat) : Option (List α) := if off + n ≤ ys.length ∧ so + sn ≤ ys.length then some (ys.take off ++ ((ys.drop so).take (min sn n) ++ ys.drop (off + min sn n))) else none
def ug {α : Type} (ys : List α) (off n : Nat) (xs : List α) : Option (List α) := if off + n ≤ ys.length then some (ys.take off ++ (xs.take (min xs.length n) ++ ys.drop (off + min xs.length n))) else none
section
variable {P : Program} {ρ : Operand → Value} {w : World} {dst : Option Tmp} {ty : TypeId} {pos : String} {af : Array Edge} {g : Option (Nat × Bool)} {t : TypeId} {x lo hi : Operand}
theorem wN {b o n c n' : Nat} {k : IntKind} {l : Int} {e m : Nat} (ht : P.underlying t = some (.slice e)) (hsz : (P.info? e).map (·.size) = some m) (hn : y8 n c l = some n') (hx : ρ x = .slice (some ⟨b, o, none⟩) n c) (hl : ρ lo = .int k l) :
  (execOp ρ ⟨dst, .slice t x (some lo) none none, ty, pos, af, g⟩).run P w = .ok (.value (.slice (some ⟨b, o + l.toNat * m, none⟩) n' (c - l.toNat))) w := by
 unfold y8 at hn
 split at hn
 ·rename_i h
  obtain rfl := oI hn
  have hr : gK (List.replicate n ()) l ((List.replicate n ()).length : Int) = some (((List.replicate n ()).drop l.toNat).take ((((List.replicate n ()).length : Int)).toNat - l.toNat)) := by
   unfold gK
   rw [if_pos]
   simp only [List.length_replicate]
   omega
  have h1 := lh (P := P) (w := w) (A := (⟨some (b, o), c, fun _ => (), none⟩ : av Unit)) ht hsz ⟨fun e => by (cases e), by simpa using h.2.2.2⟩ hr (some (.int k l)) none ⟨k, rfl⟩ rfl
  have e1 : ae (⟨some (b, o), c, fun _ => (), none⟩ : av Unit) (List.replicate n ()).length = .slice (some ⟨b, o, none⟩) n c := by simp [ae, av.addr]
  rw [e1] at h1
  have e2 : ae ((⟨some (b, o), c, fun _ => (), none⟩ : av Unit).cut l.toNat m) (((List.replicate n ()).drop l.toNat).take ((((List.replicate n ()).length : Int)).toNat - l.toNat)).length = .slice (some ⟨b, o + l.toNat * m, none⟩) (n - l.toNat) (c - l.toNat) := by
   have hne : c ≠ l.toNat := by omega
   simp only [ae, av.addr, av.cut, if_neg hne, List.length_take, List.length_drop, List.length_replicate]
   congr 1
   omega
  rw [e2] at h1
  simp only [execOp, hx, hl, Option.map_some, Option.map_none]
  rw [Sem.ao h1]; rfl
 ·cases hn
theorem wO {b o n c n' : Nat} {k : IntKind} {h : Int} {e m : Nat} (ht : P.underlying t = some (.slice e)) (hsz : (P.info? e).map (·.size) = some m) (hn : y9 c h = some n') (hx : ρ x = .slice (some ⟨b, o, none⟩) n c) (hh : ρ hi = .int k h) :
  (execOp ρ ⟨dst, .slice t x none (some hi) none, ty, pos, af, g⟩).run P w = .ok (.value (.slice (some ⟨b, o, none⟩) n' c)) w := by
 unfold y9 at hn
 split at hn
 ·rename_i hb
  obtain rfl := oI hn
  obtain ⟨inf, hi', hm⟩ := Option.map_eq_some_iff.1 hsz
  have e1 : (Instr.sliceBound (.int k h) c .sliceAcap).run P w = .ok h.toNat w := cr ⟨by omega, by omega⟩
  have hbounds : (Instr.sliceBounds true n c none (some (.int k h)) none).run P w = .ok (0, h.toNat, c) w := by
   unfold Instr.sliceBounds
   simp_all [Sem.run_bind]
  have h1 : (Instr.sliceAt t (.slice (some ⟨b, o, none⟩) n c) none (some (.int k h)) none).run P w = .ok (.slice (some ⟨b, o, none⟩) h.toNat c) w := by
   unfold Instr.sliceAt
   rw [Sem.ao (fo ht)]
   simp only
   unfold Instr.slice
   rw [Sem.ao (fo ht)]
   simp only
   rw [Sem.ao hbounds]
   simp only
   rw [Sem.ao (bH hi')]
   simp [dy]
  simp only [execOp, hx, hh, Option.map_some, Option.map_none]
  rw [Sem.ao h1]; rfl
 ·cases hn
end
theorem pR {α : Type} {f : α → List Value} (hf : ∀ x, (f x).length = 1) : ∀ xs : List α, (xs.flatMap f).length = xs.length
 | [] => rfl
 | x :: r => by rw [List.flatMap_cons, List.length_append, hf, pR hf r, List.length_cons]; omega
theorem lG {α : Type} {f : α → List Value} (hf : ∀ x, (f x).length = 1) : ∀ (xs : List α) (n : Nat), (xs.take n).flatMap f = (xs.flatMap f).take n
 | [], n => by simp
 | x :: r, 0 => by simp
 | x :: r, n + 1 => by
  rw [List.take_succ_cons, List.flatMap_cons, List.flatMap_cons, lG hf r n, List.take_append, hf, show (f x).take (n + 1) = f x from List.take_of_length_le (by rw [hf]; omega), Nat.add_sub_cancel]
theorem nS {α : Type} {f : α → List Value} (hf : ∀ x, (f x).length = 1) : ∀ (xs : List α) (n : Nat), (xs.drop n).flatMap f = (xs.flatMap f).drop n
 | [], n => by simp
 | x :: r, 0 => by simp
 | x :: r, n + 1 => by
  rw [List.drop_succ_cons, List.flatMap_cons, nS hf r n, List.drop_append, hf, show (f x).drop (n + 1) = [] from List.drop_eq_nil_of_le (by rw [hf]; omega), Nat.add_sub_cancel, List.nil_append]
section
variable {P : Program} {N : Nat} {ops : Array Oper} {Q : Exit → Act → World → Prop} {l : List Oper} {L L' : Env} {w0 : World} {T : cD} {H H' : bw} {G Φ : List Pr} {o : Oper} {α : Type} {f : α → List Value} {s x : Operand} {t : TypeId}
theorem pP {ρ : Operand → Value} {w w' : World} {t' : TypeId} {v : Value} (ho : o.op = .call { callee := .builtin .copy, args := #[s, x], argTypes := #[t, t'] })
  (hr : (Builtin.copy_ #[t, t'] o.type #[ρ s, ρ x]).run P w = .ok v w') : (execOp ρ o).run P w = .ok (.value v) w' := by
 unfold execOp
 simp only [ho, resolve, invoke, builtin, Sem.run_bind, Sem.run_pure, Result.andThen_ok, List.map_toArray, List.map_cons, List.map_nil, hr]
theorem WL.copyV {b off n c sn sc e d : Nat} {ad : Option Addr} {ys zs : List α} (j : Nat) (ho : o.op = .call { callee := .builtin .copy, args := #[s, x], argTypes := #[t, t] }) (hd : o.dst = some d) (hdN : Nat.blt d N = true) (ht : P.underlying t = some (.slice e)) (hs : (P.info? e).map (·.size) = some 1)
  (hf : ∀ x, (f x).length = 1) (h1 : ∀ x, (f x).all Value.oneCell' = true) (hk : (o.op.operands.all (known L) && !cA o.op) = true) (hx : cE L s = .slice (some ⟨b, off, none⟩) n c) (hy : cE L x = .slice ad sn sc)
  (hj : H[j]? = some (b, .cells (dU f ys) e (0, 0))) (hz : zs.length = Nat.min sn n) (hfit : off + n ≤ ys.length)
  (hsrc : ∀ w, Sat w0 T H G Φ w → zs ≠ [] → ∃ a, ad = some a ∧ ∀ (j : Nat) v, (zs.flatMap f)[j]? = some v → w.cell? (a.add j) = some v) (hg : cu ops L o = some true)
  (h : WL P N ops Q l ((d, .int .i64 (zs.length : Int)) :: L) (Sat w0 T (H.set j (b, .cells (dU f (ys.take off ++ (zs ++ ys.drop (off + zs.length)))) e (0, 0))) G Φ)) : WL P N ops Q (o :: l) L (Sat w0 T H G Φ) := by
 refine WL.op (X := Unit) (fun _ => .int .i64 (zs.length : Int)) (fun _ => Sat w0 T (H.set j (b, .cells (dU f (ys.take off ++ (zs ++ ys.drop (off + zs.length)))) e (0, 0))) G Φ) (fun _ => (d, .int .i64 (zs.length : Int)) :: L) hg hk (fun w hS => ?_) (fun _ => ?_) fun _ => h
 ·have hb := hS.get hj
  by_cases hzs : zs = []
  ·subst hzs
   have hr := run_copy_none (P := P) w t t o.type e (some ⟨b, off, none⟩) ad n c sn sc ht hs (by simpa using hz.symm)
   refine ⟨(), w, pP ho (by rw [hx, hy]; exact hr), ?_⟩
   have e1 : H.set j (b, .cells (dU f (ys.take off ++ ([] ++ ys.drop (off + ([] : List α).length)))) e (0, 0)) = H := by
    have : ys.take off ++ ([] ++ ys.drop (off + ([] : List α).length)) = ys := by simp
    rw [this]
    exact List.ext_getElem? fun i => by
     rw [List.getElem?_set]
     split
     ·rename_i hij
      subst hij
      split
      ·exact hj.symm
      ·rename_i h2; rw [List.getElem?_eq_none (by omega)] at hj; cases hj
     ·rfl
   rw [e1]; exact hS
  ·obtain ⟨a, rfl, hcell⟩ := hsrc w hS hzs
   have hfz := pR hf zs
   have hsz : (dU f ys).size = ys.length := by rw [dU, List.size_toArray, pR hf]
   have hzn : zs.length ≤ n := hz ▸ Nat.min_le_right _ _
   have hr := run_copy_row (P := P) w t t o.type e b off n c a sn sc (dU f ys) e (zs.flatMap f) ht hs hb (by rw [hfz, hz]) hcell (by rw [hfz, hsz]; omega) (fun v hv => by
    obtain ⟨z, _, hm⟩ := List.mem_flatMap.1 hv
    exact List.all_eq_true.1 (h1 z) v hm)
   refine ⟨(), _, pP ho (by rw [hx, hy]; exact hr.trans (by rw [hfz]; rfl)), ?_⟩
   have e1 : ((dU f ys).toList.take off ++ zs.flatMap f ++ (dU f ys).toList.drop (off + zs.length)).toArray = dU f (ys.take off ++ (zs ++ ys.drop (off + zs.length))) := by
    simp only [dU, List.flatMap_append, lG hf, nS hf, List.append_assoc]
   rw [e1]
   exact hS.iL hj rfl rfl rfl (by simp) (setRow_heap w b _ _ e _ hb) fun k hk => setRow_other w b k _ hk
 ·unfold dV; rw [hd]; simp only [hdN]
theorem WL.ug {σ : Type} {b off n c e d : Nat} {ys zs xs : List α} {K : α → σ → Pr} {A : av σ} (j : Nat) (ho : o.op = .call { callee := .builtin .copy, args := #[s, x], argTypes := #[t, t] }) (hd : o.dst = some d) (hdN : Nat.blt d N = true) (ht : P.underlying t = some (.slice e)) (hs : (P.info? e).map (·.size) = some 1)
  (hf : ∀ x, (f x).length = 1) (h1 : ∀ x, (f x).all Value.oneCell' = true) (hk : (o.op.operands.all (known L) && !cA o.op) = true) (hx : cE L s = .slice (some ⟨b, off, none⟩) n c) (hy : cE L x = ae A xs.length)
  (hj : H[j]? = some (b, .cells (dU f ys) e (0, 0))) (hΦ : Row 1 (fun x (_ : σ) => f x) K A xs ∈ Φ) (hz : Eng.ug ys off n xs = some zs) (hg : cu ops L o = some true)
  (h : WL P N ops Q l ((d, .int .i64 (min xs.length n : Int)) :: L) (Sat w0 T (H.set j (b, .cells (dU f zs) e (0, 0))) G Φ)) : WL P N ops Q (o :: l) L (Sat w0 T H G Φ) := by
 unfold Eng.ug at hz
 split at hz
 ·rename_i hfit
  obtain rfl := oI hz
  have hl : (xs.take (min xs.length n)).length = min xs.length n := by rw [List.length_take]; omega
  refine WL.copyV (c := c) (sn := xs.length) (sc := A.c) (ad := A.addr) (zs := xs.take (min xs.length n)) j ho hd hdN ht hs hf h1 hk hx (hy.trans rfl) hj hl hfit (fun w hS hne => ?_) hg ?_
  ·have hR : eU 1 (fun x (_ : σ) => f x) K A xs w := hS.fact hΦ
   cases ha : A.a with
   | none => rw [(hR.nil ha).1] at hne; simp at hne
   | some p =>
    obtain ⟨b', o'⟩ := p
    refine ⟨_, lW ha, fun i v hv => ?_⟩
    have hfl := hR.flat (fun _ _ => hf _) ha
    refine hfl i v ?_
    have e1 : ∀ (s : Nat → σ) (n : Nat) (xs : List α), bR (fun x (_ : σ) => f x) s n xs = xs.flatMap f := fun s n xs => by
     induction xs generalizing n with
     | nil => rfl
     | cons x r ih => rw [bR, ih, List.flatMap_cons]
    rw [e1]
    rw [lG hf, List.getElem?_take] at hv
    split at hv
    ·exact hv
    ·cases hv
  ·rw [hl]
   have e2 : ((min xs.length n : Nat) : Int) = (min xs.length n : Int) := by omega
   rw [e2]
   exact h
 ·cases hz
theorem WL.uh {b off so n c sn sc e d : Nat} {ys zs : List α} (j : Nat) (ho : o.op = .call { callee := .builtin .copy, args := #[s, x], argTypes := #[t, t] }) (hd : o.dst = some d) (hdN : Nat.blt d N = true) (ht : P.underlying t = some (.slice e)) (hs : (P.info? e).map (·.size) = some 1)
  (hf : ∀ x, (f x).length = 1) (h1 : ∀ x, (f x).all Value.oneCell' = true) (hk : (o.op.operands.all (known L) && !cA o.op) = true) (hx : cE L s = .slice (some ⟨b, off, none⟩) n c) (hy : cE L x = .slice (some ⟨b, so, none⟩) sn sc)
  (hj : H[j]? = some (b, .cells (dU f ys) e (0, 0))) (hz : Eng.uh ys off n so sn = some zs) (hg : cu ops L o = some true)
  (h : WL P N ops Q l ((d, .int .i64 (min sn n : Int)) :: L) (Sat w0 T (H.set j (b, .cells (dU f zs) e (0, 0))) G Φ)) : WL P N ops Q (o :: l) L (Sat w0 T H G Φ) := by
 unfold Eng.uh at hz
 split at hz
 ·rename_i hfit
  obtain rfl := oI hz
  have hl : ((ys.drop so).take (min sn n)).length = min sn n := by rw [List.length_take, List.length_drop]; omega
  refine WL.copyV (c := c) (sn := sn) (sc := sc) (ad := some ⟨b, so, none⟩) (zs := (ys.drop so).take (min sn n)) j ho hd hdN ht hs hf h1 hk hx hy hj hl hfit.1 (fun w hS hne => ⟨_, rfl, fun i v hv => ?_⟩) hg ?_
  ·rw [lG hf, List.getElem?_take] at hv
   split at hv
   ·rw [nS hf, List.getElem?_drop] at hv
    rw [dy]
    refine cell_of (a := ⟨b, so + i, none⟩) (hS.get hj) rfl rfl ?_
    show ((ys.flatMap f).toArray)[so + i]? = some v
    rw [List.getElem?_toArray]
    exact hv
   ·cases hv
  ·rw [hl]
   have e2 : ((min sn n : Nat) : Int) = (min sn n : Int) := by omega
   rw [e2]
   exact h
 ·cases hz
end
def yK {α : Type} (xs : List α) (n c : Nat) : Option Unit := if xs.length = n ∧ n ≤ c then some () else none
theorem tY {α : Type} (f : α → List Value) (s : Nat → Unit) : ∀ (xs : List α) (n : Nat), bR (pl f) s n xs = xs.flatMap f
 | [], _ => rfl
 | x :: r, n => by rw [bR, tY f s r (n + 1), List.flatMap_cons]; rfl
section
variable {P : Program} {fn : Func} {R : Ending → World → Prop} {N : Nat} {k : List KI} {L L' : Env} {w0 : World} {T : cD} {H H' : bw} {G F Γ : List Pr} {α : Type}
theorem WP.B6 {b n c e m : Nat} {f : α → List Value} {xs : List α} {u : Unit} {L1 : Env} (j : Nat) (ks : List Nat) (hl : yK xs n c = some u) (hj : H[j]? = some (b, .cells (dU f xs) e (0, 0))) (hf : ∀ x, (f x).length = m) (hH : H.eraseIdx j = H') (h1 : fL ks L = L1)
  (h2 : ae (av.at b c (fun _ => ())) xs.length = .slice (some ⟨b, 0, none⟩) n c → L1 = L') (h : WP P fn R N k L' (Sat w0 T H' G ((Row m (pl f) aA (av.at b c (fun _ => ())) xs :: F) ++ Γ))) : WP P fn R N k L (Sat w0 T H G (F ++ Γ)) := by
 unfold yK at hl
 split at hl
 ·rename_i hb
  have e1 := h2 (by rw [hb.1]; rfl)
  subst e1; subst h1
  refine WP.rs ks (WP.tW (H' := H') _ j hj [] [] rfl (fun w hw _ => ?_) hH h)
  refine cl (s := fun _ => ()) hw (fun x _ => hf x) ⟨[], ?_⟩ (by omega) (jj.no _ _)
  rw [tY, List.append_nil]; rfl
 ·cases hl
end
end Eng