/- A general engine for walks through Go programs in the given model: no statement of the program stands here; what is shown holds without conditions. -/
import Derived.WalkKit
import Derived.KernelRfl
import Derived.Deep.Quiet
import Derived.RangeFuncLeaves
import Derived.RangeFuncCalls
import Derived.TacticsIn
import Derived.Laws.StructEq
import Derived.Stop.Asserts
import Derived.StillTail
import Derived.Laws.AppendOwn

set_option linter.unusedVariables false
set_option linter.unusedSimpArgs false
set_option linter.unusedSectionVars false
namespace Eng
theorem bS {α β : Type _} (a : α) (f : α → Option β) : (some a).bind f = f a := rfl
theorem oI {α : Type _} {a b : α} (h : some a = some b) : a = b := Option.some.inj h
theorem cdF {α : Type _} (a b : α) : (bif false then a else b) = b := rfl
theorem cdT {α : Type _} (a b : α) : (bif true then a else b) = a := rfl
theorem nB {n m : Nat} (h : Nat.ble n m = true) : n ≤ m := Nat.le_of_ble_eq_true h
theorem nE {n m : Nat} (h : Nat.beq n m = true) : n = m := Nat.eq_of_beq_eq_true h
open Go
abbrev Env := List (Nat × Value)
abbrev bw := List (Nat × Obj)
abbrev Pr := World → Prop
def look : Env → Nat → Option Value
 | [], _ => none
 | (k, v) :: r, t => match Nat.beq k t with | true => some v | false => look r t
structure Has (N : Nat) (a : Act) (L : Env) : Prop where
 size : a.tmps.size = N
 defers : a.defers = []
 has : ∀ t v, look L t = some v → a.tmps[t]? = some v
theorem Has.put {N : Nat} {a : Act} {L : Env} (h : Has N a L) {d : Nat} (hd : d < N) (v : Value) : Has N (a.put (some d) v) ((d, v) :: L) := by
 refine ⟨by simp [Act.put, h.size], by simp [Act.put, h.defers], fun t u ht => ?_⟩
 simp only [look] at ht
 by_cases e : d = t
 ·subst e
  have : Nat.beq d d = true := Nat.beq_refl d
  simp only [this] at ht
  obtain rfl := oI ht
  simp [Act.put, Array.getElem?_setIfInBounds, h.size, hd]
 ·have : Nat.beq d t = false := by
   rw [Bool.eq_false_iff]; intro hh; exact e (nE hh)
  simp only [this] at ht
  have := h.has t u ht
  simp [Act.put, Array.getElem?_setIfInBounds, e, this]
def fL (ks : List Nat) (L : Env) : Env := ks.filterMap fun t => (look L t).map fun v => (t, v)
theorem ku {L : Env} {t : Nat} {v : Value} : ∀ {ks : List Nat}, look (fL ks L) t = some v → look L t = some v
 | [], h => by simp [fL, look] at h
 | k :: ks, h => by
  unfold fL at h
  rw [List.filterMap_cons] at h
  cases hk : look L k with
  | none => simp only [hk, Option.map_none] at h; exact ku (ks := ks) h
  | some u =>
   simp only [hk, Option.map_some] at h
   simp only [look] at h
   by_cases e : k = t
   ·subst e
    have : Nat.beq k k = true := Nat.beq_refl k
    simp only [this] at h
    rw [hk]; exact h
   ·have : Nat.beq k t = false := by
     rw [Bool.eq_false_iff]; intro hh; exact e (nE hh)
    simp only [this] at h
    exact ku (ks := ks) h
theorem Has.fL {N : Nat} {a : Act} {L : Env} (h : Has N a L) (ks : List Nat) : Has N a (fL ks L) := ⟨h.size, h.defers, fun t v ht => h.has t v (ku ht)⟩
def cE (L : Env) : Operand → Value
 | .tmp t => (look L t).getD undef
 | .const v => v
 | .global g => .pointer (some ⟨g, 0, none⟩)
 | .func f => .func (.func f) #[] #[]
def known (L : Env) : Operand → Bool
 | .tmp t => (look L t).isSome
 | _ => true
theorem Has.eval {N : Nat} {a : Act} {L : Env} (h : Has N a L) {x : Operand} (hx : known L x = true) : a.eval x = cE L x := by
 cases x with
 | tmp t =>
  simp only [known, Option.isSome_iff_exists] at hx
  obtain ⟨v, hv⟩ := hx
  have := h.has t v hv
  simp [Act.eval, cE, hv, this, Array.getD_eq_getD_getElem?]
 | const v => rfl
 | global g => rfl
 | func f => rfl
structure Loc (F : List Nat) (φ : Pr) (w : World) : Prop where
 now : φ w
 lt : ∀ k ∈ F, k < w.heap.size
 stays : ∀ w' : World, (∀ k ∈ F, w'.heap[k]? = w.heap[k]?) → φ w'
theorem Loc.mono {F : List Nat} {φ : Pr} {w w' : World} (h : Loc F φ w) (hs : w.heap.size ≤ w'.heap.size) (hk : ∀ k ∈ F, w'.heap[k]? = w.heap[k]?) : Loc F φ w' :=
 ⟨h.stays w' hk, fun k hkF => Nat.lt_of_lt_of_le (h.lt k hkF) hs, fun w'' h'' => h.stays w'' fun k hkF => (h'' k hkF).trans (hk k hkF)⟩
structure cD where
 t : List Nat
 a : Nat → Prop
def keys (H : bw) : List Nat := H.map (·.1)
def GS : List (List Nat) → List Pr → World → Prop
 | [], [], _ => True
 | F :: Fs, g :: gs, w => Loc F g w ∧ GS Fs gs w
 | _, _, _ => False
structure Own (w0 : World) (T : cD) (H : bw) (G Φ : List Pr) (w : World) (Fs : List (List Nat)) : Prop where
 nd : (keys H ++ Fs.flatten).Nodup
 dG : ∀ k ∈ keys H ++ Fs.flatten, (k ∈ T.t ∨ w0.heap.size ≤ k) ∧ k < w.heap.size
 has : ∀ p ∈ H, w.heap[p.1]? = some p.2
 g : GS Fs G w
 ro : ∀ φ ∈ Φ, ∃ F, Loc F φ w ∧ (∀ k ∈ F, k ∉ keys H ++ Fs.flatten) ∧ ∀ k ∈ F, T.a k ∨ k ∈ T.t ∨ w0.heap.size ≤ k
structure Sat (w0 : World) (T : cD) (H : bw) (G Φ : List Pr) (w : World) : Prop where
 os : w.os = w0.os
 tape : w.tape = w0.tape
 output : w.output = w0.output
 size : w0.heap.size ≤ w.heap.size
 frame : ∀ k, k < w0.heap.size → k ∉ T.t → w.heap[k]? = w0.heap[k]?
 own : ∃ Fs, Own w0 T H G Φ w Fs
theorem GS.mono {w w' : World} (hs : w.heap.size ≤ w'.heap.size) : ∀ {Fs : List (List Nat)} {G : List Pr}, (∀ k ∈ Fs.flatten, w'.heap[k]? = w.heap[k]?) → GS Fs G w → GS Fs G w'
 | [], [], _, _ => trivial
 | F :: Fs, g :: gs, hk, h => ⟨h.1.mono hs fun k hkF => hk k (by simp [hkF]), GS.mono hs (fun k hkF => hk k (by simp only [List.flatten_cons, List.mem_append]; exact .inr hkF)) h.2⟩
 | [], _ :: _, _, h => h.elim
 | _ :: _, [], _, h => h.elim
theorem Sat.xr {w0 w w' : World} {T : cD} {H : bw} {G Φ : List Pr} (h : Sat w0 T H G Φ w) (ho : w'.os = w.os) (ht : w'.tape = w.tape) (hp : w'.output = w.output)
  (hs : w.heap.size ≤ w'.heap.size) (hk : ∀ k, k < w.heap.size → w'.heap[k]? = w.heap[k]?) : Sat w0 T H G Φ w' := by
 obtain ⟨Fs, o⟩ := h.own
 refine ⟨ho.trans h.os, ht.trans h.tape, hp.trans h.output, Nat.le_trans h.size hs, fun k hk0 hT => (hk k (Nat.lt_of_lt_of_le hk0 h.size)).trans (h.frame k hk0 hT), Fs, o.nd, fun k hm => ⟨(o.dG k hm).1, Nat.lt_of_lt_of_le (o.dG k hm).2 hs⟩, fun p hpH => ?_, ?_, fun φ hφ => ?_⟩
 ·rw [hk p.1 (o.dG p.1 (by simp only [keys, List.mem_append, List.mem_map]; exact .inl ⟨p, hpH, rfl⟩)).2]; exact o.has p hpH
 ·exact o.g.mono hs fun k hm => hk k (o.dG k (by simp only [List.mem_append]; exact .inr hm)).2
 ·obtain ⟨F, hl, hn, ha⟩ := o.ro φ hφ
  exact ⟨F, hl.mono hs fun k hkF => hk k (hl.lt k hkF), hn, ha⟩
theorem heap_alloc (w : World) (o : Obj) (k : Nat) (h : k < w.heap.size) : (w.heap.push o)[k]? = w.heap[k]? := by
 rw [Array.getElem?_push, if_neg (by omega)]
theorem Sat.drew {w0 w : World} {T : cD} {H : bw} {G Φ : List Pr} (h : Sat w0 T H G Φ w) : Sat w0 T H G Φ { w with drawn := w.drawn + 1 } :=
 h.xr rfl rfl rfl (Nat.le_refl _) fun _ _ => rfl
theorem Sat.alloc {w0 w : World} {T : cD} {H : bw} {G Φ : List Pr} (h : Sat w0 T H G Φ w) (o : Obj) : Sat w0 T (H ++ [(w.heap.size, o)]) G Φ { w with heap := w.heap.push o } := by
 have h' : Sat w0 T H G Φ { w with heap := w.heap.push o } := h.xr rfl rfl rfl (by simp) fun k hk => heap_alloc w o k hk
 obtain ⟨Fs, ow⟩ := h'.own
 obtain ⟨Fs0, ow0⟩ := h.own
 -- the footprints of h' are those of h: take h's own
 have hk : ∀ k, k < w.heap.size → ({ w with heap := w.heap.push o } : World).heap[k]? = w.heap[k]? := fun k hk => heap_alloc w o k hk
 have hs : w.heap.size ≤ ({ w with heap := w.heap.push o } : World).heap.size := by simp
 have e1 : keys (H ++ [(w.heap.size, o)]) = keys H ++ [w.heap.size] := by simp [keys]
 refine ⟨h'.os, h'.tape, h'.output, h'.size, h'.frame, Fs0, ?_, ?_, ?_, ?_, ?_⟩
 ·rw [e1]
  have hnd := ow0.nd
  have hm := ow0.dG
  rw [List.append_assoc]
  rw [List.nodup_append] at hnd ⊢
  refine ⟨hnd.1, ?_, ?_⟩
  ·rw [List.nodup_append]
   refine ⟨by simp, hnd.2.1, fun a ha b hb => ?_⟩
   simp only [List.mem_singleton] at ha
   subst ha
   have := (hm b (by simp only [List.mem_append]; exact .inr hb)).2
   omega
  ·intro a ha b hb
   have hA := (hm a (by simp only [List.mem_append]; exact .inl ha)).2
   rw [List.mem_append] at hb
   rcases hb with hb | hb
   ·simp only [List.mem_singleton] at hb; omega
   ·exact hnd.2.2 a ha b hb
 ·intro k hkm
  rw [e1] at hkm
  simp only [List.mem_append, List.mem_singleton] at hkm
  rcases hkm with (hkm | hkm) | hkm
  ·have := ow0.dG k (by simp only [List.mem_append]; exact .inl hkm); exact ⟨this.1, by simp; omega⟩
  ·subst hkm; exact ⟨.inr h.size, by simp⟩
  ·have := ow0.dG k (by simp only [List.mem_append]; exact .inr hkm); exact ⟨this.1, by simp; omega⟩
 ·intro p hp
  rw [List.mem_append] at hp
  rcases hp with hp | hp
  ·rw [hk p.1 (ow0.dG p.1 (by simp only [keys, List.mem_append, List.mem_map]; exact .inl ⟨p, hp, rfl⟩)).2]; exact ow0.has p hp
  ·simp only [List.mem_singleton] at hp; subst hp; simp
 ·exact ow0.g.mono hs fun k hm => hk k (ow0.dG k (by simp only [List.mem_append]; exact .inr hm)).2
 ·intro φ hφ
  obtain ⟨F, hl, hn, ha⟩ := ow0.ro φ hφ
  refine ⟨F, hl.mono hs fun k hkF => hk k (hl.lt k hkF), fun k hkF hm => ?_, ha⟩
  rw [e1] at hm
  simp only [List.mem_append, List.mem_singleton] at hm
  rcases hm with (hm | hm) | hm
  ·exact hn k hkF (by simp only [List.mem_append]; exact .inl hm)
  ·have := hl.lt k hkF; omega
  ·exact hn k hkF (by simp only [List.mem_append]; exact .inr hm)
theorem tT : ∀ (H : bw) (j : Nat) {b : Nat} {o o' : Obj}, H[j]? = some (b, o) → keys (H.set j (b, o')) = keys H
 | [], _, _, _, _, h => by simp at h
 | (b0, o0) :: H, 0, b, o, o', h => by simp at h; simp [keys, h.1]
 | (b0, o0) :: H, j + 1, b, o, o', h => by
  simp only [List.getElem?_cons_succ] at h
  have := tT H j (o' := o') h
  simpa [keys] using this
theorem mj : ∀ {H : bw} {j : Nat} {p : Nat × Obj} {b : Nat} {o o' : Obj}, (keys H).Nodup → H[j]? = some (b, o) → p ∈ H.set j (b, o') → p = (b, o') ∨ (p ∈ H ∧ p.1 ≠ b)
 | [], _, _, _, _, _, _, h, _ => by simp at h
 | (b0, o0) :: H, 0, p, b, o, o', hn, h, hm => by
  simp at h
  simp only [List.set_cons_zero, List.mem_cons] at hm
  rcases hm with hm | hm
  ·exact .inl hm
  ·refine .inr ⟨List.mem_cons_of_mem _ hm, fun e => ?_⟩
   simp only [keys, List.map_cons, List.nodup_cons, List.mem_map] at hn
   exact hn.1 ⟨p, hm, e.trans h.1.symm⟩
 | (b0, o0) :: H, j + 1, p, b, o, o', hn, h, hm => by
  simp only [List.getElem?_cons_succ] at h
  simp only [List.set_cons_succ, List.mem_cons] at hm
  simp only [keys, List.map_cons, List.nodup_cons] at hn
  rcases hm with hm | hm
  ·subst hm
   refine .inr ⟨by simp, fun e => hn.1 ?_⟩
   rw [List.mem_map]; exact ⟨(b, o), List.mem_of_getElem? h, e.symm⟩
  ·rcases mj (H := H) hn.2 h hm with e | ⟨e, e'⟩
   ·exact .inl e
   ·exact .inr ⟨List.mem_cons_of_mem _ e, e'⟩
theorem Sat.iL {w0 w w' : World} {T : cD} {H : bw} {G Φ : List Pr} {j b : Nat} {o o' : Obj} (h : Sat w0 T H G Φ w) (hj : H[j]? = some (b, o))
  (ho : w'.os = w.os) (ht : w'.tape = w.tape) (hp : w'.output = w.output) (hs : w'.heap.size = w.heap.size) (hb : w'.heap[b]? = some o') (hk : ∀ k, k ≠ b → w'.heap[k]? = w.heap[k]?) :
  Sat w0 T (H.set j (b, o')) G Φ w' := by
 obtain ⟨Fs, ow⟩ := h.own
 have hbm : b ∈ keys H := by rw [keys, List.mem_map]; exact ⟨(b, o), List.mem_of_getElem? hj, rfl⟩
 have hnd := ow.nd
 rw [List.nodup_append] at hnd
 have ek := tT H j (o' := o') hj
 have hm := (ow.dG b (by simp only [List.mem_append]; exact .inl hbm))
 refine ⟨ho.trans h.os, ht.trans h.tape, hp.trans h.output, by rw [hs]; exact h.size, fun k hk0 hT => ?_, Fs, by rw [ek]; exact ow.nd, fun k hkm => by rw [ek] at hkm; rw [hs]; exact ow.dG k hkm, fun p hpm => ?_, ?_, fun φ hφ => ?_⟩
 ·rw [hk k (fun e => ?_)]
  ·exact h.frame k hk0 hT
  ·subst e; rcases hm.1 with h1 | h1
   ·exact hT h1
   ·omega
 ·rcases mj hnd.1 hj hpm with e | ⟨e, e'⟩
  ·subst e; exact hb
  ·rw [hk p.1 e']; exact ow.has p e
 ·exact ow.g.mono (by rw [hs]; exact Nat.le_refl _) fun k hkm => hk k (fun e => by subst e; exact hnd.2.2 k hbm k hkm rfl)
 ·obtain ⟨F, hl, hn, ha⟩ := ow.ro φ hφ
  refine ⟨F, hl.mono (by rw [hs]; exact Nat.le_refl _) fun k hkF => hk k (fun e => by subst e; exact hn k hkF (by simp only [List.mem_append]; exact .inl hbm)), fun k hkF => by rw [ek]; exact hn k hkF, ha⟩
theorem Sat.get {w0 w : World} {T : cD} {H : bw} {G Φ : List Pr} {j b : Nat} {o : Obj} (h : Sat w0 T H G Φ w) (hj : H[j]? = some (b, o)) : w.heap[b]? = some o := by
 obtain ⟨Fs, ow⟩ := h.own
 exact ow.has (b, o) (List.mem_of_getElem? hj)
structure St where
 H : bw
 n : Nat
 hs : List Nat
 es : List (Nat × Nat)
def sq : Value → Bool
 | .agg _ | .tuple _ => false
 | _ => true
def wh (fr : Nat × Nat) (off : Nat) : Bool := !(Nat.ble fr.1 off && Nat.blt off fr.2)
def isCells : Obj → Bool
 | .cells .. => true
 | _ => false
def ev (P : Program) {α : Type} : Sem α → St → Option (α × St)
 | .pure a, s => some (a, s)
 | .load _ a k, s => match s.hs with
  | [] => none
  | j :: hs => match s.H[j]? with
   | some (b, .cells cs _ _) => match a.spot with
    | some _ => none
    | none => match cs[a.off]? with
     | some v => ev P (k v) { s with hs := hs, es := (a.block, b) :: s.es }
     | none => none
   | _ => none
 | .store _ a v k, s => match sq v with
  | false => none
  | true => match s.hs with
   | [] => none
   | j :: hs => match s.H[j]? with
    | some (b, .cells cs e fr) => match a.spot with
     | some _ => none
     | none => match cs[a.off]? with
      | some _ => match wh fr a.off with
       | true => ev P k { s with H := s.H.set j (b, .cells (cs.setIfInBounds a.off v) e fr), hs := hs, es := (a.block, b) :: s.es }
       | false => none
      | none => none
    | _ => none
 | .new o k, s => ev P (k s.n) { s with H := s.H ++ [(s.n, o)], n := s.n + 1 }
 | .shape r k, s => match s.hs with
  | [] => none
  | j :: hs => match s.H[j]? with
   | some (b, .cells cs e _) => ev P (k (some (e, cs.size))) { s with hs := hs, es := (r, b) :: s.es }
   | some (b, o) => ev P (k none) { s with hs := hs, es := (r, b) :: s.es }
   | none => none
 | .freeze _ _ _, _ => none
 | .frozen a k, s => match s.hs with
  | [] => none
  | j :: hs => match s.H[j]? with
   | some (b, .cells _ _ fr) => ev P (k (Nat.ble fr.1 a.off && Nat.blt a.off fr.2)) { s with hs := hs, es := (a.block, b) :: s.es }
   | _ => none
 | .getObj r k, s => match s.hs with
  | [] => none
  | j :: hs => match s.H[j]? with
   | some (b, o) => match isCells o with
    | true => none
    | false => ev P (k o) { s with hs := hs, es := (r, b) :: s.es }
   | none => none
 | .setObj r o' k, s => match s.hs with
  | [] => none
  | j :: hs => match s.H[j]? with
   | some (b, o) => match isCells o with
    | true => none
    | false => ev P k { s with H := s.H.set j (b, o'), hs := hs, es := (r, b) :: s.es }
   | none => none
 | .choose _ _, _ => none
 | .sys _ _, _ => none
 | .program k, s => ev P (k P) s
 | .mark _ k, s => ev P k s
 | .halt _, _ => none
def zq (es : List (Nat × Nat)) : Prop := ∀ p ∈ es, p.1 = p.2
theorem nb {P : Program} {α : Type} (m : Sem α) : ∀ (s s' : St) (x : α), ev P m s = some (x, s') → ∀ p ∈ s.es, p ∈ s'.es := by
 induction m with
 | pure a => intro s s' x h p hp; simp only [ev, Option.some.injEq, Prod.mk.injEq] at h; rw [← h.2]; exact hp
 | load md a k ih =>
  intro s s' x h p hp
  simp only [ev] at h
  repeat' split at h
  all_goals first | exact absurd h (by simp) | exact ih _ _ _ _ h p (List.mem_cons_of_mem _ hp)
 | store md a v k ih =>
  intro s s' x h p hp
  simp only [ev] at h
  repeat' split at h
  all_goals first | exact absurd h (by simp) | exact ih _ _ _ h p (List.mem_cons_of_mem _ hp)
 | new o k ih => intro s s' x h p hp; simp only [ev] at h; exact ih _ _ _ _ h p hp
 | shape r k ih =>
  intro s s' x h p hp
  simp only [ev] at h
  repeat' split at h
  all_goals first | exact absurd h (by simp) | exact ih _ _ _ _ h p (List.mem_cons_of_mem _ hp)
 | freeze a n k ih => intro s s' x h; simp [ev] at h
 | frozen a k ih =>
  intro s s' x h p hp
  simp only [ev] at h
  repeat' split at h
  all_goals first | exact absurd h (by simp) | exact ih _ _ _ _ h p (List.mem_cons_of_mem _ hp)
 | getObj r k ih =>
  intro s s' x h p hp
  simp only [ev] at h
  repeat' split at h
  all_goals first | exact absurd h (by simp) | exact ih _ _ _ _ h p (List.mem_cons_of_mem _ hp)
 | setObj r o k ih =>
  intro s s' x h p hp
  simp only [ev] at h
  repeat' split at h
  all_goals first | exact absurd h (by simp) | exact ih _ _ _ h p (List.mem_cons_of_mem _ hp)
 | choose q k ih => intro s s' x h; simp [ev] at h
 | sys c k ih => intro s s' x h; simp [ev] at h
 | program k ih => intro s s' x h p hp; simp only [ev] at h; exact ih _ _ _ _ h p hp
 | mark mk k ih => intro s s' x h p hp; simp only [ev] at h; exact ih _ _ _ h p hp
 | halt hh => intro s s' x h; simp [ev] at h
theorem cell_of {w : World} {a : Addr} {b : Nat} {cs : Array Value} {e : TypeId} {fr : Nat × Nat} {v : Value} (hb : w.heap[b]? = some (.cells cs e fr)) (he : a.block = b) (hsp : a.spot = none) (hv : cs[a.off]? = some v) : w.cell? a = some v := by
 unfold World.cell?; rw [he, hb]; simp [hsp, hv]
theorem lO {w : World} {a : Addr} {b : Nat} {cs : Array Value} {e : TypeId} {fr : Nat × Nat} (hb : w.heap[b]? = some (.cells cs e fr)) (he : a.block = b) : w.frozen? a = (Nat.ble fr.1 a.off && Nat.blt a.off fr.2) := by
 obtain ⟨lo, hi⟩ := fr
 unfold World.frozen?; rw [he, hb]
 simp only [Nat.blt]
 congr 1
 ·rw [Bool.eq_iff_iff, decide_eq_true_iff, Nat.ble_eq]
 ·rw [Bool.eq_iff_iff, decide_eq_true_iff, Nat.ble_eq]; exact Iff.rfl
theorem heap_setCell_same {w : World} {a : Addr} {v : Value} {b : Nat} {cs : Array Value} {e : TypeId} {fr : Nat × Nat} (hb : w.heap[b]? = some (.cells cs e fr)) (he : a.block = b) (hsp : a.spot = none) :
  (w.setCell a v).heap[b]? = some (.cells (cs.setIfInBounds a.off v) e fr) := by
 simp [World.setCell, Array.getElem?_modify, he, hb, hsp]
theorem heap_setCell_other {w : World} {a : Addr} {v : Value} {b : Nat} (he : a.block = b) (k : Nat) (hk : k ≠ b) : (w.setCell a v).heap[k]? = w.heap[k]? := by
 simp only [World.setCell, Array.getElem?_modify, he]
 rw [if_neg (fun e => hk e.symm)]
theorem uc {P : Program} {α : Type} {w0 : World} {T : cD} {G Φ : List Pr} (m : Sem α) : ∀ (s s' : St) (x : α) (w : World), ev P m s = some (x, s') → zq s'.es → s.n = w.heap.size → Sat w0 T s.H G Φ w →
  ∃ w', m.run P w = .ok x w' ∧ Sat w0 T s'.H G Φ w' ∧ s'.n = w'.heap.size := by
 induction m with
 | pure a =>
  intro s s' x w h _ hn hS
  simp only [ev, Option.some.injEq, Prod.mk.injEq] at h
  obtain ⟨rfl, rfl⟩ := h
  exact ⟨w, rfl, hS, hn⟩
 | load md a k ih =>
  intro s s' x w h he hn hS
  simp only [ev] at h
  repeat' split at h
  all_goals try exact absurd h (by simp)
  rename_i j hs hhs _ b cs e fr hj _ hsp _ v hv
  have hb : a.block = b := he _ (nb _ _ _ _ h (a.block, b) (by simp))
  have hc := cell_of (hS.get hj) hb hsp hv
  obtain ⟨w', hr, hS', hn'⟩ := ih v _ _ _ w h he hn hS
  exact ⟨w', by simp only [Sem.run, hc]; exact hr, hS', hn'⟩
 | store md a v k ih =>
  intro s s' x w h he hn hS
  simp only [ev] at h
  repeat' split at h
  all_goals try exact absurd h (by simp)
  rename_i hone _ j hs hhs _ b cs e fr hj _ hsp _ u hu _ hcl
  have hb : a.block = b := he _ (nb _ _ _ _ h (a.block, b) (by simp))
  have hc := cell_of (hS.get hj) hb hsp hu
  have hf : w.frozen? a = false := by
   rw [lO (hS.get hj) hb]
   unfold wh at hcl
   simpa only [Bool.not_eq_true'] using hcl
  have hS2 : Sat w0 T (s.H.set j (b, .cells (cs.setIfInBounds a.off v) e fr)) G Φ (w.setCell a v) :=
   hS.iL hj rfl rfl rfl (by simp) (heap_setCell_same (hS.get hj) hb hsp) (heap_setCell_other hb)
  obtain ⟨w', hr, hS', hn'⟩ := ih _ _ _ (w.setCell a v) h he (by simpa using hn) hS2
  refine ⟨w', ?_, hS', hn'⟩
  have : (Sem.store md a v k).run P w = k.run P (w.setCell a v) := by
   cases v <;> first | (simp [sq] at hone; done) | (simp only [Sem.run, hc, hf]; rfl)
  rw [this]; exact hr
 | new o k ih =>
  intro s s' x w h he hn hS
  simp only [ev] at h
  obtain ⟨w', hr, hS', hn'⟩ := ih s.n _ _ _ { w with heap := w.heap.push o } h he (by simp [hn]) (by rw [hn]; exact hS.alloc o)
  exact ⟨w', by simp only [Sem.run]; rw [← hn]; exact hr, hS', hn'⟩
 | shape r k ih =>
  intro s s' x w h he hn hS
  simp only [ev] at h
  repeat' split at h
  all_goals try exact absurd h (by simp)
  ·rename_i j hs hhs _ b cs e fr hj
   have hb : r = b := he _ (nb _ _ _ _ h (r, b) (by simp))
   have : w.shape? r = some (e, cs.size) := by unfold World.shape?; rw [hb, hS.get hj]
   obtain ⟨w', hr, hS', hn'⟩ := ih _ _ _ _ w h he hn hS
   exact ⟨w', by simp only [Sem.run, this]; exact hr, hS', hn'⟩
  ·rename_i j hs hhs _ b o hno hj
   have hb : r = b := he _ (nb _ _ _ _ h (r, b) (by simp))
   have : w.shape? r = none := by
    unfold World.shape?; rw [hb, hS.get hj]
    cases o <;> first | rfl | exact (hno _ _ _ rfl).elim
   obtain ⟨w', hr, hS', hn'⟩ := ih _ _ _ _ w h he hn hS
   exact ⟨w', by simp only [Sem.run, this]; exact hr, hS', hn'⟩
 | freeze a n k ih => intro s s' x w h; simp [ev] at h
 | frozen a k ih =>
  intro s s' x w h he hn hS
  simp only [ev] at h
  repeat' split at h
  all_goals try exact absurd h (by simp)
  rename_i j hs hhs _ b cs e fr hj
  have hb : a.block = b := he _ (nb _ _ _ _ h (a.block, b) (by simp))
  have hf := lO (hS.get hj) hb
  obtain ⟨w', hr, hS', hn'⟩ := ih _ _ _ _ w h he hn hS
  exact ⟨w', by simp only [Sem.run, hf]; exact hr, hS', hn'⟩
 | getObj r k ih =>
  intro s s' x w h he hn hS
  simp only [ev] at h
  repeat' split at h
  all_goals try exact absurd h (by simp)
  rename_i j hs hhs _ b o hj _ hcl
  have hb : r = b := he _ (nb _ _ _ _ h (r, b) (by simp))
  have ho : w.heap[r]? = some o := by rw [hb]; exact hS.get hj
  obtain ⟨w', hr, hS', hn'⟩ := ih _ _ _ _ w h he hn hS
  refine ⟨w', ?_, hS', hn'⟩
  cases o <;> first | (simp [isCells] at hcl; done) | (simp only [Sem.run, ho]; exact hr)
 | setObj r o' k ih =>
  intro s s' x w h he hn hS
  simp only [ev] at h
  repeat' split at h
  all_goals try exact absurd h (by simp)
  rename_i j hs hhs _ b o hj _ hcl
  have hb : r = b := he _ (nb _ _ _ _ h (r, b) (by simp))
  have ho : w.heap[r]? = some o := by rw [hb]; exact hS.get hj
  have hlt : b < w.heap.size := by
   rcases Nat.lt_or_ge b w.heap.size with h1 | h1
   ·exact h1
   ·rw [hb, Array.getElem?_eq_none h1] at ho; cases ho
  have hS2 : Sat w0 T (s.H.set j (b, o')) G Φ { w with heap := w.heap.setIfInBounds r o' } :=
   hS.iL hj rfl rfl rfl (by simp) (by simp [hb, Array.getElem?_setIfInBounds, hlt]) (fun k hk => by simp [hb, Array.getElem?_setIfInBounds]; intro e; exact absurd e.symm hk)
  obtain ⟨w', hr, hS', hn'⟩ := ih _ _ _ { w with heap := w.heap.setIfInBounds r o' } h he (by simpa using hn) hS2
  refine ⟨w', ?_, hS', hn'⟩
  cases o <;> first | (simp [isCells] at hcl; done) | (simp only [Sem.run, ho]; exact hr)
 | choose q k ih => intro s s' x w h; simp [ev] at h
 | sys c k ih => intro s s' x w h; simp [ev] at h
 | program k ih =>
  intro s s' x w h he hn hS
  simp only [ev] at h
  obtain ⟨w', hr, hS', hn'⟩ := ih P _ _ _ w h he hn hS
  exact ⟨w', by simp only [Sem.run]; exact hr, hS', hn'⟩
 | mark mk k ih =>
  intro s s' x w h he hn hS
  simp only [ev] at h
  obtain ⟨w', hr, hS', hn'⟩ := ih _ _ _ w h he hn hS
  exact ⟨w', by simp only [Sem.run]; exact hr, hS', hn'⟩
 | halt hh => intro s s' x w h; simp [ev] at h
end Eng
namespace Eng
open Go
def cu (ops : Array Oper) (L : Env) (o : Oper) : Option Bool :=
 match o.guard with
 | none => some true
 | some (j, want) => match (ops[j]?).bind (·.dst) with
  | some t => match look L t with
   | some (.bool b) => some (b == want)
   | some (.tuple _) => some false
   | _ => none
  | none => none
theorem cM {N : Nat} {a : Act} {L : Env} {ops : Array Oper} {o : Oper} {b : Bool} (h : Has N a L) (hw : cu ops L o = some b) : Region.wanted o (yielded ops a.tmps) = b := by
 unfold cu at hw
 unfold Region.wanted
 cases hg : o.guard with
 | none => simp only [hg] at hw; simpa using (oI hw)
 | some p =>
  obtain ⟨j, want⟩ := p
  simp only [hg] at hw ⊢
  split at hw
  ·rename_i t ht
   split at hw
   ·rename_i b' hb'
    have hb2 := h.has t _ hb'
    unfold yielded
    rw [ht]
    simp only [bS, hb2]
    obtain rfl := oI hw
    cases b' <;> cases want <;> rfl
   ·rename_i vs hvs
    have hb2 := h.has t _ hvs
    unfold yielded
    rw [ht]
    simp only [bS, hb2]
    obtain rfl := oI hw
    rfl
   ·cases hw
  ·cases hw
def cA : Op → Bool
 | .select _ _ => true
 | _ => false
def dV (N : Nat) (o : Oper) (v : Value) (L : Env) : Option Env :=
 match o.dst with
 | none => some L
 | some d => match Nat.blt d N with
  | true => some ((d, v) :: L)
  | false => none
theorem Has.dV {N : Nat} {a : Act} {L L' : Env} {o : Oper} {v : Value} (h : Has N a L) (hp : dV N o v L = some L') : Has N (a.put o.dst v) L' := by
 unfold Eng.dV at hp
 cases hd : o.dst with
 | none => simp only [hd] at hp; obtain rfl := oI hp; exact h
 | some d =>
  simp only [hd] at hp
  split at hp
  ·rename_i hlt
   obtain rfl := oI hp
   exact h.put (nB hlt) v
  ·cases hp
def Aj (P : Program) (N : Nat) (o : Oper) (L : Env) (s : St) : Option (Env × St) :=
 match o.op.operands.all (known L) && !cA o.op with
 | false => none
 | true => match ev P (execOp (cE L) o) s with
  | some (.value v, s') => (dV N o v L).map fun L' => (L', s')
  | some (.skip, s') => (dV N o undef L).map fun L' => (L', s')
  | _ => none
def kP (P : Program) (N : Nat) (ops : Array Oper) : List Oper → Env → St → Option (Env × St)
 | [], L, s => some (L, s)
 | o :: r, L, s => match cu ops L o with
  | none => none
  | some false => match dV N o undef L with
   | some L' => kP P N ops r L' s
   | none => none
  | some true => match Aj P N o L s with
   | some (L', s') => kP P N ops r L' s'
   | none => none
theorem Has.exec {N : Nat} {a : Act} {L : Env} {o : Oper} (h : Has N a L) (hk : (o.op.operands.all (known L) && !cA o.op) = true) : execOp a.eval o = execOp (cE L) o := by
 rw [Bool.and_eq_true] at hk
 refine execOp_congr o (fun cs b e => ?_) (fun x hx => h.eval ?_)
 ·rw [e] at hk; simp [cA] at hk
 ·have := Array.all_eq_true_iff_forall_mem.1 hk.1 x hx
  exact this
def WL (P : Program) (N : Nat) (ops : Array Oper) (Q : Exit → Act → World → Prop) (l : List Oper) (L : Env) (S : Pr) : Prop := ∀ a w, Has N a L → S w → wpList P ops Q l a w
theorem nf {P : Program} {N : Nat} {ops : Array Oper} : ∀ (l : List Oper) (L : Env) (s : St) (L' : Env) (s' : St), kP P N ops l L s = some (L', s') → ∀ p ∈ s.es, p ∈ s'.es
 | [], L, s, L', s', h, p, hp => by simp only [kP, Option.some.injEq, Prod.mk.injEq] at h; rw [← h.2]; exact hp
 | o :: r, L, s, L', s', h, p, hp => by
  simp only [kP] at h
  split at h
  ·cases h
  ·split at h
   ·exact nf r _ _ _ _ h p hp
   ·cases h
  ·split at h
   ·rename_i L1 s1 h1
    refine nf r _ _ _ _ h p ?_
    unfold Aj at h1
    split at h1
    ·cases h1
    ·split at h1
     ·rename_i v s2 h2
      simp only [Option.map_eq_some_iff, Prod.mk.injEq] at h1
      obtain ⟨_, _, _, rfl⟩ := h1
      exact nb _ _ _ _ h2 p hp
     ·rename_i s2 h2
      simp only [Option.map_eq_some_iff, Prod.mk.injEq] at h1
      obtain ⟨_, _, _, rfl⟩ := h1
      exact nb _ _ _ _ h2 p hp
     ·cases h1
   ·cases h
theorem nc {P : Program} {N : Nat} {ops : Array Oper} {Q : Exit → Act → World → Prop} {w0 : World} {T : cD} {G Φ : List Pr} {r : List Oper} :
  ∀ (l : List Oper) (L : Env) (s : St) (L' : Env) (s' : St) (a : Act) (w : World), kP P N ops l L s = some (L', s') → zq s'.es → s.n = w.heap.size → Has N a L → Sat w0 T s.H G Φ w →
  (∀ a' w', Has N a' L' → Sat w0 T s'.H G Φ w' → wpList P ops Q r a' w') → wpList P ops Q (l ++ r) a w
 | [], L, s, L', s', a, w, h, he, hn, hh, hS, hk => by
  simp only [kP, Option.some.injEq, Prod.mk.injEq] at h
  obtain ⟨rfl, rfl⟩ := h
  exact hk a w hh hS
 | o :: l, L, s, L', s', a, w, h, he, hn, hh, hS, hk => by
  simp only [kP] at h
  rw [List.cons_append]
  unfold wpList
  split at h
  ·cases h
  ·rename_i hw
   rw [cM hh hw]
   split at h
   ·rename_i L1 hL1
    rw [if_neg (by simp)]
    exact nc l L1 s L' s' _ w h he hn (hh.dV hL1) hS hk
   ·cases h
  ·rename_i hw
   rw [cM hh hw, if_pos rfl]
   refine .inl ?_
   split at h
   ·rename_i L1 s1 h1
    unfold Aj at h1
    split at h1
    ·cases h1
    ·rename_i hkn
     unfold Oper.wp
     rw [hh.exec hkn]
     split at h1
     ·rename_i v s2 h2
      simp only [Option.map_eq_some_iff, Prod.mk.injEq] at h1
      obtain ⟨L2, hL2, rfl, rfl⟩ := h1
      obtain ⟨w', hr, hS', hn'⟩ := uc _ _ _ _ w h2 (fun p hp => he p (nf _ _ _ _ _ h p hp)) hn hS
      rw [hr]
      exact nc l L2 s2 L' s' _ w' h he hn' (hh.dV hL2) hS' hk
     ·rename_i s2 h2
      simp only [Option.map_eq_some_iff, Prod.mk.injEq] at h1
      obtain ⟨L2, hL2, rfl, rfl⟩ := h1
      obtain ⟨w', hr, hS', hn'⟩ := uc _ _ _ _ w h2 (fun p hp => he p (nf _ _ _ _ _ h p hp)) hn hS
      rw [hr]
      exact nc l L2 s2 L' s' _ w' h he hn' (hh.dV hL2) hS' hk
     ·cases h1
   ·cases h
def lk (P : Program) (N : Nat) (ops : Array Oper) (l : List Oper) (L : Env) (H : bw) (n : Nat) (hs ks : List Nat) : Option (Env × bw × List Nat × List Nat) :=
 match kP P N ops l L ⟨H, n, hs, []⟩ with
 | some (L', s) => some (fL ks L', s.H, s.es.map (·.1), s.es.map (·.2))
 | none => none
theorem im : ∀ {es : List (Nat × Nat)}, es.map (·.1) = es.map (·.2) → zq es
 | [], _, p, hp => by cases hp
 | (x, y) :: es, h, p, hp => by
  simp only [List.map_cons, List.cons.injEq] at h
  rcases List.mem_cons.1 hp with rfl | hp
  ·exact h.1
  ·exact im h.2 p hp
theorem WL.op {P : Program} {N : Nat} {ops : Array Oper} {Q : Exit → Act → World → Prop} {o : Oper} {l : List Oper} {L : Env} {S : Pr} {X : Type} (V : X → Value) (S' : X → Pr) (L' : X → Env)
  (hg : cu ops L o = some true) (hk : (o.op.operands.all (known L) && !cA o.op) = true)
  (hr : ∀ w, S w → ∃ x w', (execOp (cE L) o).run P w = .ok (.value (V x)) w' ∧ S' x w') (hp : ∀ x, dV N o (V x) L = some (L' x))
  (h : ∀ x, WL P N ops Q l (L' x) (S' x)) : WL P N ops Q (o :: l) L S := fun a w hh hS => by
 unfold wpList
 rw [cM hh hg, if_pos rfl]
 refine .inl ?_
 unfold Oper.wp
 rw [hh.exec hk]
 obtain ⟨x, w', e, hS'⟩ := hr w hS
 rw [e]
 exact h x _ w' (hh.dV (hp x)) hS'
def qC (P : Program) (o : Oper) (L : Env) (hs : List Nat) (H : bw) : Option (FuncId × Array Value × List Nat × List Nat) :=
 match o.op.operands.all (known L) && !cA o.op with
 | false => none
 | true => match ev P (execOp (cE L) o) ⟨H, 0, hs, []⟩ with
  | some (.enter f args, s) => some (f, args, s.es.map (·.1), s.es.map (·.2))
  | _ => none
def eI (P : Program) {α : Type} : Sem α → bw → List Nat → Option (α × List (Nat × Nat))
 | .pure a, _, _ => some (a, [])
 | .load _ a k, H, hs => match hs with
  | [] => none
  | j :: hs => match H[j]? with
   | some (b, .cells cs _ _) => match a.spot with
    | some _ => none
    | none => match cs[a.off]? with
     | some v => (eI P (k v) H hs).map fun (x, es) => (x, (a.block, b) :: es)
     | none => none
   | _ => none
 | .shape r k, H, hs => match hs with
  | [] => none
  | j :: hs => match H[j]? with
   | some (b, .cells cs e _) => (eI P (k (some (e, cs.size))) H hs).map fun (x, es) => (x, (r, b) :: es)
   | some (b, _) => (eI P (k none) H hs).map fun (x, es) => (x, (r, b) :: es)
   | none => none
 | .program k, H, hs => eI P (k P) H hs
 | .mark _ k, H, hs => eI P k H hs
 | _, _, _ => none
theorem ko {P : Program} {α : Type} {w0 : World} {T : cD} {H : bw} {G Φ : List Pr} (m : Sem α) : ∀ (hs : List Nat) (x : α) (es : List (Nat × Nat)) (w : World), eI P m H hs = some (x, es) → zq es → Sat w0 T H G Φ w → m.run P w = .ok x w := by
 induction m with
 | pure a => intro hs x es w h _ _; simp only [eI, Option.some.injEq, Prod.mk.injEq] at h; rw [← h.1]; rfl
 | load md a k ih =>
  intro hs x es w h he hS
  unfold eI at h
  repeat' split at h
  all_goals try cases h
  rename_i j hs _ b cs e fr hj _ hsp _ v hv
  simp only [Option.map_eq_some_iff, Prod.mk.injEq, Prod.exists] at h
  obtain ⟨x', es', h1, rfl, rfl⟩ := h
  have hb : a.block = b := he (a.block, b) (by simp)
  have hc := cell_of (hS.get hj) hb hsp hv
  have := ih v _ _ _ w h1 (fun p hp => he p (List.mem_cons_of_mem _ hp)) hS
  simp only [Sem.run, hc]; exact this
 | shape r k ih =>
  intro hs x es w h he hS
  unfold eI at h
  repeat' split at h
  all_goals try cases h
  ·rename_i j hs _ b cs e fr hj
   simp only [Option.map_eq_some_iff, Prod.mk.injEq, Prod.exists] at h
   obtain ⟨x', es', h1, rfl, rfl⟩ := h
   have hb : r = b := he (r, b) (by simp)
   have : w.shape? r = some (e, cs.size) := by unfold World.shape?; rw [hb, hS.get hj]
   simp only [Sem.run, this]
   exact ih _ _ _ _ w h1 (fun p hp => he p (List.mem_cons_of_mem _ hp)) hS
  ·rename_i j hs _ b o hno hj
   simp only [Option.map_eq_some_iff, Prod.mk.injEq, Prod.exists] at h
   obtain ⟨x', es', h1, rfl, rfl⟩ := h
   have hb : r = b := he (r, b) (by simp)
   have : w.shape? r = none := by
    unfold World.shape?; rw [hb, hS.get hj]
    cases o <;> first | rfl | exact (hno _ _ _ rfl).elim
   simp only [Sem.run, this]
   exact ih _ _ _ _ w h1 (fun p hp => he p (List.mem_cons_of_mem _ hp)) hS
 | program k ih => intro hs x es w h he hS; simp only [eI] at h; simp only [Sem.run]; exact ih P _ _ _ w h he hS
 | mark mk k ih => intro hs x es w h he hS; simp only [eI] at h; simp only [Sem.run]; exact ih _ _ _ w h he hS
 | store md a v k ih => intro hs x es w h; simp [eI] at h
 | new o k ih => intro hs x es w h; simp [eI] at h
 | freeze a n k ih => intro hs x es w h; simp [eI] at h
 | frozen a k ih => intro hs x es w h; simp [eI] at h
 | getObj r k ih => intro hs x es w h; simp [eI] at h
 | setObj r o k ih => intro hs x es w h; simp [eI] at h
 | choose q k ih => intro hs x es w h; simp [eI] at h
 | sys c k ih => intro hs x es w h; simp [eI] at h
 | halt hh => intro hs x es w h; simp [eI] at h
def ja (P : Program) (o : Oper) (L : Env) (H : bw) (hs : List Nat) : Option (FuncId × Array Value × List Nat × List Nat) :=
 match o.op.operands.all (known L) && !cA o.op with
 | false => none
 | true => match eI P (execOp (cE L) o) H hs with
  | some (.enter f args, es) => some (f, args, es.map (·.1), es.map (·.2))
  | _ => none
theorem ng {P : Program} {o : Oper} {L : Env} {H : bw} {hs bs : List Nat} {f : FuncId} {args : Array Value} {N : Nat} {a : Act} {w0 w : World} {T : cD} {G Φ : List Pr} (h : ja P o L H hs = some (f, args, bs, bs)) (hh : Has N a L) (hS : Sat w0 T H G Φ w) :
  (execOp a.eval o).run P w = .ok (.enter f args) w := by
 unfold ja at h
 split at h
 ·cases h
 ·rename_i hk
  rw [hh.exec hk]
  split at h
  ·rename_i f' args' es hq
   simp only [Option.some.injEq, Prod.mk.injEq] at h
   obtain ⟨rfl, rfl, e1, e2⟩ := h
   exact ko _ _ _ _ w hq (im (e1.trans e2.symm)) hS
  ·cases h
theorem WL.call {P : Program} {N : Nat} {ops : Array Oper} {Q : Exit → Act → World → Prop} {o : Oper} {l : List Oper} {L : Env} {w0 : World} {T : cD} {H : bw} {G Φ : List Pr} {f : FuncId} {args : Array Value} {X : Type} (hs bs : List Nat) (V : X → Value) (S' : X → Pr) (L' : X → Env)
  (he : ja P o L H hs = some (f, args, bs, bs)) (hg : cu ops L o = some true)
  (hc : ∀ w, Sat w0 T H G Φ w → Calls P f args w fun e w' => ∃ x, e = .returned (V x) ∧ S' x w') (hp : ∀ x, dV N o (V x) L = some (L' x))
  (h : ∀ x, WL P N ops Q l (L' x) (S' x)) : WL P N ops Q (o :: l) L (Sat w0 T H G Φ) := fun a w hh hS => by
 unfold wpList
 rw [cM hh hg, if_pos rfl]
 refine .inl ?_
 unfold Oper.wp
 rw [ng he hh hS]
 refine (hc w hS).mono fun e w' hx => ?_
 obtain ⟨x, rfl, hS'⟩ := hx
 exact h x _ w' (hh.dV (hp x)) hS'
inductive KI where
 | code (c : Code)
 | block (id : Nat)
 | inv (I : Act → World → Prop)
 /-- Behind a range over a function: the mark on the activation's deferred calls. -/
 | mark (D : Nat)
 /-- The end of a round of a range over a function. -/
 | round (l : Nat) (Qn Qr : Pr)
 /-- Where a round begins. -/
 | begin (l : Nat)
def dr : List KI → Option Nat
 | [] => none
 | .round l _ _ :: _ => some l
 | .code _ :: k => dr k
 | .block _ :: k => dr k
 | .inv _ :: k => dr k
 | .mark _ :: k => dr k
 | .begin _ :: k => dr k
def marksOf : List KI → List Deferred
 | [] => []
 | .mark D :: k => { target := .collected D, args := #[] } :: marksOf k
 | .round _ _ _ :: _ => []
 | .code _ :: k => marksOf k
 | .block _ :: k => marksOf k
 | .inv _ :: k => marksOf k
 | .begin _ :: k => marksOf k
def marked (ds : List Deferred) (a : Act) : Act := { a with defers := a.defers ++ ds }
theorem qf (a : Act) : marked [] a = a := by simp [marked]
def cw (ro : Option Nat) (P : Program) (c : Code) (Q : Exit → Act → World → Prop) (a : Act) (w : World) : Prop := match ro with
 | none => c.wp P Q a w
 | some l => c.wpIn (Fence.wide.inRound l) 0 P Q a w
def yg (Qn Qr : Pr) : Exit → Act → World → Prop
 | .normal, _, w => Qn w
 | .ret, _, w => Qr w
 | _, _, _ => False
def yY (P : Program) (fn : Func) (R : Ending → World → Prop) : Exit → Act → World → Prop
 | .panic _, _, _ => False
 | e, a, w => bodyPostM Fence.wide 0 P fn R e a w
theorem xk {P : Program} {fn : Func} {R : Ending → World → Prop} {e : Exit} {a : Act} {w : World} (h : yY P fn R e a w) : bodyPostM Fence.wide 0 P fn R e a w := by
 cases e with
 | panic c => exact h.elim
 | _ => exact h
def den (P : Program) (fn : Func) (R : Ending → World → Prop) : List KI → Exit → Act → World → Prop
 | [] => yY P fn R
 | .code c :: k => Exit.then (fun a w => cw (dr k) P c (den P fn R k) a w) (den P fn R k)
 | .block id :: k => Exit.inBlock id (den P fn R k)
 | .inv I :: k => Exit.then I (den P fn R k)
 | .mark _ :: k => den P fn R k
 | .round _ Qn Qr :: _ => yg Qn Qr
 | .begin l :: k => Exit.then (fun a w => ∃ w2, (Instr.beginRound l).run P w = .ok () w2 ∧ den P fn R k .normal a w2) (fun _ _ _ => False)
def pb (P : Program) (fn : Func) (R : Ending → World → Prop) (k : List KI) : Exit → Act → World → Prop := fun e a w => den P fn R k e (marked (marksOf k) a) w
def WP (P : Program) (fn : Func) (R : Ending → World → Prop) (N : Nat) (k : List KI) (L : Env) (S : Pr) : Prop := ∀ a w, Has N a L → S w → den P fn R k .normal (marked (marksOf k) a) w
section
variable {P : Program} {ro : Option Nat} {Q : Exit → Act → World → Prop} {a : Act} {w : World}
theorem Cw {x y : Code} (h : cw ro P x (Exit.then (fun a w => cw ro P y Q a w) Q) a w) : cw ro P (.seq x y) Q a w := match ro with
 | none => wp_seq h
 | some _ => wpIn_seq h
theorem y7 {id : Nat} {c : Code} (h : cw ro P c (Exit.inBlock id Q) a w) : cw ro P (.block id c) Q a w := match ro with
 | none => wp_block h
 | some _ => wpIn_block h
theorem An (h : Q .normal a w) : cw ro P .skip Q a w := match ro with
 | none => wp_skip h
 | some _ => wpIn_skip h
theorem Ao {id : Nat} (h : Q (.exit id) a w) : cw ro P (.exit id) Q a w := match ro with
 | none => wp_exit h
 | some _ => wpIn_exit h
theorem Cy (h : Q .ret a w) : cw ro P .ret Q a w := match ro with
 | none => wp_ret h
 | some _ => wpIn_ret h
theorem Ap {c : Operand} {x y : Code} {t : Bool} (hc : a.eval c = .bool t) (ht : t = true → cw ro P x Q a w) (hf : t = false → cw ro P y Q a w) : cw ro P (.cond c x y) Q a w := match ro with
 | none => wp_cond_split hc ht hf
 | some _ => wpIn_cond_split hc ht hf
end
def Aa : Op → Bool
 | .defer _ => true
 | _ => false
def vN (l : List Oper) : Bool := l.all fun o => !Aa o.op
theorem qe {l : List Oper} (h : vN l = true) {i : Nat} {o : Oper} (ho : l.toArray[i]? = some o) : ∀ c, o.op ≠ .defer c := fun c e => by
 have := List.all_eq_true.1 h o (List.mem_of_getElem? (i := i) (by simpa using ho))
 rw [e] at this
 cases this
theorem lr (ds : List Deferred) (a : Act) : (marked ds a).eval = a.eval := by funext x; cases x <;> rfl
theorem iS (ds : List Deferred) (a : Act) (d : Option Tmp) (v : Value) : (marked ds a).put d v = marked ds (a.put d v) := by cases d <;> rfl
section
variable {P : Program} {ops : Array Oper} {Q : Exit → Act → World → Prop}
theorem eg (ds : List Deferred) : ∀ (l : List Nat) (a : Act) (w : World), wpOps P ops (fun e a w => Q e (marked ds a) w) l a w → wpOps P ops Q l (marked ds a) w
 | [], a, w, h => h
 | i :: r, a, w, h => by
  unfold wpOps at h ⊢
  cases ho : ops[i]? with
  | none =>
   simp only [ho] at h ⊢
   exact eg ds r a w h
  | some o =>
   simp only [ho] at h ⊢
   have ht : yielded ops (marked ds a).tmps = yielded ops a.tmps := rfl
   rw [ht]
   split at h
   ·rename_i hw
    rw [if_pos hw]
    rcases h with h | ⟨h1, h2⟩
    ·refine .inl ?_
     unfold Oper.wp at h ⊢
     rw [lr]
     generalize hres : (execOp a.eval o).run P w = res at h
     cases res with
     | ok v w1 =>
      cases v with
      | value v => rw [Oper.upon_value, iS]; exact eg ds r _ _ h
      | skip => rw [Oper.upon_skip, iS]; exact eg ds r _ _ h
      | defer d =>
       have e : ({ marked ds a with defers := d :: (marked ds a).defers } : Act).put o.dst undef = marked ds (({ a with defers := d :: a.defers } : Act).put o.dst undef) := by cases o.dst <;> rfl
       rw [Oper.upon_defer, e]
       exact eg ds r _ _ h
      | enter f args =>
       rw [Oper.upon_enter] at h ⊢
       refine Calls.mono h fun e w2 h3 => ?_
       cases e with
       | returned v => show wpOps P ops Q r ((marked ds a).put o.dst v) w2; rw [iS]; exact eg ds r _ _ h3
       | panicked chain => exact h3
       | outgrown => obtain ⟨a', w', h4⟩ := h3; exact ⟨_, w', h4⟩
      | row row args =>
       rw [Oper.upon_row] at h ⊢
       refine Rows.mono h fun v w2 h3 => ?_
       rw [iS]; exact eg ds r _ _ h3
      | _ => exact False.elim h
     | halt e w1 => cases e <;> exact h
    ·refine .inr ⟨?_, ?_⟩
     ·unfold Oper.asks at h1 ⊢
      rw [lr]; exact h1
     ·obtain ⟨a', w', h4⟩ := h2; exact ⟨_, w', h4⟩
   ·rename_i hw
    rw [if_neg hw, iS]
    exact eg ds r _ _ h
theorem eK (l0 : Nat) (hnd : ∀ (i : Nat) (o : Oper), ops[i]? = some o → ∀ c, o.op ≠ Op.defer c) (hq : ∀ a w, ¬ Q .outgrown a w) : ∀ (l : List Nat) (a : Act) (w : World), wpOps P ops Q l a w → wpOpsIn (Fence.wide.inRound l0) 0 P ops Q l a w
 | [], a, w, h => h
 | i :: r, a, w, h => by
  unfold wpOps at h
  unfold wpOpsIn
  cases ho : ops[i]? with
  | none =>
   simp only [ho] at h ⊢
   exact eK l0 hnd hq r a w h
  | some o =>
   simp only [ho] at h ⊢
   split at h
   ·rename_i hw
    rw [if_pos hw]
    rcases h with h | ⟨_, ⟨a', w', h4⟩⟩
    ·refine ⟨fun _ _ => trivial, ?_⟩
     rw [show (Fence.wide.inRound l0).round = some l0 from rfl, Oper.semAt_some l0 _ _ (hnd i o ho)]
     unfold Oper.wp at h
     generalize hres : (execOp a.eval o).run P w = res at h
     cases res with
     | ok v w1 =>
      cases v with
      | value v => exact eK l0 hnd hq r _ _ h
      | skip => exact eK l0 hnd hq r _ _ h
      | defer d => exact eK l0 hnd hq r _ _ h
      | enter f args =>
       rw [Oper.upon_enter] at h
       refine ⟨(fun hx => by cases hx), ?_⟩
       refine CallsIn.mono (CallsIn.inRound l0 (callsIn_wide.2 h)) fun e w2 h3 => ?_
       cases e with
       | returned v => exact eK l0 hnd hq r _ _ h3
       | panicked chain => exact h3
       | outgrown => obtain ⟨a', w', h4⟩ := h3; exact absurd h4 (hq _ _)
      | row row args =>
       rw [Oper.upon_row] at h
       refine ⟨(fun hx => by cases hx), fun c cs _ => ?_⟩
       obtain ⟨v, w', h3, h4⟩ := h c cs
       exact ⟨v, w', eK l0 hnd hq r _ _ h3, stepsIn_wide.2 h4⟩
      | _ => exact False.elim h
     | halt e w1 => cases e <;> exact h
    ·exact absurd h4 (hq _ _)
   ·rename_i hw
    rw [if_neg hw]
    exact ⟨fun _ _ => trivial, eK l0 hnd hq r _ _ h⟩
end
theorem lT {P : Program} {fn : Func} {R : Ending → World → Prop} {l : Nat} : ∀ {k : List KI}, dr k = some l → ∀ a w, ¬ den P fn R k .outgrown a w
 | [], h, _, _, _ => by cases h
 | .round _ _ _ :: _, _, _, _, hd => hd
 | .begin _ :: _, _, _, _, hd => hd
 | .code _ :: k, h, a, w, hd => lT (k := k) h a w hd
 | .block _ :: k, h, a, w, hd => lT (k := k) h a w hd
 | .inv _ :: k, h, a, w, hd => lT (k := k) h a w hd
 | .mark _ :: k, h, a, w, hd => lT (k := k) h a w hd
def gU (ro : Option Nat) (l : List Oper) : Bool := match ro with
 | none => true
 | some _ => vN l
section
variable {P : Program} {fn : Func} {R : Ending → World → Prop} {k : List KI} {a : Act} {w : World}
theorem vb {id : Nat} {l : List Oper} (hd : gU (dr k) l = true) (h : wpOps P l.toArray (pb P fn R k) (List.range l.toArray.size) a w) : cw (dr k) P (.region id l.toArray false) (den P fn R k) (marked (marksOf k) a) w := by
 have h1 := eg (marksOf k) (Q := den P fn R k) _ _ _ h
 cases hm : dr k with
 | none => exact wp_region h1
 | some l0 =>
  rw [hm] at hd
  exact wpIn_region (eK l0 (fun i o ho => qe hd ho) (lT hm) _ _ _ h1)
theorem lB {id : Nat} {l : List Oper} (hd : gU (dr k) l = true) (hm : P.follows .mixedOrders = true) (h : wpAny P .any l.toArray (pb P fn R k) l.toArray.size (Array.replicate l.toArray.size false) a { w with drawn := w.drawn + 1 }) :
  cw (dr k) P (.region id l.toArray true) (den P fn R k) (marked (marksOf k) a) w := by
 have h0 : ∀ t, wpOps P l.toArray (pb P fn R k) (Region.schedule (P.follows .mixedOrders) l.toArray t) a { w with drawn := w.drawn + 1 } := fun t => by
  simp only [Region.schedule, hm, Bool.true_or, if_true]
  exact wpAny_sound l.toArray.size t _ a _ h
 have h1 := fun t => eg (marksOf k) (Q := den P fn R k) _ _ _ (h0 t)
 cases hmo : dr k with
 | none => exact wp_region_draw h1
 | some l0 =>
  rw [hmo] at hd
  exact wpIn_region_draw fun t => eK l0 (fun i o ho => qe hd ho) (lT hmo) _ _ _ (h1 t)
theorem qx {id : Nat} {l : List Oper} (hd : gU (dr k) l = true) (h : wpList P l.toArray (pb P fn R k) l a w) : cw (dr k) P (.region id l.toArray false) (den P fn R k) (marked (marksOf k) a) w :=
 vb hd (by rw [List.range_eq_range', ← Array.length_toList, wpOps_eq_wpList l.toArray.toList 0 (by simp)]; simpa using h)
end
section
variable {P : Program} {fn : Func} {R : Ending → World → Prop} {N : Nat} {k : List KI} {L : Env} {S : Pr}
theorem WP.seq {x y : Code} (h : WP P fn R N (.code x :: .code y :: k) L S) : WP P fn R N (.code (.seq x y) :: k) L S := fun a w hh hS => Cw (h a w hh hS)
theorem WP.block {id : Nat} {c : Code} (h : WP P fn R N (.code c :: .block id :: k) L S) : WP P fn R N (.code (.block id c) :: k) L S := fun a w hh hS => y7 (h a w hh hS)
theorem WP.skip (h : WP P fn R N k L S) : WP P fn R N (.code .skip :: k) L S := fun a w hh hS => An (h a w hh hS)
theorem WP.leave {id : Nat} (h : WP P fn R N k L S) : WP P fn R N (.block id :: k) L S := fun a w hh hS => h a w hh hS
def oO (id : Nat) : List KI → Option (List KI)
 | [] => none
 | .block j :: k => match Nat.beq id j with
  | true => some k
  | false => oO id k
 | .code _ :: k => oO id k
 | .inv _ :: k => oO id k
 | .mark _ :: _ => none
 | .round _ _ _ :: _ => none
 | .begin _ :: _ => none
theorem kG {id : Nat} : ∀ {k k' : List KI}, oO id k = some k' → marksOf k' = marksOf k
 | [], _, h => by cases h
 | .block j :: k, k', h => by
  simp only [oO] at h
  split at h
  ·obtain rfl := oI h; rfl
  ·exact kG (k := k) h
 | .code _ :: k, k', h => kG (k := k) h
 | .inv _ :: k, k', h => kG (k := k) h
 | .mark _ :: k, k', h => by cases h
 | .round _ _ _ :: k, k', h => by cases h
 | .begin _ :: k, k', h => by cases h
theorem ni {id : Nat} {a : Act} {w : World} : ∀ {k k' : List KI}, oO id k = some k' → den P fn R k' .normal a w → den P fn R k (.exit id) a w
 | [], _, h, _ => by cases h
 | .block j :: k, k', h, hd => by
  simp only [oO] at h
  show Exit.inBlock j (den P fn R k) (.exit id) a w
  unfold Exit.inBlock
  split at h
  ·rename_i hb
   obtain rfl := oI h
   obtain rfl := nE hb
   simpa using hd
  ·rename_i hb
   have : id ≠ j := fun e => by subst e; rw [Nat.beq_refl] at hb; cases hb
   simp only [this, if_false]
   exact ni h hd
 | .code c :: k, k', h, hd => ni (k := k) h hd
 | .inv I :: k, k', h, hd => ni (k := k) h hd
 | .mark _ :: k, k', h, hd => by cases h
 | .round _ _ _ :: k, k', h, hd => by cases h
 | .begin _ :: k, k', h, hd => by cases h
theorem WP.exit {id : Nat} {k' : List KI} (he : oO id k = some k') (h : WP P fn R N k' L S) : WP P fn R N (.code (.exit id) :: k) L S := fun a w hh hS => Ao (ni he (kG he ▸ h a w hh hS))
def mF (P : Program) (fn : Func) (R : Ending → World → Prop) : List KI → Exit → Act → World → Prop
 | [] => yY P fn R
 | .round _ Qn Qr :: _ => yg Qn Qr
 | .code _ :: k => mF P fn R k
 | .block _ :: k => mF P fn R k
 | .inv _ :: k => mF P fn R k
 | .mark _ :: k => mF P fn R k
 | .begin _ :: _ => fun _ _ _ => False
theorem nh {a : Act} {w : World} : ∀ {k : List KI}, mF P fn R k .ret a w → den P fn R k .ret a w
 | [], h => h
 | .round _ _ _ :: _, h => h
 | .block _ :: k, h => nh (k := k) h
 | .code _ :: k, h => nh (k := k) h
 | .inv _ :: k, h => nh (k := k) h
 | .mark _ :: k, h => nh (k := k) h
 | .begin _ :: _, h => h.elim
theorem WP.cond {c : Operand} {x y : Code} (b : Bool) (hk : known L c = true) (hc : cE L c = .bool b) (hx : b = true → WP P fn R N (.code x :: k) L S) (hy : b = false → WP P fn R N (.code y :: k) L S) :
  WP P fn R N (.code (.cond c x y) :: k) L S := fun a w hh hS =>
 Ap (by rw [lr]; exact (hh.eval hk).trans hc) (fun e => hx e a w hh hS) (fun e => hy e a w hh hS)
theorem WP.yes {c : Operand} {x y : Code} (hk : known L c = true) (hc : cE L c = .bool true) (hx : WP P fn R N (.code x :: k) L S) : WP P fn R N (.code (.cond c x y) :: k) L S := WP.cond true hk hc (fun _ => hx) (fun e => by cases e)
theorem WP.no {c : Operand} {x y : Code} (hk : known L c = true) (hc : cE L c = .bool false) (hy : WP P fn R N (.code y :: k) L S) : WP P fn R N (.code (.cond c x y) :: k) L S := WP.cond false hk hc (fun e => by cases e) (fun _ => hy)
theorem WP.region {id : Nat} {l : List Oper} (h : WL P N l.toArray (pb P fn R k) l L S) (hd : gU (dr k) l = true := by rfl) : WP P fn R N (.code (.region id l.toArray false) :: k) L S := fun a w hh hS => qx hd (h a w hh hS)
theorem WP.done (h : WP P fn R N k L S) {ops : Array Oper} : WL P N ops (pb P fn R k) [] L S := fun a w hh hS => h a w hh hS
theorem td {c : Code} {Q : Exit → Act → World → Prop} (I : Nat → Act → World → Prop) (round : ∀ n a w, I n a w → c.wp P (Exit.then (fun a' w' => ∃ m, m < n ∧ I m a' w') Q) a w) {n : Nat} {a : Act} {w : World} (h : I n a w) : (Code.loop c).wp P Q a w := by
 classical
 let J : Act → World → Prop := fun a w => ∃ n, I n a w
 have least : ∀ a w, J a w → ∃ m, I m a w ∧ ∀ j, I j a w → m ≤ j := by
  intro a w ⟨n, hn⟩
  induction n using Nat.strongRecOn with
  | _ n ih =>
   by_cases hex : ∃ j, j < n ∧ I j a w
   ·obtain ⟨j, hj, hI⟩ := hex; exact ih j hj hI
   ·exact ⟨n, hn, fun j hj => Nat.le_of_not_lt fun hlt => hex ⟨j, hlt, hj⟩⟩
 let μ : Act → World → Nat := fun a w => if h : J a w then (least a w h).choose else 0
 have hμ : ∀ a w (h : J a w), I (μ a w) a w ∧ ∀ j, I j a w → μ a w ≤ j := by
  intro a w h
  simp only [μ, dif_pos h]
  exact (least a w h).choose_spec
 refine wp_loop J μ ⟨n, h⟩ fun a w hJ => ?_
 refine wp_mono (round (μ a w) a w (hμ a w hJ).1) fun e a' w' hq => ?_
 cases e with
 | normal =>
  obtain ⟨m, hm, hI⟩ := hq
  exact ⟨⟨m, hI⟩, Nat.lt_of_le_of_lt ((hμ a' w' ⟨m, hI⟩).2 m hI) hm⟩
 | _ => exact hq
def LI {σ ρ : Type} (M : Nat → σ → Option ρ) (r : ρ) (N : Nat) (Ls : σ → Env) (Ss : σ → Pr) (ds : List Deferred) (n : Nat) : Act → World → Prop := fun a w => ∃ m, m < n ∧ ∃ st, M m st = some r ∧ ∃ a', a = marked ds a' ∧ Has N a' (Ls st) ∧ Ss st w
theorem WP.loop {σ ρ : Type} (M : Nat → σ → Option ρ) (r : ρ) (Ls : σ → Env) (Ss : σ → Pr) {c : Code} {n : Nat} {st : σ}
  (round : ∀ n st, M n st = some r → WP P fn R N (.code c :: .inv (LI M r N Ls Ss (marksOf k) n) :: k) (Ls st) (Ss st)) (h : M n st = some r) (hmo : dr k = none := by rfl) :
  WP P fn R N (.code (.loop c) :: k) (Ls st) (Ss st) := fun a w hh hS => by
 show cw (dr k) P _ _ _ _
 have round' : ∀ n st, M n st = some r → ∀ a w, Has N a (Ls st) → Ss st w → c.wp P (den P fn R (.inv (LI M r N Ls Ss (marksOf k) n) :: k)) (marked (marksOf k) a) w := fun n st hM a w hh hS => by
  have h2 : cw (dr k) P c (den P fn R (.inv (LI M r N Ls Ss (marksOf k) n) :: k)) (marked (marksOf k) a) w := round n st hM a w hh hS
  rw [hmo] at h2
  exact h2
 rw [hmo]
 refine td (fun n a w => ∃ st, M n st = some r ∧ ∃ a', a = marked (marksOf k) a' ∧ Has N a' (Ls st) ∧ Ss st w) (fun n a w hI => ?_) ⟨st, h, a, rfl, hh, hS⟩
 obtain ⟨st, hM, a', rfl, hh, hS⟩ := hI
 exact round' n st hM a' w hh hS
theorem WP.again {σ ρ : Type} {M : Nat → σ → Option ρ} {r : ρ} {Ls : σ → Env} {Ss : σ → Pr} {n : Nat} (st : σ) (h : M n st = some r) (hL : ∀ a, Has N a L → Has N a (Ls st)) (hS : ∀ w, S w → Ss st w) :
  WP P fn R N (.inv (LI M r N Ls Ss (marksOf k) (n + 1)) :: k) L S := fun a w hh hw => ⟨n, Nat.lt_succ_self n, st, h, a, rfl, hL a hh, hS w hw⟩
theorem WP.sub (ks : List Nat) {L' : Env} (e : fL ks L = L') (h : WP P fn R N k L' S) : WP P fn R N k L S := fun a w hh hS => h a w (by rw [← e]; exact hh.fL ks) hS
end
def BQ (L : Env) (fn : Func) : Sem Value := do
 let vs ← fn.results.mapM fun
  | .tmp t => pure ((look L t).getD undef)
  | .cell a t => do loadVar t (← asAddr ((look L a).getD undef))
 pure (if h : vs.size = 1 then vs[0] else .tuple vs)
def mS (L : Env) : ResultVar → Bool
 | .tmp t => (look L t).isSome
 | .cell a _ => (look L a).isSome
theorem lz {α β : Type} (f g : α → Sem β) : ∀ (xs : List α), (∀ x ∈ xs, f x = g x) → xs.mapM f = xs.mapM g
 | [], _ => rfl
 | x :: xs, h => by rw [List.mapM_cons, List.mapM_cons, h x (by simp), lz f g xs fun y hy => h y (List.mem_cons_of_mem _ hy)]
theorem mapM_congr {α β : Type} (f g : α → Sem β) (xs : Array α) (h : ∀ x ∈ xs, f x = g x) : xs.mapM f = xs.mapM g := by
 rw [Array.mapM_eq_mapM_toList, Array.mapM_eq_mapM_toList, lz f g xs.toList fun x hx => h x (by simpa using hx)]
theorem Has.results {N : Nat} {a : Act} {L : Env} {fn : Func} (h : Has N a L) (hk : fn.results.all (mS L) = true) : results fn a.tmps = BQ L fn := by
 unfold Go.results BQ
 congr 1
 refine mapM_congr _ _ _ fun x hx => ?_
 have hkx := Array.all_eq_true_iff_forall_mem.1 hk x hx
 cases x with
 | tmp t =>
  simp only [mS, Option.isSome_iff_exists] at hkx
  obtain ⟨v, hv⟩ := hkx
  have := h.has t v hv
  simp [hv, this, Array.getD_eq_getD_getElem?]
 | cell x t =>
  simp only [mS, Option.isSome_iff_exists] at hkx
  obtain ⟨v, hv⟩ := hkx
  have := h.has x v hv
  simp [hv, this, Array.getD_eq_getD_getElem?]
def yk (P : Program) (fn : Func) (L : Env) (H : bw) (hs : List Nat) : Option (Value × List Nat × List Nat) :=
 match fn.results.all (mS L) with
 | false => none
 | true => match eI P (BQ L fn) H hs with
  | some (v, es) => some (v, es.map (·.1), es.map (·.2))
  | none => none
theorem wT {P : Program} {fn : Func} {R : Ending → World → Prop} {N : Nat} {L : Env} {H : bw} {hs bs : List Nat} {v : Value} {w0 w : World} {T : cD} {G Φ : List Pr} {a : Act} (he : yk P fn L H hs = some (v, bs, bs))
  (hh : Has N a L) (hS : Sat w0 T H G Φ w) (h : R (.returned v) w) : LeavesInM Fence.wide 0 P fn a.tmps R [] .returning w := by
 unfold yk at he
 split at he
 ·cases he
 ·rename_i hk
  split at he
  ·rename_i v' es hq
   simp only [Option.some.injEq, Prod.mk.injEq] at he
   obtain ⟨rfl, e1, e2⟩ := he
   refine ⟨v', ?_, h⟩
   rw [hh.results hk]
   exact ko _ _ _ _ w hq (im (e1.trans e2.symm)) hS
  ·cases he
def mq : List KI → Bool
 | [] => true
 | .round _ _ _ :: _ => false
 | .mark _ :: _ => false
 | .begin _ :: _ => false
 | .code _ :: k => mq k
 | .block _ :: k => mq k
 | .inv _ :: k => mq k
theorem kq {P : Program} {fn : Func} {R : Ending → World → Prop} : ∀ {k : List KI}, mq k = true → mF P fn R k = yY P fn R ∧ marksOf k = []
 | [], _ => ⟨rfl, rfl⟩
 | .round _ _ _ :: _, h => by cases h
 | .mark _ :: _, h => by cases h
 | .begin _ :: _, h => by cases h
 | .code _ :: k, h => kq (k := k) h
 | .block _ :: k, h => kq (k := k) h
 | .inv _ :: k, h => kq (k := k) h
theorem WP.ret {P : Program} {fn : Func} {R : Ending → World → Prop} {N : Nat} {k : List KI} {L : Env} {w0 : World} {T : cD} {H : bw} {G Φ : List Pr} (hs bs : List Nat) (v : Value) (he : yk P fn L H hs = some (v, bs, bs))
  (h : ∀ w, Sat w0 T H G Φ w → R (.returned v) w) (hp : mq k = true := by rfl) : WP P fn R N (.code .ret :: k) L (Sat w0 T H G Φ) := fun a w hh hS => Cy (nh (by
 obtain ⟨h1, h2⟩ := kq (P := P) (fn := fn) (R := R) hp
 show mF P fn R k .ret (marked (marksOf k) a) w
 rw [h1, h2, qf]
 show LeavesInM Fence.wide 0 P fn a.tmps R a.defers .returning w
 rw [hh.defers]
 exact wT he hh hS (h w hS)))
def iZ (args : List Value) : Nat → Env := fun i => match args with
 | [] => []
 | v :: r => (i, v) :: iZ r (i + 1)
theorem qi : ∀ (args : List Value) (i t : Nat) (v : Value), look (iZ args i) t = some v → ∃ j, t = i + j ∧ args[j]? = some v
 | [], i, t, v, h => by simp [iZ, look] at h
 | x :: r, i, t, v, h => by
  simp only [iZ, look] at h
  split at h
  ·rename_i hb
   obtain rfl := nE hb
   exact ⟨0, rfl, by simpa using h⟩
  ·obtain ⟨j, e, hj⟩ := qi r (i + 1) t v h
   exact ⟨j + 1, by omega, by simpa using hj⟩
theorem gz {P : Program} {f : FuncId} {fn : Func} {c : Code} {args : List Value} {w : World} {R : Ending → World → Prop} {N : Nat} {L : Env} {S : Pr} (hf : P.funcs[f]? = some fn) (hb : fn.body = some c) (hn : fn.ntmps = N) (hl : args.length ≤ N)
  (hL : iZ args 0 = L) (hS : S w) (h : WP P fn R N [.code c] L S) : Calls P f args.toArray w R := by
 have h2 : c.wp P (yY P fn R) (marked [] { tmps := args.toArray ++ Array.replicate (fn.ntmps - args.toArray.size) undef, defers := [] }) w := h _ w ⟨?_, rfl, fun t v ht => ?_⟩ hS
 ·rw [qf] at h2
  exact callsIn_wide.1 (callsIn_of_wp_marks hf hb trivial (wpIn_wide.2 (wp_mono h2 fun _ _ _ => xk)))
 ·simp only [Array.size_append, List.size_toArray, Array.size_replicate, hn]; omega
 ·rw [← hL] at ht
  obtain ⟨j, e, hj⟩ := qi args 0 t v ht
  have hlt : j < args.length := by
   rcases Nat.lt_or_ge j args.length with h1 | h1
   ·exact h1
   ·rw [List.getElem?_eq_none h1] at hj; cases hj
  subst e
  rw [Nat.zero_add, Array.getElem?_append_left (by simpa using hlt)]
  simpa using hj
end Eng
namespace Eng
open Go
abbrev i64 (n : Int) : Int := IntKind.i64.wrap n
abbrev u64 (n : Int) : Int := IntKind.u64.wrap n
abbrev u32 (n : Int) : Int := IntKind.u32.wrap n
abbrev u8 (n : Int) : Int := IntKind.u8.wrap n
def eu (k : IntKind) (x y : Int) : Int := k.wrap ((BitVec.ofInt k.bits x &&& BitVec.ofInt k.bits y).toNat)
def zx (k : IntKind) (x y : Int) : Int := k.wrap ((BitVec.ofInt k.bits x ||| BitVec.ofInt k.bits y).toNat)
def um (k : IntKind) (x y : Int) : Int := k.wrap ((BitVec.ofInt k.bits x ^^^ BitVec.ofInt k.bits y).toNat)
def nr (k : IntKind) (x y : Int) : Int := k.wrap ((BitVec.ofInt k.bits x &&& ~~~BitVec.ofInt k.bits y).toNat)
def gL (x y : Int) : Int := if y < x then y else x
def wH (k : IntKind) (x y : Int) : Option Int := if y < 0 then none else some (k.wrap (x * 2 ^ (min y.toNat k.bits)))
def qS (k : IntKind) (x y : Int) : Option Int := if y < 0 then none else some (x.fdiv (2 ^ (min y.toNat k.bits)))
def wU (k : IntKind) (x y : Int) : Option Int := if y = 0 then none else some (k.wrap (x.tdiv y))
def o3 (x y : Int) : Option Int := if y = 0 then none else some (x.tmod y)
def CB (x y : ByteArray) : Option ByteArray := if x.size + y.size ≤ 9223372036854775807 then some (x ++ y) else none
def B5 (s : ByteArray) (i : Int) : Option Int := if 0 ≤ i then (s.data[i.toNat]?).map fun b => (b.toNat : Int) else none
def cI {α : Type} (n : Nat) (xs : List α) (i : Int) : Option α := if 0 ≤ i ∧ i < (n : Int) then xs[i.toNat]? else none
def cZ (n : Nat) (xs : List Int) : Option ByteArray := if n ≤ xs.length then some (strOfNums (xs.take n)) else none
def jW (bytes : Nat) (n : Int) : Option Nat := if 0 ≤ n ∧ n ≤ 9223372036854775807 ∧ (bytes : Int) * n ≤ 140737488355328 then some n.toNat else none
theorem bind_some {α β : Type} {x : Option α} {f : α → Option β} {r : β} (h : x.bind f = some r) : ∃ a, x = some a ∧ f a = some r := Option.bind_eq_some_iff.1 h
theorem aG {α : Type} {c : Bool} {x y : Option α} {r : α} (h : cond c x y = some r) (hc : c = true) : x = some r := by subst hc; exact h
theorem aH {α : Type} {c : Bool} {x y : Option α} {r : α} (h : cond c x y = some r) (hc : c = false) : y = some r := by subst hc; exact h
theorem WL.val {P : Program} {N : Nat} {ops : Array Oper} {Q : Exit → Act → World → Prop} {o : Oper} {l : List Oper} {L L' : Env} {S : Pr} {v : Value}
  (hr : ∀ w, (execOp (cE L) o).run P w = .ok (.value v) w) (hk : (o.op.operands.all (known L) && !cA o.op) = true) (hg : cu ops L o = some true) (hp : dV N o v L = some L')
  (h : WL P N ops Q l L' S) : WL P N ops Q (o :: l) L S := fun a w hh hS => by
 unfold wpList
 rw [cM hh hg, if_pos rfl]
 refine .inl ?_
 unfold Oper.wp
 rw [hh.exec hk, hr w]
 exact h _ w (hh.dV hp) hS
section
variable {P : Program} {ρ : Operand → Value} {w : World} {dst : Option Tmp} {ty : TypeId} {pos : String} {af : Array Edge} {g : Option (Nat × Bool)} {t t' : TypeId} {x y z : Operand}
theorem fo {P : Program} {t : TypeId} {d : TypeDesc} {w : World} (h : P.underlying t = some d) : (underlying t).run P w = .ok d w := by
 simp [underlying, h]
theorem bH {P : Program} {t : TypeId} {i : TypeInfo} {w : World} (h : P.info? t = some i) : (Go.sizeOf t).run P w = Result.ok i.size w := by
 simp [Go.sizeOf, typeInfo, h]
theorem xZ {a b r : ByteArray} (hx : ρ x = .string a) (hy : ρ y = .string b) (h : CB a b = some r) :
  (execOp ρ ⟨dst, .binOp .add t x y t', ty, pos, af, g⟩).run P w = .ok (.value (.string r)) w := by
 unfold CB at h
 split at h
 ·rename_i hle
  obtain rfl := oI h
  have : ¬ ((a.size + b.size : Nat) : Int) > IntKind.i64.max := by
   have e : IntKind.i64.max = 9223372036854775807 := by decide
   rw [e]; omega
  simp [execOp, hx, hy, eqGuard, binOp, Op.stringOp]
  omega
 ·cases h
theorem cr {k : IntKind} {i : Int} {n : Nat} {c : BoundsCode} (h : 0 ≤ i ∧ i ≤ (n : Int)) : (Instr.sliceBound (.int k i) n c).run P w = .ok i.toNat w := by
 simp [Instr.sliceBound, asIntOf, h]
theorem vG {k k' : IntKind} {a b r : Int} (hx : ρ x = .int k a) (hy : ρ y = .int k' b) (h : qS k a b = some r) :
  (execOp ρ ⟨dst, .binOp .shr t x y t', ty, pos, af, g⟩).run P w = .ok (.value (.int k r)) w := by
 unfold qS at h
 split at h
 ·cases h
 ·rename_i hn
  obtain rfl := oI h
  simp [execOp, hx, hy, eqGuard, binOp, Op.shift, hn]
theorem zH {k : IntKind} {a b r : Int} (hx : ρ x = .int k a) (hy : ρ y = .int k b) (h : o3 a b = some r) :
  (execOp ρ ⟨dst, .binOp .rem t x y t', ty, pos, af, g⟩).run P w = .ok (.value (.int k r)) w := by
 unfold o3 at h
 split at h
 ·cases h
 ·rename_i hn
  obtain rfl := oI h
  simp [execOp, hx, hy, eqGuard, binOp, Op.intDiv, hn]
theorem mh {k : IntKind} {i : Int} {b o n c e sz : Nat} (ht : P.underlying t = some (.slice e)) (hi : (P.info? e).map (·.size) = some sz) (hx : ρ x = .slice (some ⟨b, o, none⟩) n c) (hy : ρ y = .int k i) (h : 0 ≤ i ∧ i < (n : Int)) :
  (execOp ρ ⟨dst, .indexAddr t x y, ty, pos, af, g⟩).run P w = .ok (.value (.pointer (some ⟨b, o + i.toNat * sz, none⟩))) w := by
 obtain ⟨inf, hi', rfl⟩ := Option.map_eq_some_iff.1 hi
 have ea : Addr.add ⟨b, o, none⟩ (i.toNat * inf.size) = ⟨b, o + i.toNat * inf.size, none⟩ := by
  unfold Addr.add; split
  ·rename_i h0; simp [h0]
  ·rfl
 simp [execOp, hx, hy, Instr.indexAt, asIntOf, fo ht, h, bH hi', ea]
end
def dU {α : Type} (f : α → List Value) (xs : List α) : Array Value := (xs.flatMap f).toArray
theorem oM {α : Type} {f : α → List Value} {m : Nat} (hf : ∀ x, (f x).length = m) : ∀ {xs : List α} {i j : Nat} {x : α}, xs[i]? = some x → j < m → (xs.flatMap f)[i * m + j]? = (f x)[j]?
 | [], i, j, x, h, _ => by simp at h
 | y :: ys, 0, j, x, h, hj => by
  simp only [List.getElem?_cons_zero, Option.some.injEq] at h
  subst h
  rw [Nat.zero_mul, Nat.zero_add, List.flatMap_cons, List.getElem?_append_left (by rw [hf]; exact hj)]
 | y :: ys, i + 1, j, x, h, hj => by
  simp only [List.getElem?_cons_succ] at h
  have e : (i + 1) * m + j = (f y).length + (i * m + j) := by rw [hf, Nat.succ_mul]; omega
  rw [List.flatMap_cons, e, List.getElem?_append_right (by omega), Nat.add_sub_cancel_left]
  exact oM hf h hj
theorem pS {α : Type} {f : α → List Value} {m : Nat} (hf : ∀ x, (f x).length = m) {xs : List α} {i j : Nat} {x : α} (h : xs[i]? = some x) (hj : j < m) : (dU f xs)[i * m + j]? = (f x)[j]? := by
 unfold dU; rw [List.getElem?_toArray]; exact oM hf h hj
theorem wP {α : Type} {f : α → List Value} {m : Nat} (hf : ∀ x, (f x).length = m) (xs : List α) : (dU f xs).size = xs.length * m := by
 unfold dU
 rw [List.size_toArray]
 induction xs with
 | nil => simp
 | cons y ys ih => rw [List.flatMap_cons, List.length_append, hf, ih, List.length_cons, Nat.succ_mul]; omega
theorem oL {α : Type} {f : α → List Value} {m : Nat} (hf : ∀ x, (f x).length = m) : ∀ {xs : List α} {i j : Nat} {x x' : α} {v : Value}, xs[i]? = some x → j < m → (f x).set j v = f x' → (xs.flatMap f).set (i * m + j) v = (xs.set i x').flatMap f
 | [], i, j, x, x', v, h, _, _ => by simp at h
 | y :: ys, 0, j, x, x', v, h, hj, hs => by
  simp only [List.getElem?_cons_zero, Option.some.injEq] at h
  subst h
  rw [Nat.zero_mul, Nat.zero_add, List.flatMap_cons, List.set_append_left _ _ (by rw [hf]; exact hj), hs, List.set_cons_zero, List.flatMap_cons]
 | y :: ys, i + 1, j, x, x', v, h, hj, hs => by
  simp only [List.getElem?_cons_succ] at h
  have e : (i + 1) * m + j = (f y).length + (i * m + j) := by rw [hf, Nat.succ_mul]; omega
  rw [List.flatMap_cons, e, List.set_append_right _ _ (by omega), Nat.add_sub_cancel_left, oL hf h hj hs, List.set_cons_succ, List.flatMap_cons]
theorem yc {α : Type} {f : α → List Value} {m : Nat} (hf : ∀ x, (f x).length = m) {xs : List α} {i j : Nat} {x x' : α} {v : Value} (h : xs[i]? = some x) (hj : j < m) (hs : (f x).set j v = f x') :
  (dU f xs).setIfInBounds (i * m + j) v = dU f (xs.set i x') := by
 unfold dU
 rw [List.setIfInBounds_toArray, oL hf h hj hs]
theorem bg {α : Type} {n : Nat} {xs : List α} {i : Int} {x : α} (h : cI n xs i = some x) : (0 ≤ i ∧ i < (n : Int)) ∧ xs[i.toNat]? = some x := by
 unfold cI at h
 split at h
 ·rename_i hh; exact ⟨hh, h⟩
 ·cases h
theorem WL.wD {P : Program} {N : Nat} {ops : Array Oper} {Q : Exit → Act → World → Prop} {ty : TypeId} {pos : String} {af : Array Edge} {g : Option (Nat × Bool)} {t : TypeId} {x y : Operand} {l : List Oper} {L : Env} {w0 : World} {T : cD} {H H' : bw} {G Φ : List Pr}
  {b off : Nat} {cs cs' : Array Value} {e : TypeId} {u v : Value} (j : Nat) (hsz : ∀ w, (Go.sizeOf t).run P w = .ok 1 w)
  (hk : known L x = true) (hk' : known L y = true) (hx : cE L x = .pointer (some ⟨b, off, none⟩)) (hy : cE L y = v) (hone : sq v = true) (hj : H[j]? = some (b, .cells cs e (0, 0))) (hv : cs[off]? = some u) (hs : cs.setIfInBounds off v = cs') (hH : H.set j (b, .cells cs' e (0, 0)) = H')
  (hg : cu ops L ⟨none, .store t x y, ty, pos, af, g⟩ = some true) (h : WL P N ops Q l L (Sat w0 T H' G Φ)) : WL P N ops Q (⟨none, .store t x y, ty, pos, af, g⟩ :: l) L (Sat w0 T H G Φ) := fun a w hh hS => by
 unfold wpList
 rw [cM hh hg, if_pos rfl]
 refine .inl ?_
 unfold Oper.wp
 rw [hh.exec (by simp [Op.operands, cA, hk, hk'])]
 have hc := cell_of (a := ⟨b, off, none⟩) (hS.get hj) rfl rfl hv
 have hf : w.frozen? ⟨b, off, none⟩ = false := by
  rw [lO (hS.get hj) rfl]; simp [Nat.blt]; rfl
 have hcl : v.cells = #[v] := by cases v <;> first | rfl | cases hone
 have hone' : v.oneCell' = true := by cases v <;> first | rfl | cases hone
 have : (execOp (cE L) ⟨none, .store t x y, ty, pos, af, g⟩).run P w = .ok .skip (w.setCell ⟨b, off, none⟩ v) := by
  have e0 : Addr.add ⟨b, off, none⟩ 0 = ⟨b, off, none⟩ := rfl
  simp [execOp, hx, hy, Instr.storeAt, Instr.sureAddr, storeVar, hsz, hcl, storeCells, e0, run_store P w ⟨b, off, none⟩ v .plain hone', hc, hf]
 rw [this]
 have hS2 : Sat w0 T H' G Φ (w.setCell ⟨b, off, none⟩ v) := by
  rw [← hH, ← hs]
  exact hS.iL hj rfl rfl rfl (by simp) (heap_setCell_same (hS.get hj) rfl rfl) (heap_setCell_other rfl)
 exact h a _ hh hS2
theorem rl {α : Type} {f : α → List Value} {z : α} {zv : Value} (hzc : zv.cells.toList = f z) (hpos : 0 < (f z).length) (hf : ∀ x, (f x).length = (f z).length) (n : Nat) :
  (Array.range (n * (f z).length)).map (fun i => zv.cells[i % zv.cells.size]!) = dU f (List.replicate n z) := by
 have hs : zv.cells.size = (f z).length := by rw [← hzc]; simp
 apply Array.ext
 ·rw [wP hf]; simp
 ·intro i h1 h2
  simp only [Array.size_map, Array.size_range] at h1
  have hq : i / (f z).length < n := Nat.div_lt_of_lt_mul (by rw [Nat.mul_comm]; exact h1)
  have hr : i % (f z).length < (f z).length := Nat.mod_lt _ hpos
  have hd : i / (f z).length * (f z).length + i % (f z).length = i := by rw [Nat.mul_comm]; exact Nat.div_add_mod _ _
  have := pS hf (xs := List.replicate n z) (i := i / (f z).length) (j := i % (f z).length) (x := z) (by simp [hq]) hr
  rw [hd] at this
  have h3 : (dU f (List.replicate n z))[i]? = some ((dU f (List.replicate n z))[i]) := Array.getElem?_eq_getElem h2
  rw [h3] at this
  have h4 : (f z)[i % (f z).length]? = some ((f z)[i % (f z).length]) := List.getElem?_eq_getElem hr
  rw [h4] at this
  have h5 := oI this
  rw [h5]
  have hlt : i % zv.cells.size < zv.cells.size := by rw [hs]; exact hr
  simp only [Array.getElem_map, Array.getElem_range]
  rw [getElem!_pos zv.cells _ hlt]
  have : zv.cells[i % zv.cells.size] = zv.cells.toList[i % zv.cells.size]'(by simpa using hlt) := by simp
  rw [this]
  simp only [hzc, hs]
theorem Sem.ao {α β : Type} {P : Program} {x : Sem α} {f : α → Sem β} {w w' : World} {a : α} (h : x.run P w = .ok a w') : (x >>= f).run P w = (f a).run P w' := by
 rw [Sem.run_bind, h]; rfl
theorem WL.makeSlice {P : Program} {N : Nat} {ops : Array Oper} {Q : Exit → Act → World → Prop} {d : Tmp} {ty : TypeId} {pos : String} {af : Array Edge} {g : Option (Nat × Bool)} {t e : TypeId} {x : Operand} {l : List Oper} {L : Env} {w0 : World} {T : cD} {H : bw} {G Φ : List Pr} {α : Type} {f : α → List Value}
  {k : IntKind} {i : Int} {n by_ : Nat} {z : α} {zv : Value} (ht : P.underlying t = some (.slice e)) (hi : (P.info? e).map (fun q => (q.zero, q.size, q.bytes)) = some (some zv, (f z).length, by_)) (hzc : zv.cells.toList = f z) (hpos : 0 < (f z).length) (hf : ∀ x, (f x).length = (f z).length) (hk : known L x = true) (hx : cE L x = .int k i) (hm : jW by_ i = some n)
  (hg : cu ops L ⟨some d, .makeSlice t x x, ty, pos, af, g⟩ = some true) (hd : Nat.blt d N = true) 
  (h : ∀ b, WL P N ops Q l ((d, .slice (some ⟨b, 0, none⟩) n n) :: L) (Sat w0 T (H ++ [(b, .cells (dU f (List.replicate n z)) e (0, 0))]) G Φ)) :
  WL P N ops Q (⟨some d, .makeSlice t x x, ty, pos, af, g⟩ :: l) L (Sat w0 T H G Φ) := fun a w hh hS => by
 unfold wpList
 rw [cM hh hg, if_pos rfl]
 refine .inl ?_
 unfold Oper.wp
 rw [hh.exec (by simp [Op.operands, cA, hk])]
 obtain ⟨inf, hi', hq⟩ := Option.map_eq_some_iff.1 hi
 clear hi
 have hi := hi'
 clear hi'
 obtain ⟨hz, hsz, rfl⟩ : inf.zero = some zv ∧ inf.size = (f z).length ∧ inf.bytes = by_ := by simpa using hq
 unfold jW at hm
 split at hm
 ·rename_i hb
  obtain ⟨h0, h1, h2⟩ := hb
  obtain rfl := oI hm
  have hw : IntKind.i64.wrap i = i := by
   have e1 : IntKind.i64.signed = true := rfl
   have e2 : IntKind.i64.bits = 64 := rfl
   unfold IntKind.wrap
   rw [e1, e2]
   simp only [Bool.true_and]
   have hm : i % (2 ^ 64 : Int) = i := Int.emod_eq_of_lt h0 (by omega)
   rw [hm, if_neg (by simp; omega)]
  have hty : (typeInfo e).run P w = .ok inf w := by simp [typeInfo, hi]
  have hng : ¬ (i < 0) := by omega
  have hbig : ¬ ((inf.bytes : Int) * i > 2 ^ 48) := by omega
  have hrow : (Array.range (i.toNat * inf.size)).map (fun j => zv.cells[j % zv.cells.size]!) = dU f (List.replicate i.toNat z) := by
   rw [hsz]; exact rl hzc hpos hf i.toNat
  have hask : ∀ m, (askRoom m).run P w = .ok () w := by intro m; unfold askRoom; split <;> rfl
  have : (execOp (cE L) ⟨some d, .makeSlice t x x, ty, pos, af, g⟩).run P w = .ok (.value (.slice (some ⟨w.heap.size, 0, none⟩) i.toNat i.toNat)) { w with heap := w.heap.push (.cells (dU f (List.replicate i.toNat z)) e (0, 0)) } := by
   simp only [execOp, hx, Instr.makeSlice]
   rw [Sem.ao (a := Value.slice (some ⟨w.heap.size, 0, none⟩) i.toNat i.toNat) (w' := { w with heap := w.heap.push (.cells (dU f (List.replicate i.toNat z)) e (0, 0)) })]
   ·rfl
   ·rw [Sem.ao (fo ht)]
    simp only [asInt, asIntOf]
    simp only [Sem.run_bind, hty, Result.andThen, Sem.run_pure, hw]
    rw [if_neg (by simp; omega)]
    rw [Sem.ao (hask _), Sem.ao (bH hi)]
    by_cases hz0 : i.toNat * inf.size = 0
    ·have hi0 : i.toNat = 0 := by
      rcases Nat.mul_eq_zero.1 hz0 with h | h
      ·exact h
      ·omega
     rw [if_pos hz0]
     rw [hi0]
     have hr0 : ∀ (g : Nat → Value), Array.map g (Array.range (0 * inf.size)) = #[] := fun g => by
      apply Array.eq_empty_of_size_eq_zero; simp
     have hrf : dU f (List.replicate 0 z) = #[] := rfl
     simp only [Sem.run_bind, Sem.run_pure, Result.andThen, newRow, newObj, Sem.run, hr0, hrf]
    ·rw [if_neg hz0]
     have hzr : (zeroValue e).run P w = .ok zv w := by simp [zeroValue, hty, hz]
     rw [Sem.ao hzr]
     simp only [Sem.run_bind, Sem.run_pure, Result.andThen, newRow, newObj, Sem.run, hrow]
  rw [this]
  have hlt : d < N := nB hd
  exact h w.heap.size _ _ (hh.put hlt _) (hS.alloc _)
 ·cases hm
end Eng
namespace Eng
open Go
def dH : List Bool → bw → bw
 | true :: m, p :: H => p :: dH m H
 | false :: m, _ :: H => dH m H
 | _, _ => []
def dB : List Bool → bw → bw
 | true :: m, _ :: H => dB m H
 | false :: m, p :: H => p :: dB m H
 | _, H => H
theorem iR : ∀ (m : List Bool) (H : bw) (p : Nat × Obj), p ∈ H ↔ p ∈ dH m H ∨ p ∈ dB m H
 | true :: m, q :: H, p => by simp only [dH, dB, List.mem_cons]; rw [iR m H p, or_assoc]
 | false :: m, q :: H, p => by simp only [dH, dB, List.mem_cons]; rw [iR m H p]; exact ⟨fun h => by rcases h with h | h | h; exact .inr (.inl h); exact .inl h; exact .inr (.inr h), fun h => by rcases h with h | h | h; exact .inr (.inl h); exact .inl h; exact .inr (.inr h)⟩
 | true :: m, [], p => by simp [dH, dB]
 | false :: m, [], p => by simp [dH, dB]
 | [], H, p => by simp [dH, dB]
theorem iN : ∀ (m : List Bool) (H : bw), (dH m H ++ dB m H).Perm H
 | true :: m, q :: H => by simp only [dH, dB, List.cons_append]; exact (iN m H).cons q
 | false :: m, q :: H => by simp only [dH, dB]; exact List.perm_middle.trans ((iN m H).cons q)
 | true :: m, [] => by simp [dH, dB]
 | false :: m, [] => by simp [dH, dB]
 | [], H => by simp [dH, dB]
theorem dg (A B : bw) : keys (A ++ B) = keys A ++ keys B := by simp [keys]
theorem keys_perm {A B : bw} (h : A.Perm B) : (keys A).Perm (keys B) := h.map _
theorem Sat.mA {w0 w : World} {T : cD} {H : bw} {G Φ : List Pr} (h : Sat w0 T H G Φ w) (m : List Bool) : Sat w0 T (dH m H) G Φ w := by
 obtain ⟨Fs, o⟩ := h.own
 have hp := (keys_perm (iN m H)).append_right Fs.flatten
 have hnd := hp.nodup_iff.2 o.nd
 rw [dg] at hnd
 have hsub : ∀ k, k ∈ keys (dH m H) ++ Fs.flatten → k ∈ keys H ++ Fs.flatten := fun k hk => by
  refine hp.mem_iff.1 ?_
  rw [dg]
  simp only [List.mem_append] at hk ⊢
  rcases hk with hk | hk
  ·exact .inl (.inl hk)
  ·exact .inr hk
 refine ⟨h.os, h.tape, h.output, h.size, h.frame, Fs, ?_, fun k hk => o.dG k (hsub k hk), fun p hpm => o.has p ((iR m H p).2 (.inl hpm)), o.g, fun φ hφ => ?_⟩
 ·rw [List.nodup_append] at hnd ⊢
  rw [List.nodup_append] at hnd
  exact ⟨hnd.1.1, hnd.2.1, fun a ha b hb => hnd.2.2 a (by simp only [List.mem_append]; exact .inl ha) b hb⟩
 ·obtain ⟨F, hl, hn, ha⟩ := o.ro φ hφ
  exact ⟨F, hl, fun k hkF hk => hn k hkF (hsub k hk), ha⟩
def mi (is : List Nat) (H : bw) : bw := is.filterMap fun i => H[i]?
def lS : List Nat → Bool
 | [] => true
 | i :: is => !(is.any (Nat.beq i)) && lS is
theorem ud {i : Nat} {is : List Nat} (h : (is.any (Nat.beq i)) = false) : i ∉ is := fun hm => by
 have : is.any (Nat.beq i) = true := List.any_eq_true.2 ⟨i, hm, Nat.beq_refl i⟩
 rw [h] at this; cases this
theorem oa {is : List Nat} {H : bw} {p : Nat × Obj} (h : p ∈ mi is H) : ∃ i ∈ is, H[i]? = some p := List.mem_filterMap.1 h
theorem oH {H : bw} (hn : (keys H).Nodup) : ∀ {is : List Nat}, lS is = true → (keys (mi is H)).Nodup
 | [], _ => by simp [mi, keys]
 | i :: is, h => by
  simp only [lS, Bool.and_eq_true, Bool.not_eq_true'] at h
  have ih := oH hn (is := is) h.2
  unfold mi
  rw [List.filterMap_cons]
  cases hi : H[i]? with
  | none => exact ih
  | some p =>
   show (p.1 :: keys (mi is H)).Nodup
   refine List.nodup_cons.2 ⟨fun hm => ?_, ih⟩
   rw [keys, List.mem_map] at hm
   obtain ⟨q, hq, e⟩ := hm
   obtain ⟨j, hj, hHj⟩ := oa hq
   have h1 : (keys H)[i]? = some p.1 := by simp [keys, hi]
   have h2 : (keys H)[j]? = some p.1 := by simp [keys, hHj, e]
   have hlt : i < (keys H).length := by
    rcases Nat.lt_or_ge i (keys H).length with h' | h'
    ·exact h'
    ·rw [List.getElem?_eq_none h'] at h1; cases h1
   have : i = j := (List.getElem?_inj hlt hn).1 (h1.trans h2.symm)
   subst this
   exact ud h.1 hj
theorem Sat.pick {w0 w : World} {T : cD} {H : bw} {G Φ : List Pr} (h : Sat w0 T H G Φ w) (is : List Nat) (hd : lS is = true) : Sat w0 T (mi is H) G Φ w := by
 obtain ⟨Fs, o⟩ := h.own
 have hnd := o.nd
 rw [List.nodup_append] at hnd
 have hsub : ∀ k, k ∈ keys (mi is H) → k ∈ keys H := fun k hk => by
  rw [keys, List.mem_map] at hk ⊢
  obtain ⟨q, hq, e⟩ := hk
  obtain ⟨j, _, hHj⟩ := oa hq
  exact ⟨q, List.mem_of_getElem? hHj, e⟩
 have hsub2 : ∀ k, k ∈ keys (mi is H) ++ Fs.flatten → k ∈ keys H ++ Fs.flatten := fun k hk => by
  rw [List.mem_append] at hk ⊢
  rcases hk with hk | hk
  ·exact .inl (hsub k hk)
  ·exact .inr hk
 refine ⟨h.os, h.tape, h.output, h.size, h.frame, Fs, ?_, fun k hk => o.dG k (hsub2 k hk), fun p hpm => ?_, o.g, fun φ hφ => ?_⟩
 ·rw [List.nodup_append]
  exact ⟨oH hnd.1 hd, hnd.2.1, fun a ha b hb => hnd.2.2 a (hsub a ha) b hb⟩
 ·obtain ⟨j, _, hHj⟩ := oa hpm
  exact o.has p (List.mem_of_getElem? hHj)
 ·obtain ⟨F, hl, hn, ha⟩ := o.ro φ hφ
  exact ⟨F, hl, fun k hkF hk => hn k hkF (hsub2 k hk), ha⟩
theorem Sat.less {w0 w : World} {T : cD} {H : bw} {G Φ Φ' : List Pr} (h : Sat w0 T H G Φ w) (hs : ∀ φ ∈ Φ', φ ∈ Φ) : Sat w0 T H G Φ' w := by
 obtain ⟨Fs, o⟩ := h.own
 exact ⟨h.os, h.tape, h.output, h.size, h.frame, Fs, o.nd, o.dG, o.has, o.g, fun φ hφ => o.ro φ (hs φ hφ)⟩
theorem GS.append {w : World} : ∀ {Fs Fs' : List (List Nat)} {G G' : List Pr}, GS Fs G w → GS Fs' G' w → GS (Fs ++ Fs') (G ++ G') w
 | [], _, [], _, _, h => h
 | F :: Fs, _, g :: gs, _, h, h' => ⟨h.1, GS.append h.2 h'⟩
 | [], _, _ :: _, _, h, _ => h.elim
 | _ :: _, _, [], _, h, _ => h.elim
theorem Sat.call {w0 w : World} {T : cD} {H : bw} {G Φ : List Pr} (h : Sat w0 T H G Φ w) (m : List Bool) :
  ∃ Z : cD, Sat w Z (dH m H) [] Φ w ∧ ∀ H1 G1 Φ1 w', Sat w Z H1 G1 Φ1 w' → Sat w0 T (H1 ++ dB m H) (G1 ++ G) (Φ1 ++ Φ) w' := by
 obtain ⟨Fs, o⟩ := h.own
 have hp := (keys_perm (iN m H)).append_right Fs.flatten
 have hnd := hp.nodup_iff.2 o.nd
 rw [dg, List.nodup_append, List.nodup_append] at hnd
 obtain ⟨⟨hn0, hnr, hdis⟩, hnF, hdisF⟩ := hnd
 have hmem : ∀ k, k ∈ keys H ↔ k ∈ keys (dH m H) ∨ k ∈ keys (dB m H) := fun k => by
  rw [← (keys_perm (iN m H)).mem_iff, dg, List.mem_append]
 let A : Nat → Prop := fun k => k ∉ keys H ++ Fs.flatten ∧ (T.a k ∨ k ∈ T.t ∨ w0.heap.size ≤ k) ∧ k < w.heap.size
 refine ⟨⟨keys (dH m H), A⟩, ⟨rfl, rfl, rfl, Nat.le_refl _, fun _ _ _ => rfl, [], by simpa using hn0, fun k hk => ?_, fun p hpm => o.has p ((iR m H p).2 (.inl hpm)), trivial, fun φ hφ => ?_⟩, fun H1 G1 Φ1 w' h' => ?_⟩
 ·simp only [List.flatten_nil, List.append_nil] at hk
  exact ⟨.inl hk, (o.dG k (by simp only [List.mem_append]; exact .inl ((hmem k).2 (.inl hk)))).2⟩
 ·obtain ⟨F, hl, hn, ha⟩ := o.ro φ hφ
  refine ⟨F, hl, fun k hkF hk => ?_, fun k hkF => .inl ⟨hn k hkF, ha k hkF, hl.lt k hkF⟩⟩
  simp only [List.flatten_nil, List.append_nil] at hk
  exact hn k hkF (by simp only [List.mem_append]; exact .inl ((hmem k).2 (.inl hk)))
 ·obtain ⟨Fs1, o1⟩ := h'.own
  -- a block that the callee did not get, and that was there, is as it was
  have hstay : ∀ k, k < w.heap.size → k ∉ keys (dH m H) → w'.heap[k]? = w.heap[k]? := fun k hk hn => h'.frame k hk hn
  have hrest : ∀ k, k ∈ keys (dB m H) ++ Fs.flatten → k < w.heap.size ∧ k ∉ keys (dH m H) := fun k hk => by
   rw [List.mem_append] at hk
   rcases hk with hk | hk
   ·exact ⟨(o.dG k (by simp only [List.mem_append]; exact .inl ((hmem k).2 (.inr hk)))).2, fun h0 => hdis k h0 k hk rfl⟩
   ·exact ⟨(o.dG k (by simp only [List.mem_append]; exact .inr hk)).2, fun h0 => hdisF k (by simp only [List.mem_append]; exact .inl h0) k hk rfl⟩
  have hnew : ∀ k, k ∈ keys H1 ++ Fs1.flatten → k ∉ keys (dB m H) ++ Fs.flatten := fun k hk hr => by
   rcases (o1.dG k hk).1 with h0 | h0
   ·exact (hrest k hr).2 h0
   ·have := (hrest k hr).1; omega
  refine ⟨h'.os.trans h.os, h'.tape.trans h.tape, h'.output.trans h.output, Nat.le_trans h.size h'.size, fun k hk0 hT => ?_, Fs1 ++ Fs, ?_, fun k hk => ?_, fun p hpm => ?_, ?_, fun φ hφ => ?_⟩
  ·rw [hstay k (Nat.lt_of_lt_of_le hk0 h.size) (fun h0 => ?_)]
   ·exact h.frame k hk0 hT
   ·rcases (o.dG k (by simp only [List.mem_append]; exact .inl ((hmem k).2 (.inl h0)))).1 with h1 | h1
    ·exact hT h1
    ·omega
  ·rw [dg, List.flatten_append]
   have h1 := o1.nd
   rw [List.nodup_append] at h1 ⊢
   rw [List.nodup_append, List.nodup_append]
   refine ⟨⟨h1.1, hnr, fun a ha b hb e => ?_⟩, ⟨h1.2.1, hnF, fun a ha b hb e => ?_⟩, fun a ha b hb e => ?_⟩
   ·subst e; exact hnew a (by simp only [List.mem_append]; exact .inl ha) (by simp only [List.mem_append]; exact .inl hb)
   ·subst e; exact hnew a (by simp only [List.mem_append]; exact .inr ha) (by simp only [List.mem_append]; exact .inr hb)
   ·subst e
    rw [List.mem_append] at ha hb
    rcases ha with ha | ha <;> rcases hb with hb | hb
    ·exact h1.2.2 a ha a hb rfl
    ·exact hnew a (by simp only [List.mem_append]; exact .inl ha) (by simp only [List.mem_append]; exact .inr hb)
    ·exact hnew a (by simp only [List.mem_append]; exact .inr hb) (by simp only [List.mem_append]; exact .inl ha)
    ·exact hdisF a (by simp only [List.mem_append]; exact .inr ha) a hb rfl
  ·rw [dg, List.flatten_append] at hk
   have hc : k ∈ keys H1 ++ Fs1.flatten ∨ k ∈ keys (dB m H) ++ Fs.flatten := by
    simp only [List.mem_append] at hk ⊢
    rcases hk with (hk | hk) | (hk | hk)
    ·exact .inl (.inl hk)
    ·exact .inr (.inl hk)
    ·exact .inl (.inr hk)
    ·exact .inr (.inr hk)
   rcases hc with hc | hc
   ·refine ⟨?_, (o1.dG k hc).2⟩
    rcases (o1.dG k hc).1 with h0 | h0
    ·exact (o.dG k (by simp only [List.mem_append]; exact .inl ((hmem k).2 (.inl h0)))).1
    ·exact .inr (Nat.le_trans h.size h0)
   ·have hko : k ∈ keys H ++ Fs.flatten := by
     simp only [List.mem_append] at hc ⊢
     rcases hc with hc | hc
     ·exact .inl ((hmem k).2 (.inr hc))
     ·exact .inr hc
    exact ⟨(o.dG k hko).1, Nat.lt_of_lt_of_le (o.dG k hko).2 h'.size⟩
  ·rw [List.mem_append] at hpm
   rcases hpm with hpm | hpm
   ·exact o1.has p hpm
   ·have hk : p.1 ∈ keys (dB m H) ++ Fs.flatten := by simp only [keys, List.mem_append, List.mem_map]; exact .inl ⟨p, hpm, rfl⟩
    rw [hstay p.1 (hrest _ hk).1 (hrest _ hk).2]
    exact o.has p ((iR m H p).2 (.inr hpm))
  ·refine o1.g.append (o.g.mono h'.size fun k hk => ?_)
   have hk' : k ∈ keys (dB m H) ++ Fs.flatten := by simp only [List.mem_append]; exact .inr hk
   exact hstay k (hrest _ hk').1 (hrest _ hk').2
  ·have hsplit : ∀ k, k ∈ keys (H1 ++ dB m H) ++ (Fs1 ++ Fs).flatten → k ∈ keys H1 ++ Fs1.flatten ∨ k ∈ keys (dB m H) ++ Fs.flatten := fun k hk => by
    rw [dg, List.flatten_append] at hk
    simp only [List.mem_append] at hk ⊢
    rcases hk with (hk | hk) | (hk | hk)
    ·exact .inl (.inl hk)
    ·exact .inr (.inl hk)
    ·exact .inl (.inr hk)
    ·exact .inr (.inr hk)
   have hrest2 : ∀ k, k ∈ keys (dB m H) ++ Fs.flatten → k ∈ keys H ++ Fs.flatten := fun k hc => by
    simp only [List.mem_append] at hc ⊢
    rcases hc with hc | hc
    ·exact .inl ((hmem k).2 (.inr hc))
    ·exact .inr hc
   rw [List.mem_append] at hφ
   rcases hφ with hφ | hφ
   ·obtain ⟨F, hl, hn, ha⟩ := o1.ro φ hφ
    refine ⟨F, hl, fun k hkF hk => ?_, fun k hkF => ?_⟩
    ·rcases hsplit k hk with hk | hk
     ·exact hn k hkF hk
     ·rcases ha k hkF with h0 | h0 | h0
      ·exact h0.1 (hrest2 k hk)
      ·exact (hrest k hk).2 h0
      ·have := (hrest k hk).1; omega
    ·rcases ha k hkF with h0 | h0 | h0
     ·exact h0.2.1
     ·exact .inr (o.dG k (by simp only [List.mem_append]; exact .inl ((hmem k).2 (.inl h0)))).1
     ·exact .inr (.inr (Nat.le_trans h.size h0))
   ·obtain ⟨F, hl, hn, ha⟩ := o.ro φ hφ
    have hno : ∀ k ∈ F, k ∉ keys (dH m H) := fun k hkF hk => hn k hkF (by simp only [List.mem_append]; exact .inl ((hmem k).2 (.inl hk)))
    refine ⟨F, hl.mono h'.size fun k hkF => hstay k (hl.lt k hkF) (hno k hkF), fun k hkF hk => ?_, ha⟩
    rcases hsplit k hk with hk | hk
    ·rcases (o1.dG k hk).1 with h0 | h0
     ·exact hno k hkF h0
     ·have := hl.lt k hkF; omega
    ·exact hn k hkF (hrest2 k hk)
def Pure (P : Program) (Φ0 : List Pr) (f : FuncId) (args : Array Value) (v : Value) : Prop := ∀ w Z, Sat w Z [] [] Φ0 w → Calls P f args w fun e w' => e = .returned v ∧ Sat w Z [] [] Φ0 w'
theorem Sat.nil (w : World) (Z : cD) : Sat w Z [] [] [] w := ⟨rfl, rfl, rfl, Nat.le_refl _, fun _ _ _ => rfl, [], by simp [keys], by simp [keys], by simp, trivial, by simp⟩
theorem Pure.at {P : Program} {Φ0 : List Pr} {f : FuncId} {args : Array Value} {v : Value} (h : Pure P Φ0 f args v) {w0 w : World} {T : cD} {H : bw} {G Φ : List Pr} (hΦ : ∀ φ ∈ Φ0, φ ∈ Φ) (hS : Sat w0 T H G Φ w) : Calls P f args w fun e w' => e = .returned v ∧ Sat w0 T H G Φ w' := by
 obtain ⟨Z, h0, hback⟩ := hS.call []
 exact (h w Z (h0.less hΦ)).mono fun e w' ⟨he, hS'⟩ => ⟨he, (hback [] [] Φ0 w' hS').less fun φ hφ => List.mem_append_right _ hφ⟩
theorem WL.cQ {P : Program} {Φ0 : List Pr} {N : Nat} {ops : Array Oper} {Q : Exit → Act → World → Prop} {o : Oper} {l : List Oper} {L L' : Env} {w0 : World} {T : cD} {H : bw} {G Φ : List Pr} {f : FuncId} {args : Array Value} {v : Value} (hs bs : List Nat)
  (hc : Pure P Φ0 f args v) (hΦ : ∀ φ ∈ Φ0, φ ∈ Φ) (he : ja P o L H hs = some (f, args, bs, bs)) (hg : cu ops L o = some true) (hp : dV N o v L = some L')
  (h : WL P N ops Q l L' (Sat w0 T H G Φ)) : WL P N ops Q (o :: l) L (Sat w0 T H G Φ) :=
 WL.call (X := Unit) hs bs (fun _ => v) (fun _ => Sat w0 T H G Φ) (fun _ => L') he hg (fun w hS => (hc.at hΦ hS).mono fun e w' ⟨a, b⟩ => ⟨(), a, b⟩) (fun _ => hp) (fun _ => h)
def eT (P : Program) (f : FuncId) (args : Array Value) (H0 : bw) (Φ0 : List Pr) {X : Type} (V : X → Value) (H1 : X → bw) (G1 Φ1 : X → List Pr) : Prop :=
 ∀ w Z, Sat w Z H0 [] Φ0 w → Calls P f args w fun e w' => ∃ x, e = .returned (V x) ∧ Sat w Z (H1 x) (G1 x) (Φ1 x) w'
theorem WL.Bk {P : Program} {N : Nat} {ops : Array Oper} {Q : Exit → Act → World → Prop} {o : Oper} {l : List Oper} {L : Env} {w0 : World} {T : cD} {H H0 Hr : bw} {G Φ Φ0 : List Pr} {f : FuncId} {args : Array Value} {X : Type} {V : X → Value} {H1 : X → bw} {G1 Φ1 : X → List Pr} (hs bs : List Nat) (m : List Bool) (L' : X → Env)
  (hc : eT P f args H0 Φ0 V H1 G1 Φ1) (hm : dH m H = H0) (hr : dB m H = Hr) (hΦ : ∀ φ ∈ Φ0, φ ∈ Φ) (he : ja P o L H hs = some (f, args, bs, bs)) (hg : cu ops L o = some true) (hp : ∀ x, dV N o (V x) L = some (L' x))
  (h : ∀ x, WL P N ops Q l (L' x) (Sat w0 T (H1 x ++ Hr) (G1 x ++ G) (Φ1 x ++ Φ))) : WL P N ops Q (o :: l) L (Sat w0 T H G Φ) := by
 refine WL.call (X := X) hs bs V (fun x => Sat w0 T (H1 x ++ Hr) (G1 x ++ G) (Φ1 x ++ Φ)) L' he hg (fun w hS => ?_) hp h
 obtain ⟨Z, h0, hback⟩ := hS.call m
 subst hm; subst hr
 exact (hc w Z (h0.less hΦ)).mono fun e w' ⟨x, a, b⟩ => ⟨x, a, hback _ _ _ _ b⟩
theorem WL.qC {P : Program} {N : Nat} {ops : Array Oper} {Q : Exit → Act → World → Prop} {o : Oper} {l : List Oper} {L : Env} {w0 : World} {T : cD} {H H0 Hr : bw} {G Φ Φ0 : List Pr} {f : FuncId} {args : Array Value} {X : Type} {V : X → Value} {H1 : X → bw} (hs bs : List Nat) (m : List Bool) (L' : X → Env)
  (hc : eT P f args H0 Φ0 V H1 (fun _ => []) (fun _ => Φ0)) (hm : dH m H = H0) (hr : dB m H = Hr) (hΦ : ∀ φ ∈ Φ0, φ ∈ Φ) (he : ja P o L H hs = some (f, args, bs, bs)) (hg : cu ops L o = some true) (hp : ∀ x, dV N o (V x) L = some (L' x))
  (h : ∀ x, WL P N ops Q l (L' x) (Sat w0 T (H1 x ++ Hr) G Φ)) : WL P N ops Q (o :: l) L (Sat w0 T H G Φ) := by
 refine WL.Bk hs bs m L' hc hm hr hΦ he hg hp fun x => ?_
 exact fun a w hh hS => h x a w hh (hS.less fun φ hφ => List.mem_append_right _ hφ)
theorem Sat.fact {w0 w : World} {T : cD} {H : bw} {G Φ : List Pr} (h : Sat w0 T H G Φ w) {φ : Pr} (hφ : φ ∈ Φ) : φ w := by
 obtain ⟨Fs, o⟩ := h.own
 obtain ⟨F, hl, _, _⟩ := o.ro φ hφ
 exact hl.now
theorem WL.mA {P : Program} {N : Nat} {ops : Array Oper} {Q : Exit → Act → World → Prop} {l : List Oper} {L : Env} {w0 : World} {T : cD} {H H' : bw} {G Φ : List Pr} (m : List Bool) (hm : dH m H = H') (h : WL P N ops Q l L (Sat w0 T H' G Φ)) : WL P N ops Q l L (Sat w0 T H G Φ) := fun a w hh hS => h a w hh (hm ▸ hS.mA m)
theorem WP.mA {P : Program} {fn : Func} {R : Ending → World → Prop} {N : Nat} {k : List KI} {L : Env} {w0 : World} {T : cD} {H H' : bw} {G Φ : List Pr} (m : List Bool) (hm : dH m H = H') (h : WP P fn R N k L (Sat w0 T H' G Φ)) : WP P fn R N k L (Sat w0 T H G Φ) := fun a w hh hS => h a w hh (hm ▸ hS.mA m)
theorem WL.pick {P : Program} {N : Nat} {ops : Array Oper} {Q : Exit → Act → World → Prop} {l : List Oper} {L : Env} {w0 : World} {T : cD} {H H' : bw} {G Φ : List Pr} (is : List Nat) (hd : lS is = true) (hm : mi is H = H') (h : WL P N ops Q l L (Sat w0 T H' G Φ)) : WL P N ops Q l L (Sat w0 T H G Φ) := fun a w hh hS => h a w hh (hm ▸ hS.pick is hd)
theorem WP.pick {P : Program} {fn : Func} {R : Ending → World → Prop} {N : Nat} {k : List KI} {L : Env} {w0 : World} {T : cD} {H H' : bw} {G Φ : List Pr} (is : List Nat) (hd : lS is = true) (hm : mi is H = H') (h : WP P fn R N k L (Sat w0 T H' G Φ)) : WP P fn R N k L (Sat w0 T H G Φ) := fun a w hh hS => h a w hh (hm ▸ hS.pick is hd)
theorem WL.sub {P : Program} {N : Nat} {ops : Array Oper} {Q : Exit → Act → World → Prop} {l : List Oper} {L L' : Env} {S : Pr} (ks : List Nat) (e : fL ks L = L') (h : WL P N ops Q l L' S) : WL P N ops Q l L S := fun a w hh hS => h a w (by rw [← e]; exact hh.fL ks) hS
theorem WP.xo {P : Program} {fn : Func} {R : Ending → World → Prop} {N : Nat} {k : List KI} {L : Env} {S : Pr} {id : Nat} {c : Code} {σ : Type} (Kp : σ → Prop) (Ls : σ → Env) (Ss : σ → Pr)
  (rest : ∀ st, Kp st → WP P fn R N k (Ls st) (Ss st)) (h : (∀ st, Kp st → WP P fn R N k (Ls st) (Ss st)) → WP P fn R N (.code c :: .block id :: k) L S) : WP P fn R N (.code (.block id c) :: k) L S := WP.block (h rest)
theorem WL.join {P : Program} {N : Nat} {ops : Array Oper} {Q : Exit → Act → World → Prop} {l : List Oper} {L : Env} {S : Pr} {σ : Type} (m : Nat) (Kp : σ → Prop) (Ls : σ → Env) (Ss : σ → Pr)
  (rest : ∀ st, Kp st → WL P N ops Q (l.drop m) (Ls st) (Ss st)) (h : (∀ st, Kp st → WL P N ops Q (l.drop m) (Ls st) (Ss st)) → WL P N ops Q l L S) : WL P N ops Q l L S := h rest
theorem WP.cN {P : Program} {fn : Func} {R : Ending → World → Prop} {N : Nat} {k : List KI} {L : Env} {S : Pr} {σ ρ : Type} {M : Nat → σ → Option ρ} {r : ρ} {Ls : σ → Env} {Ss : σ → Pr} {n : Nat} (ks : List Nat) (st : σ) (h : M n st = some r) (hL : fL ks L = Ls st) (hS : ∀ w, S w → Ss st w) :
  WP P fn R N (.inv (LI M r N Ls Ss (marksOf k) (n + 1)) :: k) L S := WP.again st h (fun a hh => hL ▸ hh.fL ks) hS
theorem WP.BD {P : Program} {fn : Func} {R : Ending → World → Prop} {N : Nat} {k : List KI} {L : Env} {S : Pr} {c : Code} (n : Nat) (h : WP P fn R N (.code c :: .inv (Code.rounds P c (den P fn R k) n) :: k) L S) (hmo : dr k = none := by rfl) : WP P fn R N (.code (.loop c) :: k) L S :=
 fun a w hh hS => by
  have h1 : cw (dr k) P c _ (marked (marksOf k) a) w := h a w hh hS
  show cw (dr k) P _ _ _ _
  rw [hmo] at h1 ⊢
  exact wp_loop_rounds (n + 1) h1
theorem WP.round {P : Program} {fn : Func} {R : Ending → World → Prop} {N : Nat} {k : List KI} {L : Env} {S : Pr} {c : Code} {n : Nat} (h : WP P fn R N (.code c :: .inv (Code.rounds P c (den P fn R k) n) :: k) L S) (hmo : dr k = none := by rfl) : WP P fn R N (.inv (Code.rounds P c (den P fn R k) (n + 1)) :: k) L S :=
 fun a w hh hS => by
  have h1 : cw (dr k) P c _ (marked (marksOf k) a) w := h a w hh hS
  rw [hmo] at h1
  exact h1
def QL (P : Program) (N : Nat) (ops : Array Oper) (C : Pr) (Q : Act → Prop) (l : List Oper) (L : Env) : Prop := ∀ a, Has N a L → wpQuiet P ops C Q l a
def gm (P : Program) (N : Nat) (ops : Array Oper) (H : bw) : List Oper → Env → List Nat → Option (Env × List (Nat × Nat))
 | [], L, _ => some (L, [])
 | o :: r, L, hs => match cu ops L o with
  | none => none
  | some false => match dV N o undef L with
   | some L' => gm P N ops H r L' hs
   | none => none
  | some true => match o.op.operands.all (known L) && !cA o.op with
   | false => none
   | true => match eI P (execOp (cE L) o) H hs with
    | some (.value v, es) => match dV N o v L with
     | some L' => (gm P N ops H r L' (hs.drop es.length)).map fun (L2, es2) => (L2, es ++ es2)
     | none => none
    | _ => none
theorem lp {P : Program} {N : Nat} {ops : Array Oper} {w0 : World} {T : cD} {H : bw} {G Φ : List Pr} {Q : Act → Prop} {r : List Oper} :
  ∀ (l : List Oper) (L : Env) (hs : List Nat) (L' : Env) (es : List (Nat × Nat)) (a : Act), gm P N ops H l L hs = some (L', es) → zq es → Has N a L →
  (∀ a', Has N a' L' → wpQuiet P ops (Sat w0 T H G Φ) Q r a') → wpQuiet P ops (Sat w0 T H G Φ) Q (l ++ r) a
 | [], L, hs, L', es, a, h, he, hh, hk => by
  simp only [gm, Option.some.injEq, Prod.mk.injEq] at h
  obtain ⟨rfl, rfl⟩ := h
  exact hk a hh
 | o :: l, L, hs, L', es, a, h, he, hh, hk => by
  simp only [gm] at h
  rw [List.cons_append]
  unfold wpQuiet
  split at h
  ·cases h
  ·rename_i hw
   rw [cM hh hw]
   split at h
   ·rename_i L1 hL1
    rw [if_neg (by simp)]
    exact lp l L1 hs L' es _ h he (hh.dV hL1) hk
   ·cases h
  ·rename_i hw
   rw [cM hh hw, if_pos rfl]
   split at h
   ·cases h
   ·rename_i hkn
    split at h
    ·rename_i v es1 hq
     split at h
     ·rename_i L1 hL1
      simp only [Option.map_eq_some_iff, Prod.mk.injEq, Prod.exists] at h
      obtain ⟨L2, es2, h2, rfl, rfl⟩ := h
      refine ⟨v, fun w hC => ?_, lp l L1 _ _ es2 _ h2 (fun p hp => he p (List.mem_append_right _ hp)) (hh.dV hL1) hk⟩
      unfold Oper.quietAt
      rw [hh.exec hkn, ko _ _ _ _ w hq (fun p hp => he p (List.mem_append_left _ hp)) hC]
      exact ⟨rfl, rfl⟩
     ·cases h
    ·cases h
def lj (P : Program) (N : Nat) (ops : Array Oper) (H : bw) (l : List Oper) (L : Env) (hs ks : List Nat) : Option (Env × List Nat × List Nat) :=
 match gm P N ops H l L hs with
 | some (L', es) => some (fL ks L', es.map (·.1), es.map (·.2))
 | none => none
theorem WP.quiet {P : Program} {fn : Func} {R : Ending → World → Prop} {N : Nat} {k : List KI} {L : Env} {w0 : World} {T : cD} {H : bw} {G Φ : List Pr} {id : Nat} {l : List Oper} (hm : P.follows .mixedOrders = true) (hB : Region.lexB .any l.toArray = true)
  (h : QL P N l.toArray (Sat w0 T H G Φ) (fun a' => ∀ w', Sat w0 T H G Φ w' → pb P fn R k .normal a' w') l L) (hd : gU (dr k) l = true := by rfl) : WP P fn R N (.code (.region id l.toArray true) :: k) L (Sat w0 T H G Φ) := fun a w hh hS =>
 by
  have hB' := hB
  simp only [Region.lexB, Bool.and_eq_true] at hB'
  refine lB hd hm (wpAny_of_quiet (Q := fun a' => ∀ w', Sat w0 T H G Φ w' → pb P fn R k .normal a' w') (fun _ w' hw' h => h w' hw') _ _ _ _ hS.drew ?_)
  have := wpAnyQ_lex (C := Sat w0 T H G Φ) (md := .any) hB'.1 l.toArray.toList 0 (Array.replicate l.toArray.size false) a (by simp) (by simpa using hB'.2) (by simpa using h a hh)
  simpa using this
section
variable {P : Program} {N : Nat} {ops : Array Oper} {w0 : World} {T : cD} {H : bw} {G Φ : List Pr} {Q : Act → Prop} {l : List Oper} {L L' : Env} {o : Oper}
theorem QL.join {σ : Type} (m : Nat) (Kp : σ → Prop) (Ls : σ → Env) (rest : ∀ st, Kp st → QL P N ops (Sat w0 T H G Φ) Q (l.drop m) (Ls st)) (h : (∀ st, Kp st → QL P N ops (Sat w0 T H G Φ) Q (l.drop m) (Ls st)) → QL P N ops (Sat w0 T H G Φ) Q l L) : QL P N ops (Sat w0 T H G Φ) Q l L := h rest
theorem QL.sub (ks : List Nat) (e : fL ks L = L') (h : QL P N ops (Sat w0 T H G Φ) Q l L') : QL P N ops (Sat w0 T H G Φ) Q l L := fun a hh => h a (by rw [← e]; exact hh.fL ks)
theorem QL.val {v : Value} (hr : ∀ w, (execOp (cE L) o).run P w = .ok (.value v) w) (hk : (o.op.operands.all (known L) && !cA o.op) = true) (hg : cu ops L o = some true) (hp : dV N o v L = some L')
  (h : QL P N ops (Sat w0 T H G Φ) Q l L') : QL P N ops (Sat w0 T H G Φ) Q (o :: l) L := fun a hh => by
 unfold wpQuiet
 rw [cM hh hg, if_pos rfl]
 refine ⟨v, fun w hC => ?_, h _ (hh.dV hp)⟩
 unfold Oper.quietAt
 rw [hh.exec hk, hr w]
 exact ⟨rfl, rfl⟩
theorem QL.cQ {Φ0 : List Pr} {f : FuncId} {args : Array Value} {v : Value} (hs bs : List Nat) (hc : Pure P Φ0 f args v) (hΦ : ∀ φ ∈ Φ0, φ ∈ Φ) (he : ja P o L H hs = some (f, args, bs, bs)) (hg : cu ops L o = some true) (hp : dV N o v L = some L')
  (h : QL P N ops (Sat w0 T H G Φ) Q l L') : QL P N ops (Sat w0 T H G Φ) Q (o :: l) L := fun a hh => by
 unfold wpQuiet
 rw [cM hh hg, if_pos rfl]
 refine ⟨v, fun w hC => ?_, h _ (hh.dV hp)⟩
 unfold Oper.quietAt
 rw [ng he hh hC]
 exact ⟨rfl, hc.at hΦ hC⟩
theorem QL.done {fn : Func} {R : Ending → World → Prop} {k : List KI} (h : WP P fn R N k L (Sat w0 T H G Φ)) : QL P N ops (Sat w0 T H G Φ) (fun a' => ∀ w', Sat w0 T H G Φ w' → pb P fn R k .normal a' w') [] L := fun a hh w' hS => h a w' hh hS
end
def aE (k : IntKind) (x : Int) : List Value := [.int k x]
def ca (x : Bool) : List Value := [.bool x]
def au (x : ByteArray) : List Value := [.string x]
theorem WL.cZ {P : Program} {N : Nat} {ops : Array Oper} {Q : Exit → Act → World → Prop} {dst : Option Tmp} {ty : TypeId} {pos : String} {af : Array Edge} {g : Option (Nat × Bool)} {t t' e : TypeId} {x : Operand} {l : List Oper} {L L' : Env} {w0 : World} {T : cD} {H : bw} {G Φ : List Pr}
  {b n c : Nat} {e0 : TypeId} {fr : Nat × Nat} {xs : List Int} {r : ByteArray} (j : Nat) (ht : P.underlying t = some (.slice e)) (he : P.underlying e = some (.int .u8)) (hd : P.underlying t' = some .string)
  (hk : known L x = true) (hx : cE L x = .slice (some ⟨b, 0, none⟩) n c) (hj : H[j]? = some (b, .cells (dU (aE .u8) xs) e0 fr)) (hm : cZ n xs = some r) (hg : cu ops L ⟨dst, .convert t t' x, ty, pos, af, g⟩ = some true) (hp : dV N ⟨dst, .convert t t' x, ty, pos, af, g⟩ (.string r) L = some L')
  (h : WL P N ops Q l L' (Sat w0 T H G Φ)) : WL P N ops Q (⟨dst, .convert t t' x, ty, pos, af, g⟩ :: l) L (Sat w0 T H G Φ) := fun a w hh hS => by
 unfold wpList
 rw [cM hh hg, if_pos rfl]
 refine .inl ?_
 unfold Oper.wp
 rw [hh.exec (by simp [Op.operands, cA, hk])]
 unfold Eng.cZ at hm
 split at hm
 ·rename_i hle
  obtain rfl := oI hm
  have hcv := run_convert_bytes_arg (P := P) w t e ht he b 0 n c (xs.take n) (by simp; omega) (fun i hi => by
   refine cell_of (hS.get hj) rfl rfl ?_
   have hi2 : i < xs.length := by omega
   have := pS (f := aE .u8) (m := 1) (fun _ => rfl) (xs := xs) (i := i) (j := 0) (x := xs[i]) (by simp [hi2]) (by omega)
   simp only [Nat.mul_one, Nat.add_zero] at this
   show (dU (aE .u8) xs)[0 + i]? = _
   rw [Nat.zero_add, this]
   simp [aE, List.getD, hi, hi2]) t' hd
  have : (execOp (cE L) ⟨dst, .convert t t' x, ty, pos, af, g⟩).run P w = .ok (.value (.string (strOfNums (xs.take n)))) w := by
   simp only [execOp, hx]
   rw [Sem.ao hcv]
   rfl
  rw [this]
  exact h _ w (hh.dV hp) hS
 ·cases hm
end Eng
namespace Eng
open Go
def vL (P : Program) (t : TypeId) (cs : Array Value) (off : Nat) : Option Value :=
 match P.underlying t with
 | some (.struct _) | some (.array _ _) => match P.info? t with
  | some i => some (.agg (cs.extract off (off + i.size)))
  | none => none
 | some _ => cs[off]?
 | none => none
def Dy (P : Program) : Nat → TypeId → Value → Value → Option Bool
 | 0, _, _, _ => none
 | d + 1, t, x, y => match P.underlying t, x, y with
  | some .bool, .bool a, .bool b => some (a == b)
  | some (.int _), .int k a, .int k' b => match (inferInstance : Decidable (k = k')) with
   | .isTrue _ => some (a == b)
   | .isFalse _ => none
  | some .string, .string a, .string b => some (a == b)
  | some (.struct fs), .agg xs, .agg ys => match P.stoodInHeld t with
   | true => none
   | false => fs.toList.foldr (fun f acc => match f.name == "_" with
    | true => acc
    | false => match vL P f.type xs f.offset, vL P f.type ys f.offset, acc with
     | some a, some b, some s => (Dy P d f.type a b).map fun r => r && s
     | _, _, _ => none) (some true)
  | _, _, _ => none
theorem rq {P : Program} {t : TypeId} {cs : Array Value} {off : Nat} {v : Value} {w : World} (h : vL P t cs off = some v) : (part t cs off).run P w = .ok v w := by
 unfold vL at h
 unfold part isAgg
 split at h
 ·rename_i fs hu
  split at h
  ·rename_i i hi
   obtain rfl := oI h
   simp [fo hu, bH hi]
  ·cases h
 ·rename_i n e hu
  split at h
  ·rename_i i hi
   obtain rfl := oI h
   simp [fo hu, bH hi]
  ·cases h
 ·rename_i d h1 h2 hu
  cases d <;> first | exact (h1 _ rfl).elim | exact (h2 _ _ rfl).elim | (simp [fo hu, h])
 ·cases h
theorem rN {P : Program} : ∀ (d : Nat) (t : TypeId) (x y : Value) (b : Bool) (w : World), Dy P d t x y = some b → (Op.equalIn d t x y).run P w = .ok b w
 | 0, _, _, _, _, _, h => by simp [Dy] at h
 | d + 1, t, x, y, b, w, h => by
  unfold Dy at h
  split at h
  ·rename_i a b' hu
   obtain rfl := oI h
   simp [Op.equalIn, fo hu]
  ·rename_i k0 k a k' b' hu
   split at h
   ·rename_i hk _
    subst hk
    obtain rfl := oI h
    simp [Op.equalIn, fo hu]
   ·cases h
  ·rename_i a b' hu
   obtain rfl := oI h
   simp [Op.equalIn, fo hu]
  ·rename_i fs xs ys hu
   split at h
   ·cases h
   ·rename_i hp
    have hf : P.fieldsOf t = fs := by simp [Program.fieldsOf, hu]
    rw [run_equalIn_struct (P := P) w d t xs ys (by rw [hf]; exact hu) hp, hf]
    clear hu hf hp
    generalize fs.toList = l at h
    induction l generalizing b with
    | nil => simp only [List.foldr_nil, Option.some.injEq] at h; subst h; simp [Op.eqFields]
    | cons f l ih =>
     simp only [List.foldr_cons] at h
     unfold Op.eqFields
     split at h
     ·rename_i hn
      rw [if_neg (by simpa using hn)]
      exact ih b h
     ·rename_i hn
      rw [if_pos (by simpa using hn)]
      split at h
      ·rename_i a b' s ha hb hs
       rw [Option.map_eq_some_iff] at h
       obtain ⟨r, hr, rfl⟩ := h
       have h3 := rN d f.type a b' r w hr
       rw [Sem.ao (rq ha), Sem.ao (rq hb), Sem.ao h3]
       cases r
       ·simp
       ·simpa using ih s hs
      ·cases h
  ·cases h
section
variable {P : Program} {ρ : Operand → Value} {w : World} {dst : Option Tmp} {ty : TypeId} {pos : String} {af : Array Edge} {g : Option (Nat × Bool)} {t t' : TypeId} {x y : Operand}
theorem sf {xs ys : Array Value} {b : Bool} (hx : ρ x = .agg xs) (hy : ρ y = .agg ys) (hg : P.eqGuardType P.depth t = false) (h : Dy P 10000 t (.agg xs) (.agg ys) = some b) :
  (execOp ρ ⟨dst, .binOp .eql t x y t', ty, pos, af, g⟩).run P w = .ok (.value (.bool b)) w := by
 simp only [execOp, hx, hy]
 have h1 := run_eqGuard_agg (P := P) w .eql t x y xs ys hg
 have h2 : (binOp .eql t (.agg xs) (.agg ys)).run P w = .ok (.bool b) w := by rw [run_eql_struct, rN _ _ _ _ _ w h]; rfl
 have h3 : (do eqGuard .eql t x y (.agg xs) (.agg ys); binOp .eql t (.agg xs) (.agg ys) : Sem Value).run P w = .ok (.bool b) w := by rw [Sem.ao h1]; exact h2
 rw [Sem.ao h3]; rfl
end
section
variable {P : Program} {ρ : Operand → Value} {w : World} {dst : Option Tmp} {ty : TypeId} {pos : String} {af : Array Edge} {g : Option (Nat × Bool)} {t xT asserted : TypeId} {x : Operand} {v z : Value}
end
theorem yd {α : Type} {f : α → List Value} {m : Nat} (hf : ∀ x, (f x).length = m) (hm : 0 < m) {n : Nat} {xs : List α} {i : Int} {x : α} (h : cI n xs i = some x) : (dU f xs)[0 + i.toNat * m]? = (f x)[0]? := by
 have := pS hf (bg h).2 hm
 rwa [Nat.add_zero, ← Nat.zero_add (i.toNat * m)] at this
theorem wQ {α : Type} {f : α → List Value} {m : Nat} (hf : ∀ x, (f x).length = m) (hm : 0 < m) {n : Nat} {xs : List α} {i : Int} {x x' : α} {v : Value} (h : cI n xs i = some x) (hs : (f x).set 0 v = f x') :
  (dU f xs).setIfInBounds (0 + i.toNat * m) v = dU f (xs.set i.toNat x') := by
 have := yc hf (bg h).2 hm hs
 rwa [Nat.add_zero, ← Nat.zero_add (i.toNat * m)] at this
end Eng
namespace Eng
open Go
theorem Sat.perm {w0 w : World} {T : cD} {H H' : bw} {G Φ : List Pr} (h : Sat w0 T H G Φ w) (hp : H.Perm H') : Sat w0 T H' G Φ w := by
 obtain ⟨Fs, o⟩ := h.own
 have hk : (keys H ++ Fs.flatten).Perm (keys H' ++ Fs.flatten) := (keys_perm hp).append_right _
 exact ⟨h.os, h.tape, h.output, h.size, h.frame, Fs, hk.nodup_iff.1 o.nd, fun k hk' => o.dG k (hk.mem_iff.2 hk'), fun p hpm => o.has p (hp.mem_iff.2 hpm), o.g, fun φ hφ => by
  obtain ⟨F, hl, hn, ha⟩ := o.ro φ hφ
  exact ⟨F, hl, fun k hkF hk' => hn k hkF (hk.mem_iff.2 hk'), ha⟩⟩
inductive HK (X : Type) where
 | val (v : Value)
 | FD (D : List Nat) (f : (Nat → X) → Value)
 | ex (D : List Nat) (f : (Nat → X) → Value) (φ : (Nat → X) → List Pr)
 | alloc (o : Obj) (f : Nat → Value)
 | use (j : Nat) (v : Value)
 | fill (j : Nat) (D : List Nat) (o : (Nat → X) → Obj)
 | put (j : Nat) (D : List Nat) (o : (Nat → X) → Obj)
 | skip
def u5 {X : Type} (ks : List (HK X)) (x : Nat → X) (i : Nat) : List Pr := match ks[i]? with
 | some (.ex _ _ φ) => φ x
 | _ => []
section
variable {X : Type} {P : Program} {N : Nat} {ops : Array Oper} {ks : List (HK X)} {L0 : Env} {w0 : World} {T : cD} {H HP : bw} {G Φ : List Pr} {n : Nat}
def RA (P : Program) (N : Nat) (Q : Exit → Act → World → Prop) (l : List Oper) (L : Env) (S : Pr) : Prop := ∀ a w, Has N a L → S w → wpAny P .any l.toArray Q l.toArray.size (Array.replicate l.toArray.size false) a { w with drawn := w.drawn + 1 }
theorem WP.E0 {fn : Func} {R : Ending → World → Prop} {k : List KI} {id : Nat} {l : List Oper} {S : Pr} (hm : P.follows .mixedOrders = true) (h : RA P N (pb P fn R k) l L0 S) (hdd : gU (dr k) l = true := by rfl) : WP P fn R N (.code (.region id l.toArray true) :: k) L0 S := fun a w ha hS =>
 lB hdd hm (h a w ha hS)
end
section
variable {X : Type} {P : Program} {N : Nat} {S : List Pr → bw → Pr} {ops : Array Oper} {ks : List (HK X)} {HP : bw} {L0 : Env} {o : Oper} {r : List Oper} {v : Value} {hr : List (HK X)} {i : Nat}
end
section
variable {P : Program} {N : Nat} {w0 : World} {T : cD} {H : bw} {G Φ : List Pr} {L : Env} {o : Oper} {v : Value}
end
end Eng
namespace Eng
open Go
theorem Sat.each {w0 w : World} {T : cD} {H : bw} {G Φ : List Pr} {Fs : List (List Nat)} (o : Own w0 T H G Φ w Fs) : ∀ (ψs : List Pr), (∀ ψ ∈ ψs, ψ ∈ Φ) →
  ∃ F, (∀ ψ ∈ ψs, Loc F ψ w) ∧ (∀ k ∈ F, k < w.heap.size) ∧ (∀ k ∈ F, k ∉ keys H ++ Fs.flatten) ∧ ∀ k ∈ F, T.a k ∨ k ∈ T.t ∨ w0.heap.size ≤ k
 | [], _ => ⟨[], by simp, by simp, by simp, by simp⟩
 | ψ :: ψs, h => by
  obtain ⟨F, h1, h2, h3, h4⟩ := Sat.each o ψs fun ψ' hm => h ψ' (List.mem_cons_of_mem _ hm)
  obtain ⟨F', hl, hn, ha⟩ := o.ro ψ (h ψ (List.mem_cons_self ..))
  have wide : ∀ {A B : List Nat} {χ : Pr}, Loc A χ w → (∀ k ∈ A, k ∈ B) → (∀ k ∈ B, k < w.heap.size) → Loc B χ w := fun hL hs hlt => ⟨hL.now, hlt, fun w' hw' => hL.stays w' fun k hk => hw' k (hs k hk)⟩
  have hlt : ∀ k ∈ F' ++ F, k < w.heap.size := fun k hk => by
   rw [List.mem_append] at hk
   rcases hk with hk | hk
   ·exact hl.lt k hk
   ·exact h2 k hk
  refine ⟨F' ++ F, fun χ hχ => ?_, hlt, fun k hk => ?_, fun k hk => ?_⟩
  ·rw [List.mem_cons] at hχ
   rcases hχ with rfl | hχ
   ·exact wide hl (fun k hk => List.mem_append_left _ hk) hlt
   ·exact wide (h1 χ hχ) (fun k hk => List.mem_append_right _ hk) hlt
  ·rw [List.mem_append] at hk
   rcases hk with hk | hk
   ·exact hn k hk
   ·exact h3 k hk
  ·rw [List.mem_append] at hk
   rcases hk with hk | hk
   ·exact ha k hk
   ·exact h4 k hk
theorem Sat.derive {w0 w : World} {T : cD} {H : bw} {G Φ : List Pr} (h : Sat w0 T H G Φ w) (ψs : List Pr) {φ : Pr} (hs : ∀ ψ ∈ ψs, ψ ∈ Φ) (hd : ∀ w : World, (∀ ψ ∈ ψs, ψ w) → φ w) : Sat w0 T H G (φ :: Φ) w := by
 obtain ⟨Fs, o⟩ := h.own
 refine ⟨h.os, h.tape, h.output, h.size, h.frame, Fs, o.nd, o.dG, o.has, o.g, fun χ hχ => ?_⟩
 rw [List.mem_cons] at hχ
 rcases hχ with rfl | hχ
 ·obtain ⟨F, h1, h2, h3, h4⟩ := Sat.each o ψs hs
  exact ⟨F, ⟨hd w fun ψ hm => (h1 ψ hm).now, h2, fun w' hw' => hd w' fun ψ hm => (h1 ψ hm).stays w' hw'⟩, h3, h4⟩
 ·exact o.ro χ hχ
theorem fQ : ∀ {H : bw} {j : Nat} {b : Nat} {o : Obj}, H[j]? = some (b, o) → H.Perm ((b, o) :: H.eraseIdx j)
 | [], j, b, o, hj => by simp at hj
 | p :: H, 0, b, o, hj => by
  simp only [List.getElem?_cons_zero, Option.some.injEq] at hj
  subst hj
  exact List.Perm.refl _
 | p :: H, j + 1, b, o, hj => by
  simp only [List.getElem?_cons_succ] at hj
  rw [List.eraseIdx_cons_succ]
  exact ((fQ hj).cons p).trans (List.Perm.swap ..)
theorem Sat.freeze {w0 w : World} {T : cD} {H : bw} {G Φ : List Pr} (h : Sat w0 T H G Φ w) (j : Nat) {b : Nat} {o : Obj} (hj : H[j]? = some (b, o)) (ψs : List Pr) {φ : Pr} (hs : ∀ ψ ∈ ψs, ψ ∈ Φ)
  (hd : ∀ w : World, w.heap[b]? = some o → (∀ ψ ∈ ψs, ψ w) → φ w) : Sat w0 T (H.eraseIdx j) G (φ :: Φ) w := by
 obtain ⟨Fs, ow⟩ := h.own
 have hp := fQ hj
 have hkp := (keys_perm hp).append_right Fs.flatten
 have hnd := hkp.nodup_iff.1 ow.nd
 have hb : b ∈ keys H ++ Fs.flatten := hkp.mem_iff.2 (by simp [keys])
 have hsub : ∀ k, k ∈ keys (H.eraseIdx j) ++ Fs.flatten → k ∈ keys H ++ Fs.flatten ∧ k ≠ b := fun k hk => by
  have hnd' : (b :: (keys (H.eraseIdx j) ++ Fs.flatten)).Nodup := by simpa [keys] using hnd
  exact ⟨hkp.mem_iff.2 (by rw [show keys ((b, o) :: H.eraseIdx j) ++ Fs.flatten = b :: (keys (H.eraseIdx j) ++ Fs.flatten) by simp [keys]]; exact List.mem_cons_of_mem _ hk), fun e => by subst e; exact (List.nodup_cons.1 hnd').1 hk⟩
 refine ⟨h.os, h.tape, h.output, h.size, h.frame, Fs, ?_, fun k hk => ow.dG k (hsub k hk).1, fun p hpm => ow.has p (hp.mem_iff.2 (List.mem_cons_of_mem _ hpm)), ow.g, fun χ hχ => ?_⟩
 ·have hnd' : (b :: (keys (H.eraseIdx j) ++ Fs.flatten)).Nodup := by simpa [keys] using hnd
  exact (List.nodup_cons.1 hnd').2
 ·rw [List.mem_cons] at hχ
  rcases hχ with rfl | hχ
  ·obtain ⟨F, h1, h2, h3, h4⟩ := Sat.each ow ψs hs
   have hbo := ow.has (b, o) (hp.mem_iff.2 (List.mem_cons_self ..))
   have hbm := ow.dG b hb
   refine ⟨b :: F, ⟨hd w hbo fun ψ hm => (h1 ψ hm).now, fun k hk => ?_, fun w' hw' => hd w' ((hw' b (List.mem_cons_self ..)).trans hbo) fun ψ hm => (h1 ψ hm).stays w' fun k hk => hw' k (List.mem_cons_of_mem _ hk)⟩, fun k hk hk' => ?_, fun k hk => ?_⟩
   ·rw [List.mem_cons] at hk
    rcases hk with rfl | hk
    ·exact hbm.2
    ·exact h2 k hk
   ·rw [List.mem_cons] at hk
    rcases hk with rfl | hk
    ·exact (hsub k hk').2 rfl
    ·exact h3 k hk (hsub k hk').1
   ·rw [List.mem_cons] at hk
    rcases hk with rfl | hk
    ·exact .inr hbm.1
    ·exact h4 k hk
  ·obtain ⟨F, hl, hn, ha⟩ := ow.ro χ hχ
   exact ⟨F, hl, fun k hk hk' => hn k hk (hsub k hk').1, ha⟩
section
variable {P : Program} {fn : Func} {R : Ending → World → Prop} {N : Nat} {k : List KI} {ops : Array Oper} {Q : Exit → Act → World → Prop} {l : List Oper} {L L' : Env} {w0 : World} {T : cD} {H H' : bw} {G G' Φ Φ' : List Pr} {o : Oper}
theorem WP.fact (φ : Pr) (hφ : φ ∈ Φ) {p : Prop} (hp : ∀ w, φ w → p) (h : p → WP P fn R N k L (Sat w0 T H G Φ)) : WP P fn R N k L (Sat w0 T H G Φ) := fun a w hh hS => h (hp w (hS.fact hφ)) a w hh hS
theorem WP.derive (ψs : List Pr) {φ : Pr} (hs : ∀ ψ ∈ ψs, ψ ∈ Φ) (hd : ∀ w : World, (∀ ψ ∈ ψs, ψ w) → φ w) (h : WP P fn R N k L (Sat w0 T H G (φ :: Φ))) : WP P fn R N k L (Sat w0 T H G Φ) := fun a w hh hS => h a w hh (hS.derive ψs hs hd)
theorem WL.derive (ψs : List Pr) {φ : Pr} (hs : ∀ ψ ∈ ψs, ψ ∈ Φ) (hd : ∀ w : World, (∀ ψ ∈ ψs, ψ w) → φ w) (h : WL P N ops Q l L (Sat w0 T H G (φ :: Φ))) : WL P N ops Q l L (Sat w0 T H G Φ) := fun a w hh hS => h a w hh (hS.derive ψs hs hd)
theorem WP.freeze (j : Nat) {b : Nat} {ob : Obj} (hj : H[j]? = some (b, ob)) (ψs : List Pr) {φ : Pr} (hs : ∀ ψ ∈ ψs, ψ ∈ Φ) (hd : ∀ w : World, w.heap[b]? = some ob → (∀ ψ ∈ ψs, ψ w) → φ w) (he : H.eraseIdx j = H') (h : WP P fn R N k L (Sat w0 T H' G (φ :: Φ))) : WP P fn R N k L (Sat w0 T H G Φ) := fun a w hh hS => h a w hh (he ▸ hS.freeze j hj ψs hs hd)
theorem WL.freeze (j : Nat) {b : Nat} {ob : Obj} (hj : H[j]? = some (b, ob)) (ψs : List Pr) {φ : Pr} (hs : ∀ ψ ∈ ψs, ψ ∈ Φ) (hd : ∀ w : World, w.heap[b]? = some ob → (∀ ψ ∈ ψs, ψ w) → φ w) (he : H.eraseIdx j = H') (h : WL P N ops Q l L (Sat w0 T H' G (φ :: Φ))) : WL P N ops Q l L (Sat w0 T H G Φ) := fun a w hh hS => h a w hh (he ▸ hS.freeze j hj ψs hs hd)
theorem WP.less (hs : ∀ φ ∈ Φ', φ ∈ Φ) (h : WP P fn R N k L (Sat w0 T H G Φ')) : WP P fn R N k L (Sat w0 T H G Φ) := fun a w hh hS => h a w hh (hS.less hs)
theorem WL.less (hs : ∀ φ ∈ Φ', φ ∈ Φ) (h : WL P N ops Q l L (Sat w0 T H G Φ')) : WL P N ops Q l L (Sat w0 T H G Φ) := fun a w hh hS => h a w hh (hS.less hs)
theorem WL.cd {φ : Pr} {v : Value} (hφ : φ ∈ Φ) (hr : ∀ w, φ w → (execOp (cE L) o).run P w = .ok (.value v) w) (hk : (o.op.operands.all (known L) && !cA o.op) = true) (hg : cu ops L o = some true) (hp : dV N o v L = some L')
  (h : WL P N ops Q l L' (Sat w0 T H G Φ)) : WL P N ops Q (o :: l) L (Sat w0 T H G Φ) := fun a w hh hS => by
 unfold wpList
 rw [cM hh hg, if_pos rfl]
 refine .inl ?_
 unfold Oper.wp
 rw [hh.exec hk, hr w (hS.fact hφ)]
 exact h _ w (hh.dV hp) hS
theorem QL.cd {Q : Act → Prop} {φ : Pr} {v : Value} (hφ : φ ∈ Φ) (hr : ∀ w, φ w → (execOp (cE L) o).run P w = .ok (.value v) w) (hk : (o.op.operands.all (known L) && !cA o.op) = true) (hg : cu ops L o = some true) (hp : dV N o v L = some L')
  (h : QL P N ops (Sat w0 T H G Φ) Q l L') : QL P N ops (Sat w0 T H G Φ) Q (o :: l) L := fun a hh => by
 unfold wpQuiet
 rw [cM hh hg, if_pos rfl]
 refine ⟨v, fun w hC => ?_, h _ (hh.dV hp)⟩
 unfold Oper.quietAt
 rw [hh.exec hk, hr w (hC.fact hφ)]
 exact ⟨rfl, rfl⟩
end
structure av (σ : Type) where
 a : Option (Nat × Nat)
 c : Nat
 s : Nat → σ
 z : Option Addr
instance {σ : Type} [Inhabited σ] : Inhabited (av σ) := ⟨⟨none, 0, fun _ => default, none⟩⟩
def av.addr {σ : Type} (A : av σ) : Option Addr := match A.a with
 | none => A.z
 | some p => some ⟨p.1, p.2, none⟩
abbrev ae {σ : Type} (A : av σ) (n : Nat) : Value := .slice A.addr n A.c
abbrev av.nil {σ : Type} (s : Nat → σ) : av σ := ⟨none, 0, s, none⟩
abbrev av.at {σ : Type} (b c : Nat) (s : Nat → σ) : av σ := ⟨some (b, 0), c, s, none⟩
def fP {σ : Type} (l : List σ) (d : σ) : Nat → σ := fun i => match l[i]? with
 | some x => x
 | none => d
structure eU {α σ : Type} (m : Nat) (f : α → σ → List Value) (K : α → σ → Pr) (A : av σ) (xs : List α) (w : World) : Prop where
 le : xs.length ≤ A.c
 nil : A.a = none → xs = [] ∧ A.c = 0
 cells : ∀ b o, A.a = some (b, o) → ∀ i x, xs[i]? = some x → ∀ j v, (f x (A.s i))[j]? = some v → w.cell? ⟨b, o + i * m + j, none⟩ = some v
 inner : ∀ i x, xs[i]? = some x → K x (A.s i) w
abbrev Row {α σ : Type} (m : Nat) (f : α → σ → List Value) (K : α → σ → Pr) (A : av σ) (xs : List α) : Pr := fun w => eU m f K A xs w
def aA {α : Type} (_ : α) (_ : Unit) : Pr := fun _ => True
def pl {α : Type} (f : α → List Value) (x : α) (_ : Unit) : List Value := f x
theorem eU.ptr {α σ : Type} {m : Nat} {f : α → σ → List Value} {K : α → σ → Pr} {A : av σ} {xs : List α} (w : World) (h : eU m f K A xs w) : (A.a = none → xs = []) ∧ xs.length ≤ A.c := ⟨fun e => (h.nil e).1, h.le⟩
theorem BV {α σ : Type} {A : av σ} {xs : List α} {i : Int} {x : α} (h : (A.a = none → xs = []) ∧ xs.length ≤ A.c) (hx : cI xs.length xs i = some x) : ∃ b o, A.a = some (b, o) := by
 cases ha : A.a with
 | none =>
  have := (bg hx).2
  rw [h.1 ha] at this
  simp at this
 | some p => exact ⟨p.1, p.2, rfl⟩
theorem eU.empty {α σ : Type} {m : Nat} {f : α → σ → List Value} {K : α → σ → Pr} {A : av σ} {w : World} (h : A.a = none → A.c = 0) : eU m f K A [] w :=
 ⟨Nat.zero_le _, fun e => ⟨rfl, h e⟩, fun _ _ _ i x hx => by simp at hx, fun i x hx => by simp at hx⟩
def bR {α σ : Type} (f : α → σ → List Value) (s : Nat → σ) : Nat → List α → List Value
 | _, [] => []
 | i, x :: r => f x (s i) ++ bR f s (i + 1) r
theorem lP {α σ : Type} {m : Nat} {f : α → σ → List Value} {s : Nat → σ} (hf : ∀ x s, (f x s).length = m) : ∀ {xs : List α} {n i j : Nat} {x : α} {v : Value}, xs[i]? = some x → (f x (s (n + i)))[j]? = some v → (bR f s n xs)[i * m + j]? = some v
 | [], n, i, j, x, v, h, _ => by simp at h
 | y :: ys, n, 0, j, x, v, h, hv => by
  simp only [List.getElem?_cons_zero, Option.some.injEq] at h
  subst h
  have hj : j < (f y (s n)).length := by
   rcases Nat.lt_or_ge j (f y (s n)).length with h1 | h1
   ·exact h1
   ·rw [Nat.add_zero, List.getElem?_eq_none h1] at hv; cases hv
  rw [Nat.zero_mul, Nat.zero_add, bR, List.getElem?_append_left hj]
  simpa using hv
 | y :: ys, n, i + 1, j, x, v, h, hv => by
  simp only [List.getElem?_cons_succ] at h
  have e : (i + 1) * m + j = (f y (s n)).length + (i * m + j) := by rw [hf, Nat.succ_mul]; omega
  rw [bR, e, List.getElem?_append_right (by omega), Nat.add_sub_cancel_left]
  exact lP hf h (by rw [show n + 1 + i = n + (i + 1) by omega]; exact hv)
theorem ep {α σ : Type} {m : Nat} {f : α → σ → List Value} {s : Nat → σ} (hf : ∀ x s, (f x s).length = m) : ∀ (xs : List α) (n : Nat), (bR f s n xs).length = xs.length * m
 | [], n => by simp [bR]
 | y :: ys, n => by rw [bR, List.length_append, hf, ep hf ys, List.length_cons, Nat.succ_mul]; omega
theorem ju {α σ : Type} {f : α → σ → List Value} {s t : Nat → σ} : ∀ (xs : List α) (n k : Nat), (∀ i, i < xs.length → s (n + i) = t (k + i)) → bR f s n xs = bR f t k xs
 | [], n, k, _ => rfl
 | y :: ys, n, k, h => by
  have h0 := h 0 (by simp)
  rw [Nat.add_zero, Nat.add_zero] at h0
  rw [bR, bR, h0, ju ys (n + 1) (k + 1) fun i hi => by
   have := h (i + 1) (by simp; omega)
   rw [show n + 1 + i = n + (i + 1) by omega, show k + 1 + i = k + (i + 1) by omega]; exact this]
theorem mX {α σ : Type} {f : α → σ → List Value} {s : Nat → σ} : ∀ (xs ys : List α) (n : Nat), bR f s n (xs ++ ys) = bR f s n xs ++ bR f s (n + xs.length) ys
 | [], ys, n => by simp [bR]
 | x :: xs, ys, n => by rw [List.cons_append, bR, bR, mX xs ys (n + 1), List.append_assoc, List.length_cons, show n + 1 + xs.length = n + (xs.length + 1) by omega]
def jj {α σ : Type} (K : α → σ → Pr) (s : Nat → σ) : Nat → List α → Pr
 | _, [] => fun _ => True
 | i, x :: r => fun w => K x (s i) w ∧ jj K s (i + 1) r w
theorem jj.get {α σ : Type} {K : α → σ → Pr} {s : Nat → σ} {w : World} : ∀ {xs : List α} {n i : Nat} {x : α}, jj K s n xs w → xs[i]? = some x → K x (s (n + i)) w
 | [], n, i, x, _, h => by simp at h
 | y :: ys, n, 0, x, hI, h => by
  simp only [List.getElem?_cons_zero, Option.some.injEq] at h
  subst h; exact hI.1
 | y :: ys, n, i + 1, x, hI, h => by
  simp only [List.getElem?_cons_succ] at h
  have := jj.get hI.2 h
  rwa [show n + 1 + i = n + (i + 1) by omega] at this
theorem jj.of {α σ : Type} {K : α → σ → Pr} {s : Nat → σ} {w : World} : ∀ {xs : List α} {n : Nat}, (∀ i x, xs[i]? = some x → K x (s (n + i)) w) → jj K s n xs w
 | [], n, _ => trivial
 | y :: ys, n, h => ⟨h 0 y rfl, jj.of fun i x hx => by rw [show n + 1 + i = n + (i + 1) by omega]; exact h (i + 1) x (by simpa using hx)⟩
theorem jj.no {α : Type} {s : Nat → Unit} {w : World} (xs : List α) (n : Nat) : jj aA s n xs w := jj.of fun _ _ _ => trivial
theorem cl {α σ : Type} {m : Nat} {f : α → σ → List Value} {K : α → σ → Pr} {s : Nat → σ} {xs : List α} {w : World} {b c : Nat} {cs : Array Value} {e : TypeId} {fr : Nat × Nat} (hb : w.heap[b]? = some (.cells cs e fr)) (hf : ∀ x s, (f x s).length = m)
  (hcs : bR f s 0 xs <+: cs.toList) (hc : xs.length ≤ c) (hin : jj K s 0 xs w) : eU m f K ⟨some (b, 0), c, s, none⟩ xs w := by
 refine ⟨hc, fun e => (by cases e), fun b' o' e i x hx j v hv => ?_, fun i x hx => by have := hin.get hx; rwa [Nat.zero_add] at this⟩
 simp only [Option.some.injEq, Prod.mk.injEq] at e
 obtain ⟨rfl, rfl⟩ := e
 have h1 := lP (n := 0) hf hx (by rw [Nat.zero_add]; exact hv)
 refine cell_of hb rfl rfl ?_
 obtain ⟨r, hr⟩ := hcs
 have hlt : i * m + j < (bR f s 0 xs).length := by
  rcases Nat.lt_or_ge (i * m + j) (bR f s 0 xs).length with h2 | h2
  ·exact h2
  ·rw [List.getElem?_eq_none h2] at h1; cases h1
 show cs[0 + i * m + j]? = some v
 rw [Nat.zero_add, ← Array.getElem?_toList, ← hr, List.getElem?_append_left hlt]
 exact h1
section
variable {P : Program} {ρ : Operand → Value} {w : World} {dst : Option Tmp} {ty : TypeId} {pos : String} {af : Array Edge} {g : Option (Nat × Bool)} {t t' : TypeId} {x y z : Operand}
theorem lW {σ : Type} {A : av σ} {b o : Nat} (hA : A.a = some (b, o)) : A.addr = some ⟨b, o, none⟩ := by simp [av.addr, hA]
theorem si {σ : Type} {A : av σ} {k : IntKind} {i : Int} {b o n e m : Nat} (ht : P.underlying t = some (.slice e)) (hi : (P.info? e).map (·.size) = some m) (hA : A.a = some (b, o)) (hx : ρ x = ae A n) (hy : ρ y = .int k i) (h : 0 ≤ i ∧ i < (n : Int)) :
  (execOp ρ ⟨dst, .indexAddr t x y, ty, pos, af, g⟩).run P w = .ok (.value (.pointer (some ⟨b, o + i.toNat * m, none⟩))) w :=
 mh (sz := m) ht hi (hx.trans (by unfold ae; rw [lW hA])) hy h
theorem dy (b o j : Nat) : Addr.add ⟨b, o, none⟩ j = ⟨b, o + j, none⟩ := by
 unfold Addr.add; split
 ·rename_i h0; simp [h0]
 ·rfl
theorem tE {α σ : Type} {m : Nat} {f : α → σ → List Value} {K : α → σ → Pr} {A : av σ} {xs : List α} {b o : Nat} {i : Int} {x : α} (hR : eU m f K A xs w) (hA : A.a = some (b, o)) (hx : cI xs.length xs i = some x) {j : Nat} {v : Value} (hv : (f x (A.s i.toNat))[j]? = some v) : w.cell? ⟨b, o + i.toNat * m + j, none⟩ = some v :=
 hR.cells b o hA i.toNat x (bg hx).2 j v hv
theorem tC {α σ : Type} {m : Nat} {f : α → σ → List Value} {K : α → σ → Pr} {A : av σ} {xs : List α} {b o j : Nat} {i : Int} {r : α} {v : Value} (hA : A.a = some (b, o)) (hx : cI xs.length xs i = some r) (hagg : ∀ w, (isAgg t).run P w = .ok false w) (hp : ρ x = .pointer (some ⟨b, o + i.toNat * m + j, none⟩)) (hv : (f r (A.s i.toNat))[j]? = some v)
  (hR : eU m f K A xs w) : (execOp ρ ⟨dst, .load t x, ty, pos, af, g⟩).run P w = .ok (.value v) w := by
 have hc := tE hR hA hx hv
 simp [execOp, hp, Instr.loadAt, Instr.sureAddr, loadVar, hagg, hc]
theorem sg {α σ : Type} {m : Nat} {f : α → σ → List Value} {K : α → σ → Pr} {A : av σ} {xs : List α} {b o j n : Nat} {i : Int} {r : α} {vs : List Value} (hA : A.a = some (b, o)) (hx : cI xs.length xs i = some r) (hagg : ∀ w, (isAgg t).run P w = .ok true w) (hsz : (P.info? t).map (·.size) = some n) (hp : ρ x = .pointer (some ⟨b, o + i.toNat * m + j, none⟩))
  (hv : ((f r (A.s i.toNat)).drop j).take n = vs) (hl : vs.length = n) (hR : eU m f K A xs w) : (execOp ρ ⟨dst, .load t x, ty, pos, af, g⟩).run P w = .ok (.value (.agg vs.toArray)) w := by
 obtain ⟨inf, hi, he⟩ := Option.map_eq_some_iff.1 hsz
 have hload : (loadCells ⟨b, o + i.toNat * m + j, none⟩ n).run P w = .ok vs.toArray w := by
  rw [← hl]
  refine run_loadCells_list w _ vs fun q v hq => ?_
  rw [dy]
  have hqn : q < n := by
   rcases Nat.lt_or_ge q n with h1 | h1
   ·exact h1
   ·rw [List.getElem?_eq_none (by omega)] at hq; cases hq
  have h2 : (f r (A.s i.toNat))[j + q]? = some v := by
   rw [← hv, List.getElem?_take, if_pos hqn, List.getElem?_drop] at hq
   exact hq
  have := tE hR hA hx h2
  rwa [show o + i.toNat * m + (j + q) = o + i.toNat * m + j + q by omega] at this
 simp [execOp, hp, Instr.loadAt, Instr.sureAddr, loadVar, hagg, Go.sizeOf, typeInfo, hi, he, hload]
end
end Eng