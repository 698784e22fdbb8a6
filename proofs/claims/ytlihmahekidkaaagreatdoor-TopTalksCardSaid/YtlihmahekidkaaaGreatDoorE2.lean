/- A general engine for walks through Go programs in the given model: no statement of the program stands here; what is shown holds without conditions. -/
import Derived.Test.YtlihmahekidkaaaGreatDoorE1
import Derived.ArgAppend
import Derived.RangeFuncRecord
import Derived.RangeFuncSeq
import Derived.Shelf.Strings.OnBuilder
import Derived.MapKept
import Derived.Laws.IdiomCopy

set_option linter.unusedVariables false
set_option linter.unusedSimpArgs false
set_option linter.unusedSectionVars false
namespace Eng
open Go
def pickL (is : List Nat) (F : List Pr) : List Pr := is.filterMap fun i => F[i]?
theorem sub_pick {F F' Γ : List Pr} (is : List Nat) (h : pickL is F = F') : ∀ φ ∈ F' ++ Γ, φ ∈ F ++ Γ := fun φ hφ => by
 subst h
 rw [List.mem_append] at hφ ⊢
 refine hφ.imp_left fun hm => ?_
 obtain ⟨i, _, hi⟩ := List.mem_filterMap.1 hm
 exact List.mem_of_getElem? hi
theorem Sat.lessF {w0 w : World} {T : Zone} {H : Heap} {G F F' Γ : List Pr} (h : Sat w0 T H G (F ++ Γ) w) (is : List Nat) (e : pickL is F = F') : Sat w0 T H G (F' ++ Γ) w := h.less (sub_pick is e)
theorem fact_at {F Γ : List Pr} {φ : Pr} (i : Nat) (h : F[i]? = some φ) : φ ∈ F ++ Γ := List.mem_append_left _ (List.mem_of_getElem? h)
theorem sub_facts {F Γ : List Pr} {Ψ : List Pr} (is : List Nat) (h : pickL is F = Ψ) : ∀ ψ ∈ Ψ, ψ ∈ F ++ Γ := fun φ hφ => by
 subst h
 obtain ⟨i, _, hi⟩ := List.mem_filterMap.1 hφ
 exact List.mem_append_left _ (List.mem_of_getElem? hi)
section
variable {P : Program} {fn : Func} {R : Ending → World → Prop} {N : Nat} {k : List KI} {ops : Array Oper} {Q : Exit → Act → World → Prop} {l : List Oper} {L L' : Env} {w0 : World} {T : Zone} {H H0 Hr : Heap} {G F F' Γ Φ : List Pr} {o : Oper}
theorem WP.lessF (is : List Nat) (e : pickL is F = F') (h : WP P fn R N k L (Sat w0 T H G (F' ++ Γ))) : WP P fn R N k L (Sat w0 T H G (F ++ Γ)) := WP.less (sub_pick is e) h
theorem WL.ice {H' : Heap} (φ : Pr) (j : Nat) {b : Nat} {ob : Obj} (hj : H[j]? = some (b, ob)) (is : List Nat) (Ψ : List Pr) (e : pickL is F = Ψ) (hd : ∀ w : World, w.heap[b]? = some ob → (∀ ψ ∈ Ψ, ψ w) → φ w) (he : H.eraseIdx j = H') (h : WL P N ops Q l L (Sat w0 T H' G ((φ :: F) ++ Γ))) : WL P N ops Q l L (Sat w0 T H G (F ++ Γ)) := WL.freeze j hj Ψ (sub_facts is e) hd he h
theorem Pure.lend {f : FuncId} {args : Array Value} {v : Value} {Φ0 : List Pr} {w : World} (h : Pure P Φ0 f args v) (hS : Sat w0 T H G Φ w) (hΦ : ∀ φ ∈ Φ0, φ ∈ Φ ∨ ∃ F, Loc F φ w) : Calls P f args w fun e w' => e = .returned v ∧ Sat w0 T H G Φ w' := by
 have h0 : Sat w ⟨[], fun k => k < w.heap.size⟩ [] [] Φ0 w := ⟨rfl, rfl, rfl, Nat.le_refl _, fun _ _ _ => rfl, [], by simp [keys], by simp [keys], by simp, trivial, fun φ hφ => by
  rcases hΦ φ hφ with h1 | ⟨F, hF⟩
  ·obtain ⟨Fs, ow⟩ := hS.own
   obtain ⟨F, hl, _, _⟩ := ow.ro φ h1
   exact ⟨F, hl, by simp [keys], fun k hk => .inl (hl.lt k hk)⟩
  ·exact ⟨F, hF, by simp [keys], fun k hk => .inl (hF.lt k hk)⟩⟩
 exact (h w _ h0).mono fun e w' ⟨he, hS'⟩ => ⟨he, hS.away hS'.os hS'.tape hS'.output hS'.size fun k hk => hS'.frame k hk (by simp)⟩
theorem OpU.callL {d : Nat} {f : Nat → Value} {obj : Obj} {v : Value} {Φ0 : Nat → List Pr} {fn : FuncId} {args : Nat → Array Value} (φ : Nat → Pr) (hs : List Nat) (bs : Nat → List Nat) (hφ : ∀ (b : Nat) (w : World), w.heap[b]? = some obj → φ b w) (hΦ : ∀ b, ∀ ψ ∈ Φ0 b, ψ = φ b ∨ ψ ∈ Φ)
  (hc : ∀ b, Pure P (Φ0 b) fn (args b) v) (he : ∀ b A, enterE P o ((d, f b) :: L) (H ++ (b, obj) :: A) hs = some (fn, args b, bs b, bs b)) : OpU P N (fun A => Sat w0 T (H ++ A) G Φ) L o d f obj v := fun Q b A a w K ha hS hK => by
 unfold Oper.wp
 rw [enterE_sound (he b A) ha hS]
 have hb : w.heap[b]? = some obj := by
  obtain ⟨Fs, ow⟩ := hS.own
  exact ow.has (b, obj) (List.mem_append_right _ (List.mem_cons_self ..))
 have hlt : b < w.heap.size := by
  rcases Nat.lt_or_ge b w.heap.size with h1 | h1
  ·exact h1
  ·rw [Array.getElem?_eq_none h1] at hb; cases hb
 refine Calls.mono ((hc b).lend hS fun ψ hψ => (hΦ b ψ hψ).elim (fun e => ?_) .inl) fun e w' ⟨h1, h2⟩ => ?_
 ·subst e
  refine .inr ⟨[b], hφ b w hb, fun k hk => ?_, fun w' hw' => hφ b w' ?_⟩
  ·obtain rfl := List.mem_singleton.1 hk; exact hlt
  ·rw [hw' b (List.mem_singleton.2 rfl)]; exact hb
 ·subst h1
  exact hK w' h2
theorem lent {φ : Pr} {l S : List Pr} (h : ∀ ψ ∈ l, ψ = φ ∨ ψ ∈ S) : ∀ ψ ∈ φ :: l, ψ = φ ∨ ψ ∈ S := fun ψ hψ => by
 rw [List.mem_cons] at hψ
 exact hψ.elim .inl (h ψ)
theorem lent2 {φ : Pr} {l m S : List Pr} (h : ∀ ψ ∈ l, ψ = φ ∨ ψ ∈ S) (h' : ∀ ψ ∈ m, ψ ∈ S) : ∀ ψ ∈ l ++ m, ψ = φ ∨ ψ ∈ S := fun ψ hψ => (List.mem_append.1 hψ).elim (h ψ) fun h1 => .inr (h' ψ h1)
theorem lent0 {φ : Pr} {S : List Pr} : ∀ ψ ∈ ([] : List Pr), ψ = φ ∨ ψ ∈ S := fun _ h => by cases h
theorem OpV.callF {Φ0 : List Pr} {v : Value} {f : FuncId} {args : Array Value} (hs bs : List Nat) (hΦ : ∀ φ ∈ Φ0, φ ∈ Φ) (hc : Pure P Φ0 f args v) (he : ∀ A, enterE P o L (H ++ A) hs = some (f, args, bs, bs)) :
  OpV P N (fun A => Sat w0 T (H ++ A) G Φ) L o v := fun Q A a w K ha hS hK => by
 unfold Oper.wp
 rw [enterE_sound (he A) ha hS]
 refine Calls.mono (hc.at hΦ hS) fun e w' ⟨h1, h2⟩ => ?_
 subst h1
 exact hK w' h2
end
theorem WP.byBool {P : Program} {fn : Func} {R : Ending → World → Prop} {N : Nat} {k : List KI} {L : Env} {S : Pr} (c : Bool) (ht : c = true → WP P fn R N k L S) (hf : c = false → WP P fn R N k L S) : WP P fn R N k L S := by
 cases c
 ·exact hf rfl
 ·exact ht rfl
abbrev ptrV {σ : Type} (A : SkL σ) (k : Nat) : Value := .pointer (match A.a with
 | none => none
 | some p => some ⟨p.1, p.2 + k, none⟩)
theorem row_at {α σ : Type} {m : Nat} {f : α → σ → List Value} {K : α → σ → Pr} {A : SkL σ} {xs : List α} {i : Int} {r : α} {w : World} (hR : RowP m f K A xs w) (h : getL xs.length xs i = some r) : ∃ b o, A.a = some (b, o) := ptr_of hR.ptr h
theorem ptrV_of {σ : Type} {A : SkL σ} {b o : Nat} (hA : A.a = some (b, o)) (k : Nat) : ptrV A k = .pointer (some ⟨b, o + k, none⟩) := by simp [ptrV, hA]
section
variable {P : Program} {ρ : Operand → Value} {w : World} {dst : Option Tmp} {ty : TypeId} {pos : String} {af : Array Edge} {g : Option (Nat × Bool)} {t : TypeId} {x y lo hi : Operand} {α σ : Type} {m : Nat} {f : α → σ → List Value} {K : α → σ → Pr} {A : SkL σ} {xs r' : List α} {i : Int} {r : α} {k kl kh : IntKind} {e : TypeId}
theorem run_indexRowF (ht : P.underlying t = some (.slice e)) (hi : (P.info? e).map (·.size) = some m) (h : getL xs.length xs i = some r) (hx : ρ x = slcV A xs.length) (hy : ρ y = .int k i) (hR : RowP m f K A xs w) :
  (execOp ρ ⟨dst, .indexAddr t x y, ty, pos, af, g⟩).run P w = .ok (.value (ptrV A (i.toNat * m))) w := by
 obtain ⟨b, o, hA⟩ := row_at hR h
 rw [ptrV_of hA]
 exact run_indexRow ht hi hA hx hy (getL_parts h).1
theorem run_loadRowFA {j n : Nat} {vs : List Value} (h : getL xs.length xs i = some r) (hagg : ∀ w, (isAgg t).run P w = .ok true w) (hsz : (P.info? t).map (·.size) = some n) (hp : ρ x = ptrV A (i.toNat * m + j)) (hv : ((f r (A.s i.toNat)).drop j).take n = vs) (hl : vs.length = n) (hR : RowP m f K A xs w) :
  (execOp ρ ⟨dst, .load t x, ty, pos, af, g⟩).run P w = .ok (.value (.agg vs.toArray)) w := by
 obtain ⟨b, o, hA⟩ := row_at hR h
 rw [ptrV_of hA, ← Nat.add_assoc] at hp
 exact run_loadRowA hA h hagg hsz hp hv hl hR
end
end Eng
namespace Eng
open Go
theorem GS.split {w : World} : ∀ {Fs : List (List Nat)} {G1 G2 : List Pr}, GS Fs (G1 ++ G2) w → ∃ F1 F2, Fs = F1 ++ F2 ∧ GS F1 G1 w ∧ GS F2 G2 w
 | Fs, [], G2, h => ⟨[], Fs, rfl, trivial, h⟩
 | [], _ :: _, _, h => h.elim
 | F :: Fs, g :: G1, G2, h => by
  obtain ⟨F1, F2, rfl, h1, h2⟩ := GS.split (G1 := G1) h.2
  exact ⟨F :: F1, F2, rfl, ⟨h.1, h1⟩, h2⟩
theorem GS.perm {w : World} {G G' : List Pr} (hp : G.Perm G') : ∀ {Fs : List (List Nat)}, GS Fs G w → ∃ Fs', Fs.Perm Fs' ∧ GS Fs' G' w := by
 induction hp with
 | nil => intro Fs h; exact ⟨Fs, .refl _, h⟩
 | cons g hp ih =>
  intro Fs h
  cases Fs with
  | nil => exact h.elim
  | cons F Fs =>
   obtain ⟨Fs', h1, h2⟩ := ih h.2
   exact ⟨F :: Fs', h1.cons F, h.1, h2⟩
 | swap g g' l =>
  intro Fs h
  match Fs, h with
  | F :: F' :: Fs, h => exact ⟨F' :: F :: Fs, .swap .., h.2.1, h.1, h.2.2⟩
  | [_], h => exact h.2.elim
  | [], h => exact h.elim
 | trans h1 h2 ih1 ih2 =>
  intro Fs h
  obtain ⟨F1, p1, g1⟩ := ih1 h
  obtain ⟨F2, p2, g2⟩ := ih2 g1
  exact ⟨F2, p1.trans p2, g2⟩
theorem perm_flatten {a b : List (List Nat)} (h : a.Perm b) : a.flatten.Perm b.flatten := by
 induction h with
 | nil => exact .refl _
 | cons x _ ih => simp only [List.flatten_cons]; exact ih.append_left x
 | swap x y l => simp only [List.flatten_cons, ← List.append_assoc]; exact List.perm_append_comm.append_right _
 | trans _ _ h1 h2 => exact h1.trans h2
theorem Sat.permG {w0 w : World} {T : Zone} {H : Heap} {G G' Φ : List Pr} (h : Sat w0 T H G Φ w) (hp : G.Perm G') : Sat w0 T H G' Φ w := by
 obtain ⟨Fs, o⟩ := h.own
 obtain ⟨Fs', h1, h2⟩ := o.g.perm hp
 have hf : (keys H ++ Fs.flatten).Perm (keys H ++ Fs'.flatten) := (perm_flatten h1).append_left _
 exact ⟨h.os, h.tape, h.output, h.size, h.frame, Fs', hf.nodup_iff.1 o.nd, fun k hk => o.mine k (hf.mem_iff.2 hk), o.has, h2, fun φ hφ => by
  obtain ⟨F, a, b, c⟩ := o.ro φ hφ
  exact ⟨F, a, fun k hk hk' => b k hk (hf.mem_iff.2 hk'), c⟩⟩
theorem Sat.dropG {w0 w : World} {T : Zone} {H : Heap} {G1 G2 Φ : List Pr} (h : Sat w0 T H (G1 ++ G2) Φ w) : Sat w0 T H G1 Φ w := by
 obtain ⟨Fs, o⟩ := h.own
 obtain ⟨F1, F2, rfl, h1, _⟩ := GS.split o.g
 have hs : (keys H ++ F1.flatten).Sublist (keys H ++ (F1 ++ F2).flatten) := by
  rw [List.flatten_append, ← List.append_assoc]
  exact List.sublist_append_left _ _
 exact ⟨h.os, h.tape, h.output, h.size, h.frame, F1, o.nd.sublist hs, fun k hk => o.mine k (hs.mem hk), o.has, h1, fun φ hφ => by
  obtain ⟨F, a, b, c⟩ := o.ro φ hφ
  exact ⟨F, a, fun k hk hk' => b k hk (hs.mem hk'), c⟩⟩
theorem fm_map {α β : Type} {f : α → Option β} {g : α → β} : ∀ (l : List α), (∀ i ∈ l, f i = some (g i)) → l.filterMap f = l.map g
 | [], _ => rfl
 | a :: l, h => by rw [List.filterMap_cons, h a (List.mem_cons_self ..), List.map_cons, fm_map l fun i hi => h i (List.mem_cons_of_mem _ hi)]
theorem pickL_range (G : List Pr) : (List.range G.length).filterMap (fun i => G[i]?) = G := by
 rw [fm_map (g := fun i => G.getD i (fun _ => True)) _ fun i hi => by
  have := List.mem_range.1 hi
  simp [List.getD, List.getElem?_eq_getElem this]]
 apply List.ext_getElem?
 intro i
 rcases Nat.lt_or_ge i G.length with h | h
 ·simp [h, List.getD]
 ·rw [List.getElem?_eq_none h, List.getElem?_eq_none (by simpa using h)]
theorem pickL_append (a b : List Nat) (G : List Pr) : pickL (a ++ b) G = pickL a G ++ pickL b G := by simp [pickL]
theorem Sat.pickG {w0 w : World} {T : Zone} {H : Heap} {G G' Φ : List Pr} (h : Sat w0 T H G Φ w) (is js : List Nat) (n : Nat) (hn : G.length = n) (hp : (is ++ js).isPerm (List.range n) = true) (e : pickL is G = G') : Sat w0 T H G' Φ w := by
 subst e
 subst hn
 have h1 : G.Perm (pickL is G ++ pickL js G) := by
  rw [← pickL_append]
  have := (List.isPerm_iff.1 hp).filterMap fun i => G[i]?
  rw [pickL_range] at this
  exact this.symm
 exact (h.permG h1).dropG
end Eng
namespace Eng
open Go
end Eng
namespace Eng
open Go
end Eng
namespace Eng
open Go
end Eng
namespace Eng
open Go
end Eng
namespace Eng
open Go
end Eng
namespace Eng
open Go
end Eng
namespace Eng
open Go Go.RowKit
def Bld (T e B b : Nat) (s : ByteArray) : Pr := Lib.IsBuilder T e B b (Lib.byteCells s.data.toList)
theorem Bld.loc {T e B b : Nat} {s : ByteArray} {w : World} (h : Bld T e B b s w) : ∃ F, Loc F (Bld T e B b s) w ∧ F.Nodup ∧ ∀ k ∈ F, B ≤ k := by
 have key : ∀ p, Lib.BuilderAt T e B b p (Lib.byteCells s.data.toList) w → ∃ F : List Nat, F.Nodup ∧ (∀ k ∈ F, B ≤ k) ∧ (∀ k ∈ F, k < w.heap.size) ∧ ∀ w' : World, (∀ k ∈ F, w'.heap[k]? = w.heap[k]?) → Lib.BuilderAt T e B b p (Lib.byteCells s.data.toList) w' := by
  rintro p ⟨hB, v, hb, ⟨hl, hv⟩, hne⟩
  have hbl := (Array.getElem?_eq_some_iff.1 hb).1
  rcases hv with ⟨rfl, hn⟩ | ⟨g, cap, cur, rfl, hg, hc, h1, h2, h3, h4⟩
  ·refine ⟨[b], by simp, by simpa using hB, by simpa using hbl, fun w' hw' => ⟨hB, _, by rw [hw' b (by simp)]; exact hb, ⟨hl, .inl ⟨rfl, hn⟩⟩, hne⟩⟩
  ·have hgl := (Array.getElem?_eq_some_iff.1 hc).1
   have hgb : b ≠ g := fun e => hne (by rw [e]; rfl)
   refine ⟨[b, g], by simpa using hgb, by simp; exact ⟨hB, hg⟩, by simp; exact ⟨hbl, hgl⟩, fun w' hw' => ⟨hB, _, by rw [hw' b (by simp)]; exact hb, ⟨hl, .inr ⟨g, cap, cur, rfl, hg, by rw [hw' g (by simp)]; exact hc, h1, h2, h3, h4⟩⟩, hne⟩⟩
 rcases h with h | h
 ·obtain ⟨F, a1, a2, a3, a4⟩ := key _ h
  exact ⟨F, ⟨.inl h, a3, fun w' hw' => .inl (a4 w' hw')⟩, a1, a2⟩
 ·obtain ⟨F, a1, a2, a3, a4⟩ := key _ h
  exact ⟨F, ⟨.inr h, a3, fun w' hw' => .inr (a4 w' hw')⟩, a1, a2⟩
section
variable {w w' : World} {Z : Zone} {Φ : List Pr} {T e b : Nat} {s : ByteArray}
theorem Sat.noT (hS : Sat w Z [] [] Φ w) : ∃ Z0 : Zone, Z0.t = [] ∧ Sat w Z0 [] [] Φ w ∧ ∀ w', Sat w Z0 [] [] Φ w' → Sat w Z [] [] Φ w' := by
 refine ⟨⟨[], fun k => Z.a k ∨ k ∈ Z.t⟩, rfl, ?_, fun w' h => ?_⟩
 ·obtain ⟨Fs, o⟩ := hS.own
  refine ⟨rfl, rfl, rfl, Nat.le_refl _, fun _ _ _ => rfl, [], ⟨by simp [keys], by simp [keys], by simp, trivial, fun φ hφ => ?_⟩⟩
  obtain ⟨F, a1, a2, a3⟩ := o.ro φ hφ
  exact ⟨F, a1, by simp [keys], fun k hk => (a3 k hk).elim (fun h => .inl (.inl h)) fun h => h.elim (fun h => .inl (.inr h)) fun h => .inr (.inr h)⟩
 ·obtain ⟨Fs, o⟩ := h.own
  refine ⟨h.os, h.tape, h.output, h.size, fun k hk _ => h.frame k hk (by simp), [], ⟨by simp [keys], by simp [keys], by simp, trivial, fun φ hφ => ?_⟩⟩
  obtain ⟨F, a1, a2, a3⟩ := o.ro φ hφ
  exact ⟨F, a1, by simp [keys], fun k hk => (a3 k hk).elim (fun h => h.elim .inl fun h => .inr (.inl h)) fun h => h.elim (fun h => nomatch h) fun h => .inr (.inr h)⟩
theorem Sat.ofBelow (hS : Sat w Z [] [] Φ w) (hb : Below w.heap.size w w') : Sat w Z [] [] Φ w' := hS.away hb.os hb.tape hb.output hb.size hb.block
theorem Sat.ofBld (hS : Sat w Z [] [] Φ w) (hb : Below w.heap.size w w') (h : Bld T e w.heap.size b s w') : Sat w Z [] [Bld T e w.heap.size b s] Φ w' := by
 obtain ⟨F, hl, hn, hF⟩ := h.loc
 obtain ⟨Fs, o⟩ := hS.own
 refine ⟨hb.os, hb.tape, hb.output, hb.size, fun k hk _ => hb.block k hk, [F], ⟨by simpa [keys] using hn, fun k hk => ?_, by simp, ⟨hl, trivial⟩, fun φ hφ => ?_⟩⟩
 ·have hk' : k ∈ F := by simpa [keys] using hk
  exact ⟨.inr (hF k hk'), hl.lt k hk'⟩
 ·obtain ⟨F', a1, a2, a3⟩ := o.ro φ hφ
  exact ⟨F', a1.mono hb.size fun k hk => hb.block k (a1.lt k hk), fun k hk hk' => by
   have h1 := a1.lt k hk
   have h2 := hF k (by simpa [keys] using hk')
   omega, a3⟩
theorem Sat.below' {H : Heap} {G : List Pr} (hz : Z.t = []) (h : Sat w Z H G Φ w') : Below w.heap.size w w' := ⟨h.os, h.tape, h.output, h.size, fun k hk => h.frame k hk (by simp [hz])⟩
theorem Sat.bld (h : Sat w Z [] [Bld T e w.heap.size b s] Φ w') : Bld T e w.heap.size b s w' := by
 obtain ⟨Fs, o⟩ := h.own
 cases Fs with
 | nil => exact o.g.elim
 | cons F Fs => exact o.g.1.now
theorem WP.bldNew {P : Program} {fn : Func} {R : Ending → World → Prop} {N : Nat} {k : List KI} {L : Env} (hz : Z.t = []) (hS : Sat w Z [] [] Φ w) (h : WP P fn R N k L (Sat w Z [] [Bld T e w.heap.size b ⟨#[]⟩] Φ)) :
  WP P fn R N k L (Sat w Z [(b, .cells #[.pointer none, .slice none 0 0] T (0, 0))] [] Φ) := fun a w' hh hw => by
 refine h a w' hh (hS.ofBld (hw.below' hz) (.inl ⟨?_, _, hw.get (j := 0) rfl, ⟨rfl, .inl ⟨rfl, rfl⟩⟩, by simp [Value.ownBlock]⟩))
 obtain ⟨Fs, o⟩ := hw.own
 rcases (o.mine b (by simp [keys])).1 with h1 | h1
 ·simp [hz] at h1
 ·exact h1
def bldS (x y : ByteArray) : Option ByteArray := if x.size + y.size ≤ 140737488355328 then some (x ++ y) else none
section
variable {P : Program} {N : Nat} {ops : Array Oper} {Q : Exit → Act → World → Prop} {o : Oper} {l : List Oper} {L L' : Env} {ρ : Go.Shelf.Ren}
theorem WL.bldWrite (LY : Go.Proofs.Lays.n166 P ρ) (X : Go.Proofs.Builder.Extra P ρ) (hz : Z.t = []) (hS : Sat w Z [] [] Φ w) (hs bs : List Nat) (t s t' : ByteArray)
  (he : enterE P o L [] hs = some (ρ.f 166, #[.pointer (some ⟨b, 0, none⟩), .string s], bs, bs)) (ht : bldS t s = some t') (hg : wantedE ops L o = some true) (hp : putE N o (.tuple #[.int .i64 s.size, .nilIface]) L = some L')
  (h : WL P N ops Q l L' (Sat w Z [] [Bld (ρ.t 72) (ρ.t 5) w.heap.size b t'] Φ)) : WL P N ops Q (o :: l) L (Sat w Z [] [Bld (ρ.t 72) (ρ.t 5) w.heap.size b t] Φ) := by
 unfold bldS at ht
 split at ht
 ·rename_i hlen
  obtain rfl := Option.some.inj ht
  refine WL.call (X := Unit) hs bs (fun _ => .tuple #[.int .i64 s.size, .nilIface]) (fun _ => Sat w Z [] [Bld (ρ.t 72) (ρ.t 5) w.heap.size b (t ++ s)] Φ) (fun _ => L') he hg (fun w1 hw => ?_) (fun _ => hp) (fun _ => h)
  have hB := hw.below' hz
  refine (Go.Proofs.Any.Builder_WriteString LY X w.heap.size b _ s w1 hw.bld (by rw [Lib.byteCells_length]; exact hlen) hB.size).mono fun e w2 ⟨he, h1, h2⟩ => ⟨(), he, hS.ofBld (hB.trans h2) (.inr ?_)⟩
  rw [Lib.strCells_eq, ← Lib.byteCells_append] at h1
  simpa using h1
 ·cases ht
theorem WL.bldString (LY : Go.Proofs.Lays.n169 P ρ) (X : Go.Proofs.Builder.Extra P ρ) (hz : Z.t = []) (hS : Sat w Z [] [] Φ w) (hs bs : List Nat) (t : ByteArray)
  (he : enterE P o L [] hs = some (ρ.f 169, #[.pointer (some ⟨b, 0, none⟩)], bs, bs)) (hg : wantedE ops L o = some true) (hp : putE N o (.string t) L = some L')
  (h : WL P N ops Q l L' (Sat w Z [] [] Φ)) : WL P N ops Q (o :: l) L (Sat w Z [] [Bld (ρ.t 72) (ρ.t 5) w.heap.size b t] Φ) := by
 refine WL.call (X := Unit) hs bs (fun _ => .string t) (fun _ => Sat w Z [] [] Φ) (fun _ => L') he hg (fun w1 hw => ?_) (fun _ => hp) (fun _ => h)
 have hB := hw.below' hz
 exact (Go.Proofs.Any.Builder_String_any LY X w.heap.size b t.data.toList w1 hw.bld hB.size).mono fun e w2 ⟨he, h2⟩ => ⟨(), by rw [he], hS.ofBelow (hB.trans h2)⟩
end
end
end Eng
namespace Eng
open Go
def keysE (D : Env) : List Nat := D.map (·.1)
def okK (l : List Oper) (D L : Env) : Bool := l.all fun o => match o.dst with
 | none => true
 | some d => (look D d).isSome || (look L d).isNone
def bsOf (H : Heap) (hs : List Nat) : List Nat := (hs.map fun j => ((H[j]?).map (·.1)).getD 0).reverse
def bsQ (H : Heap) (hs : List Nat) : List Nat := hs.map fun j => ((H[j]?).map (·.1)).getD 0
def setC (cs : Array Value) (i : Nat) : List Value → Array Value
 | [] => cs
 | v :: r => setC (cs.setIfInBounds i v) (i + 1) r
def setO (i : Nat) (vs : List Value) : Obj → Obj
 | .cells cs e fr => .cells (setC cs i vs) e fr
 | o => o
def modH : Heap → Nat → (Obj → Obj) → Heap
 | [], _, _ => []
 | (b, o) :: H, 0, f => (b, f o) :: H
 | p :: H, j + 1, f => p :: modH H j f
def upH : List (Nat × Nat × List Value) → Heap → Heap
 | [], H => H
 | (j, i, vs) :: r, H => upH r (modH H j (setO i vs))
theorem look_append (D L : Env) (t : Nat) : look (D ++ L) t = (look D t).or (look L t) := by
 induction D with
 | nil => rfl
 | cons p D ih =>
  obtain ⟨k, v⟩ := p
  simp only [List.cons_append, look]
  split
  ·rfl
  ·exact ih
theorem putE_keep {N : Nat} {o : Oper} {v : Value} {L L' : Env} {t : Nat} (h : putE N o v L = some L') (ht : o.dst ≠ some t) : look L' t = look L t := by
 unfold Eng.putE at h
 split at h
 ·rw [← Option.some.inj h]
 ·rename_i d hd
  split at h
  ·rw [← Option.some.inj h]
   have : Nat.beq d t = false := by
    rw [Bool.eq_false_iff]; intro hh; exact ht (hd.trans (congrArg some (Nat.eq_of_beq_eq_true hh)))
   simp [look, this]
  ·cases h
theorem evOps_keep {P : Program} {N : Nat} {ops : Array Oper} {t : Nat} : ∀ (l : List Oper) (L : Env) (s : St) (L' : Env) (s' : St), evOps P N ops l L s = some (L', s') → (∀ o ∈ l, o.dst ≠ some t) → look L' t = look L t
 | [], L, s, L', s', h, _ => by
  simp only [evOps, Option.some.injEq, Prod.mk.injEq] at h
  rw [h.1]
 | o :: l, L, s, L', s', h, ht => by
  simp only [evOps] at h
  have h0 := ht o (List.mem_cons_self ..)
  have h1 := fun o' ho' => ht o' (List.mem_cons_of_mem _ ho')
  split at h
  ·cases h
  ·split at h
   ·rename_i L1 hL1
    rw [evOps_keep l _ _ _ _ h h1, putE_keep hL1 h0]
   ·cases h
  ·split at h
   ·rename_i L1 s1 hE
    rw [evOps_keep l _ _ _ _ h h1]
    unfold evOp at hE
    split at hE
    ·cases hE
    ·split at hE
     ·simp only [Option.map_eq_some_iff, Prod.mk.injEq] at hE
      obtain ⟨L2, hL2, rfl, _⟩ := hE
      exact putE_keep hL2 h0
     ·simp only [Option.map_eq_some_iff, Prod.mk.injEq] at hE
      obtain ⟨L2, hL2, rfl, _⟩ := hE
      exact putE_keep hL2 h0
     ·cases hE
   ·cases h
theorem quietOps_keep {P : Program} {N : Nat} {ops : Array Oper} {H : Heap} {t : Nat} : ∀ (l : List Oper) (L : Env) (hs : List Nat) (L' : Env) (es : List (Nat × Nat)), quietOps P N ops H l L hs = some (L', es) → (∀ o ∈ l, o.dst ≠ some t) → look L' t = look L t
 | [], L, hs, L', es, h, _ => by
  simp only [quietOps, Option.some.injEq, Prod.mk.injEq] at h
  rw [h.1]
 | o :: l, L, hs, L', es, h, ht => by
  simp only [quietOps] at h
  have h0 := ht o (List.mem_cons_self ..)
  have h1 := fun o' ho' => ht o' (List.mem_cons_of_mem _ ho')
  split at h
  ·cases h
  ·split at h
   ·rename_i L1 hL1
    rw [quietOps_keep l _ _ _ _ h h1, putE_keep hL1 h0]
   ·cases h
  ·split at h
   ·cases h
   ·split at h
    ·split at h
     ·rename_i L1 hL1
      simp only [Option.map_eq_some_iff, Prod.mk.injEq, Prod.exists] at h
      obtain ⟨L2, es2, h2, rfl, rfl⟩ := h
      rw [quietOps_keep l _ _ _ _ h2 h1, putE_keep hL1 h0]
     ·cases h
    ·cases h
theorem Has.delta {N : Nat} {a : Act} {L L1 D : Env} {l : List Oper} (h : Has N a L1) (hD : Eng.restr (keysE D) L1 = D) (hK : okK l D L = true) (hkeep : ∀ t, (∀ o ∈ l, o.dst ≠ some t) → ∀ v, look L t = some v → look L1 t = some v) : Has N a (D ++ L) := by
 refine ⟨h.size, h.defers, fun t v ht => h.has t v ?_⟩
 rw [look_append] at ht
 cases hd : look D t with
 | some u =>
  rw [hd] at ht
  obtain rfl := Option.some.inj ht
  rw [← hD] at hd
  exact look_restr hd
 | none =>
  rw [hd] at ht
  have hL : look L t = some v := ht
  refine hkeep t (fun o ho e => ?_) v hL
  have := List.all_eq_true.1 hK o ho
  rw [e] at this
  simp [hd, hL] at this
theorem runOpsD_wp {P : Program} {N : Nat} {ops : Array Oper} {Q : Exit → Act → World → Prop} {w0 : World} {T : Zone} {G Φ : List Pr} {l r : List Oper} {L L0 D : Env} {H H' : Heap} {hs bs : List Nat} {a : Act} {w : World}
  (h : runOps P N ops l L0 H w.heap.size hs (keysE D) = some (D, H', bs, bs)) (hK : okK l D L = true) (hsub : ∀ t v, look L t = some v → look L0 t = some v) (hh : Has N a L0) (hS : Sat w0 T H G Φ w)
  (hk : ∀ a' w', Has N a' (D ++ L) → Sat w0 T H' G Φ w' → wpList P ops Q r a' w') : wpList P ops Q (l ++ r) a w := by
 unfold runOps at h
 split at h
 ·rename_i L1 s1 h1
  simp only [Option.some.injEq, Prod.mk.injEq] at h
  obtain ⟨hD, rfl, e1, e2⟩ := h
  exact evOps_wp l L0 _ L1 s1 a w h1 (esOk_of_map (e1.trans e2.symm)) rfl hh hS fun a' w' ha hw => hk a' w' (ha.delta hD hK fun t ht v hv => by rw [evOps_keep _ _ _ _ _ h1 ht]; exact hsub t v hv) hw
 ·cases h
theorem runQuietD_wp {P : Program} {N : Nat} {ops : Array Oper} {w0 : World} {T : Zone} {H : Heap} {G Φ : List Pr} {Q : Act → Prop} {l r : List Oper} {L L0 D : Env} {hs bs : List Nat} {a : Act} (h : runQuiet P N ops H l L0 hs (keysE D) = some (D, bs, bs)) (hK : okK l D L = true) (hsub : ∀ t v, look L t = some v → look L0 t = some v) (hh : Has N a L0)
  (hk : ∀ a', Has N a' (D ++ L) → wpQuiet P ops (Sat w0 T H G Φ) Q r a') : wpQuiet P ops (Sat w0 T H G Φ) Q (l ++ r) a := by
 unfold runQuiet at h
 split at h
 ·rename_i L1 es h1
  simp only [Option.some.injEq, Prod.mk.injEq] at h
  obtain ⟨hD, e1, e2⟩ := h
  exact quietOps_wp l L0 hs L1 es a h1 (esOk_of_map (e1.trans e2.symm)) hh fun a' ha => hk a' (ha.delta hD hK fun t ht v hv => by rw [quietOps_keep _ _ _ _ _ h1 ht]; exact hsub t v hv)
 ·cases h
theorem Has.over {N : Nat} {a : Act} {L : Env} {t : Nat} {v : Value} (h : Has N a L) (hv : look L t = some v) : Has N a ((t, v) :: L) := ⟨h.size, h.defers, fun t' u hu => by
 simp only [look] at hu
 by_cases e : t = t'
 ·subst e
  have : Nat.beq t t = true := Nat.beq_refl t
  simp only [this] at hu
  exact h.has _ _ (hv.trans hu)
 ·have : Nat.beq t t' = false := by
   rw [Bool.eq_false_iff]; intro hh; exact e (Nat.eq_of_beq_eq_true hh)
  simp only [this] at hu
  exact h.has _ _ hu⟩
theorem look_over {L : Env} {t : Nat} {v : Value} (hv : look L t = some v) (t' : Nat) (u : Value) (h : look L t' = some u) : look ((t, v) :: L) t' = some u := by
 simp only [look]
 by_cases e : t = t'
 ·subst e
  have : Nat.beq t t = true := Nat.beq_refl t
  simp only [this]
  exact hv.symm.trans h
 ·have : Nat.beq t t' = false := by
   rw [Bool.eq_false_iff]; intro hh; exact e (Nat.eq_of_beq_eq_true hh)
  simp only [this]
  exact h
section
variable {P : Program} {N : Nat} {ops : Array Oper} {Q : Exit → Act → World → Prop} {w0 : World} {T : Zone} {G Φ : List Pr} {l : List Oper} {L : Env} {H : Heap} {S : Pr}
theorem WL.rn (k : Nat) (hs : List Nat) (D : Env) (hk : WL P N ops Q (l.drop k) (D ++ L) (Sat w0 T H G Φ)) (h : ∀ n, runOps P N ops (l.take k) L H n hs (keysE D) = some (D, H, bsOf H hs, bsOf H hs) := by intro n; kernel_rfl) (hK : okK (l.take k) D L = true := by kernel_rfl) :
  WL P N ops Q l L (Sat w0 T H G Φ) := fun a w hh hS => by
 have := runOpsD_wp (r := l.drop k) (Q := Q) (h w.heap.size) hK (fun _ _ h => h) hh hS fun a' w' ha hw => hk a' w' ha hw
 rwa [List.take_append_drop] at this
theorem WL.rh (k : Nat) (hs : List Nat) (D : Nat → Env) (U : Nat → List (Nat × Nat × List Value)) (A : Nat → Heap) (hk : ∀ n, WL P N ops Q (l.drop k) (D n ++ L) (Sat w0 T (upH (U n) (H ++ A n)) G Φ)) (h : ∀ n, runOps P N ops (l.take k) L H n hs (keysE (D n)) = some (D n, upH (U n) (H ++ A n), bsOf (H ++ A n) hs, bsOf (H ++ A n) hs) := by intro n; kernel_rfl) (hK : ∀ n, okK (l.take k) (D n) L = true := by intro n; kernel_rfl) :
  WL P N ops Q l L (Sat w0 T H G Φ) := fun a w hh hS => by
 have := runOpsD_wp (r := l.drop k) (Q := Q) (h w.heap.size) (hK _) (fun _ _ h => h) hh hS fun a' w' ha hw => hk _ a' w' ha hw
 rwa [List.take_append_drop] at this
theorem WL.bo (t : Nat) (c : Bool) (k : Nat) (hs hs' : List Nat) (D : Bool → Env) (hk : WL P N ops Q (l.drop k) (D c ++ L) (Sat w0 T H G Φ)) (hc : look L t = some (.bool c) := by kernel_rfl)
  (ht : ∀ n, runOps P N ops (l.take k) ((t, .bool true) :: L) H n hs (keysE (D true)) = some (D true, H, bsOf H hs, bsOf H hs) := by intro n; kernel_rfl) (hf : ∀ n, runOps P N ops (l.take k) ((t, .bool false) :: L) H n hs' (keysE (D false)) = some (D false, H, bsOf H hs', bsOf H hs') := by intro n; kernel_rfl)
  (hK : ∀ b, okK (l.take k) (D b) L = true := by intro b; kernel_rfl) : WL P N ops Q l L (Sat w0 T H G Φ) := fun a w hh hS => by
 have := runOpsD_wp (l := l.take k) (r := l.drop k) (Q := Q) (L := L) (L0 := (t, .bool c) :: L) (D := D c) (H := H) (H' := H) (hs := if c then hs else hs') (bs := bsOf H (if c then hs else hs')) (by cases c; exact hf _; exact ht _) (hK c) (look_over hc) (hh.over hc) hS fun a' w' ha hw => hk a' w' ha hw
 rwa [List.take_append_drop] at this
theorem WL.sp (t : Nat) (c : Bool) (ht : c = true → WL P N ops Q l ((t, .bool true) :: L) S) (hf : c = false → WL P N ops Q l ((t, .bool false) :: L) S) (hc : look L t = some (.bool c) := by kernel_rfl) : WL P N ops Q l L S := fun a w hh hS => by
 cases c
 ·exact hf rfl a w (hh.over hc) hS
 ·exact ht rfl a w (hh.over hc) hS
end
section
variable {P : Program} {N : Nat} {ops : Array Oper} {Q : Act → Prop} {w0 : World} {T : Zone} {G Φ : List Pr} {l : List Oper} {L : Env} {H : Heap}
theorem QL.rn (k : Nat) (hs : List Nat) (D : Env) (hk : QL P N ops (Sat w0 T H G Φ) Q (l.drop k) (D ++ L)) (h : runQuiet P N ops H (l.take k) L hs (keysE D) = some (D, bsQ H hs, bsQ H hs) := by kernel_rfl) (hK : okK (l.take k) D L = true := by kernel_rfl) : QL P N ops (Sat w0 T H G Φ) Q l L := fun a hh => by
 have := runQuietD_wp (r := l.drop k) (Q := Q) (w0 := w0) (T := T) (G := G) (Φ := Φ) h hK (fun _ _ h => h) hh fun a' ha => hk a' ha
 rwa [List.take_append_drop] at this
end
section
variable {P : Program} {fn : Func} {R : Ending → World → Prop} {N : Nat} {k : List KI} {L : Env} {w0 : World} {T : Zone} {H : Heap} {G Φ : List Pr} {id : Nat} {l : List Oper}
theorem WP.rn (hs : List Nat) (D : Env) (hk : WP P fn R N k (D ++ L) (Sat w0 T H G Φ)) (h : ∀ n, runOps P N l.toArray l L H n hs (keysE D) = some (D, H, bsOf H hs, bsOf H hs) := by intro n; kernel_rfl) (hK : okK l D L = true := by kernel_rfl) (hd : roundOk (modeOf k) l = true := by rfl) :
  WP P fn R N (.code (.region id l.toArray false) :: k) L (Sat w0 T H G Φ) := WP.region (fun a w hh hS => by
 have := runOpsD_wp (r := []) (Q := denM P fn R k) (h w.heap.size) hK (fun _ _ h => h) hh hS fun a' w' ha hw => hk a' w' ha hw
 rwa [List.append_nil] at this) hd
theorem WP.rh (hs : List Nat) (D : Nat → Env) (U : Nat → List (Nat × Nat × List Value)) (A : Nat → Heap) (hk : ∀ n, WP P fn R N k (D n ++ L) (Sat w0 T (upH (U n) (H ++ A n)) G Φ)) (h : ∀ n, runOps P N l.toArray l L H n hs (keysE (D n)) = some (D n, upH (U n) (H ++ A n), bsOf (H ++ A n) hs, bsOf (H ++ A n) hs) := by intro n; kernel_rfl) (hK : ∀ n, okK l (D n) L = true := by intro n; kernel_rfl) (hd : roundOk (modeOf k) l = true := by rfl) :
  WP P fn R N (.code (.region id l.toArray false) :: k) L (Sat w0 T H G Φ) := WP.region (fun a w hh hS => by
 have := runOpsD_wp (r := []) (Q := denM P fn R k) (h w.heap.size) (hK _) (fun _ _ h => h) hh hS fun a' w' ha hw => hk _ a' w' ha hw
 rwa [List.append_nil] at this) hd
theorem WP.kp (m : List Bool) (h : WP P fn R N k L (Sat w0 T (maskT m H) G Φ)) : WP P fn R N k L (Sat w0 T H G Φ) := WP.keep m rfl h
theorem WL.kp {ops : Array Oper} {Q : Exit → Act → World → Prop} (m : List Bool) (h : WL P N ops Q l L (Sat w0 T (maskT m H) G Φ)) : WL P N ops Q l L (Sat w0 T H G Φ) := WL.keep m rfl h
end
end Eng
namespace Eng
open Go
end Eng
namespace Eng
open Go
variable {X : Type}
end Eng
namespace Eng
open Go
end Eng
namespace Eng
open Go
end Eng