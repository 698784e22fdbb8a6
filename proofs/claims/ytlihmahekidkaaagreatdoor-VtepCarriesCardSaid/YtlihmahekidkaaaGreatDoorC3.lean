/- A machine that the kernel runs closed Go programs by, and that what it answers is what the given model does: no conditions but those that each theorem bears. -/
import Derived.Test.YtlihmahekidkaaaGreatDoorC2
import Derived.Test.YtlihmahekidkaaaGreatDoorE1
import Derived.Shelf.Strings.OnBuilder

set_option linter.unusedVariables false
set_option linter.unusedSimpArgs false
set_option linter.unusedSectionVars false
namespace Ci
open Go
variable [Sym]
variable {P : Program} {w0 : World} {T : Nat → Prop} {θ : Th} {s s' : St} {w : World} {v : V}
theorem Rel.grow {w' : World} (h : Rel w0 T θ s w) (e1 : w'.os = w.os) (e2 : w'.tape = w.tape) (e3 : w'.output = w.output) (e4 : w.heap.size ≤ w'.heap.size) (e5 : ∀ k, k < w.heap.size → w'.heap[k]? = w.heap[k]?) : Rel w0 T θ s w' :=
 ⟨e1.trans h.os, e2.trans h.tape, e3.trans h.output, Nat.le_trans h.size e4, fun k hk ht => (e5 k (Nat.lt_of_lt_of_le hk h.size)).trans (h.frame k hk ht), h.glob, h.num, fun r pl hr hp => let ⟨a, b⟩ := h.new r pl hr hp; ⟨a, Nat.lt_of_lt_of_le b e4⟩, h.inj, fun r hr => let ⟨pl, ob, a, b, c⟩ := h.mem r hr; ⟨pl, ob, a, (e5 _ (h.new r pl hr a).2).trans b, c⟩⟩
theorem getB_lf (r : Bin) : getB r ⟨.e, .lf⟩ = .no := by cases r <;> rfl
theorem Rel.init (w : World) (hg : ∀ w' : World, w.heap.size ≤ w'.heap.size → (∀ k, k < w.heap.size → w'.heap[k]? = w.heap[k]?) → Sym.g w') : Rel w (fun _ => False) (fun _ => none) ⟨.e, .lf⟩ w :=
 ⟨rfl, rfl, rfl, Nat.le_refl _, fun _ _ _ => rfl, fun w' h1 h2 => hg w' h1 fun k hk => h2 k hk id, nofun, fun r pl hr _ => absurd (getB_lf r) hr, fun r _ _ _ hr _ _ _ _ => absurd (getB_lf r) hr, fun r hr => absurd (getB_lf r) hr⟩
theorem isTrue_ok {r : R} (h : isTrue r = true) : ∃ s', r = .ok (.b true) s' := by
 cases r with
 | no w => cases h
 | ok v s =>
  unfold isTrue at h
  simp only at h
  split at h
  ·subst h; exact ⟨s, rfl⟩
  ·cases h
def GOk (Gl : List Eng.Pr) : Prop := (∀ w, Sym.g w → Eng.Sat w ⟨[], fun _ => True⟩ [] [] Gl w) ∧ ∀ w Z w', Eng.Sat w Z [] [] Gl w → w.heap.size ≤ w'.heap.size → (∀ k, k < w.heap.size → w'.heap[k]? = w.heap[k]?) → Sym.g w'
theorem symbols_ok {Gl : List Eng.Pr} (hG : GOk Gl) {sp : Nat → Option (List V → St → R)} {n f : Nat} {vs : List V} {args : List Value} (hs : SpOk P sp) (hf : hasF P f = true) (hv : Rvs (fun _ => none) vs args) (h : isTrue (runF sp (getF P) (yOf P) n f vs ⟨.e, .lf⟩) = true) : Eng.Pure P Gl f args.toArray (.bool true) := by
 intro w Z hS
 obtain ⟨s', h⟩ := isTrue_ok h
 have := runF_ok hs n w (fun _ => False) f vs ⟨.e, .lf⟩ (.b true) s' (fun _ => none) w args h hv (Rel.init w (hG.2 w Z · hS))
 rw [callFunc_run hf] at this
 rcases this with ⟨_, _, _, h0, _⟩ | ⟨_, _, h0, _⟩ | ⟨f1, args1, w1, h0, hc⟩
 ·cases h0
 ·cases h0
 ·cases h0
  refine hc.mono fun en w' ⟨θ', x, e1, e2, hp⟩ => ?_
  have e2 : x = .bool true := e2
  subst e2
  refine ⟨e1, ?_⟩
  exact hS.away hp.rel.os hp.rel.tape hp.rel.output hp.rel.size fun k hk => hp.rel.frame k hk id
noncomputable def joinV (n x : Nat) : List V → V := List.rec (.s 0 0) (fun v r ih => asS .no v fun m y => match r with
 | [] => .s m y
 | _ => asS .no ih fun k z => .s (Nat.add m (Nat.add n k)) (Nat.add y (Nat.mul (Nat.add x (Nat.mul z (pow256 n))) (pow256 m))))
noncomputable def spJoin (vs : List V) (s : St) : R := match vs with
 | [.sl r off len cap known, .s n x] => bif Nat.ble len cap || !known then cellsB nay (getB r s) fun cs _ => takeX len (dropV off cs) fun xs => asS nay (joinV n x xs) fun m z => bif Nat.ble m 0x100000 && Nat.ble len 0x100000 then .ok (.s m z) s else nay else nay
 | _ => nay
theorem asSv_ok {x : V} {K : Nat → Nat → V} {m z : Nat} (h : asS V.no x K = V.s m z) : ∃ n c, x = .s n c ∧ K n c = V.s m z := by
 unfold asS at h
 cases x <;> first | (cases h; done) | exact ⟨_, _, rfl, h⟩
theorem joinV_ok {n x : Nat} (hx : x < 256 ^ n) : ∀ {cs : List V} {ys : List Value} {m z : Nat}, joinV n x cs = .s m z → Rvs θ cs ys → ∃ bs : List ByteArray, ys = bs.map Value.string ∧ z < 256 ^ m ∧ bytesOf m z = Lib.join (bs.map (·.data.toList)) (bytesOf n x)
 | [], ys, m, z, h, hv => by
  cases hv
  cases h
  exact ⟨[], rfl, by decide, rfl⟩
 | [c], ys, m, z, h, ⟨y, zs, h1, h2, h3⟩ => by
  cases h3
  obtain ⟨m', y', rfl, h⟩ := asSv_ok (show asS V.no c (fun m y => V.s m y) = V.s m z from h)
  cases h
  obtain ⟨k1, rfl⟩ := h2
  refine ⟨[strOf m z], h1, k1, ?_⟩
  rw [List.map_cons, List.map_nil, Lib.join_one, strOf_data]
 | c :: d :: cs, ys, m, z, h, ⟨y, zs, h1, h2, h3⟩ => by
  obtain ⟨m', y', rfl, h⟩ := asSv_ok (show asS V.no c (fun m y => asS V.no (joinV n x (d :: cs)) fun k z => V.s (Nat.add m (Nat.add n k)) (Nat.add y (Nat.mul (Nat.add x (Nat.mul z (pow256 n))) (pow256 m)))) = V.s m z from h)
  obtain ⟨k', z', h5, h⟩ := asSv_ok h
  have h5 : joinV n x (d :: cs) = V.s k' z' := h5
  obtain ⟨bs, rfl, k2, k3⟩ := joinV_ok hx h5 h3
  obtain ⟨k1, rfl⟩ := h2
  cases h
  cases bs with
  | nil => obtain ⟨y, zs, h, _⟩ := h3; cases h
  | cons b bs =>
   refine ⟨strOf m' y' :: b :: bs, by rw [h1]; rfl, ?_, ?_⟩
   ·show y' + (x + z' * 256 ^ n) * 256 ^ m' < 256 ^ (m' + (n + k'))
    have e1 : x + z' * 256 ^ n < 256 ^ (n + k') := by
     rw [Nat.pow_add]
     have := Nat.mul_le_mul_right (256 ^ n) (show z' + 1 ≤ 256 ^ k' from k2)
     rw [Nat.add_mul, Nat.one_mul, Nat.mul_comm (256 ^ k')] at this
     omega
    rw [Nat.pow_add]
    have := Nat.mul_le_mul_right (256 ^ m') (show x + z' * 256 ^ n + 1 ≤ 256 ^ (n + k') from e1)
    rw [Nat.add_mul, Nat.one_mul, Nat.mul_comm (256 ^ (n + k'))] at this
    omega
   ·show bytesOf (m' + (n + k')) (y' + (x + z' * 256 ^ n) * 256 ^ m') = _
    rw [bytesOf_add _ _ _ _ k1, bytesOf_add _ _ _ _ hx, k3, List.map_cons, List.map_cons, Lib.join_cons, Lib.join_cons, strOf_data]
    simp [Lib.joinTail]
theorem spJoin_ok {ρ : Go.Shelf.Ren} (L : Go.Proofs.Lays.n156 P ρ) (X : Go.Proofs.Builder.Extra P ρ) (hf : hasF P (ρ.f 156) = true) (w0 : World) (T : Nat → Prop) (vs : List V) (s : St) (v : V) (s' : St) (θ : Th) (w : World) (args : List Value) (h : spJoin vs s = .ok v s') (hv : Rvs θ vs args) (hr : Rel w0 T θ s w) : Ends P w0 T θ s v s' ((callFunc (ρ.f 156) args.toArray).run P w) := by
 unfold spJoin at h
 split at h
 ·rename_i r off len cap known n x
  obtain ⟨hb, h⟩ := bif_ok h
  obtain ⟨cs, mk, h, hm⟩ := cellsB_ok h
  obtain ⟨hlen, h⟩ := takeX_ok h
  obtain ⟨m, z, hj, h⟩ := asS_ok h
  obtain ⟨hsm, h⟩ := bif_ok h
  cases h
  obtain ⟨X1, zs, rfl, h1, h2⟩ := hv
  obtain ⟨X2, zs, rfl, h3, h4⟩ := h2
  cases h4
  obtain ⟨pl, hp, rfl, hcap⟩ := h1
  obtain ⟨hx, rfl⟩ := h3
  obtain ⟨hl, hd, ys, tl, ct, Li⟩ := hr.lies hp hm
  rw [dropV_eq] at hj hlen
  have hvs := (Li.vs.drop off).take len
  obtain ⟨bs, e1, e2, e3⟩ := joinV_ok hx hj hvs
  rw [Bool.and_eq_true] at hsm
  have hm1 := Nat.le_of_ble_eq_true hsm.1
  have hm2 := Nat.le_of_ble_eq_true hsm.2
  have hyl := Li.vs.length
  rw [List.length_drop] at hlen
  have hbl : bs.length = len := by
   have := congrArg List.length e1
   rw [List.length_map, List.length_take, List.length_drop] at this
   omega
  refine .inr (.inr ⟨_, _, w, callFunc_run hf _ _, ?_⟩)
  have hcells : ∀ (j : Nat) b, bs[j]? = some b → w.cell? ⟨pl.b, pl.a + off + j, none⟩ = some (.string b) := fun j b hb => by
   rw [Nat.add_assoc]
   refine Li.cell ?_
   have : ((ys.drop off).take len)[j]? = some (.string b) := by rw [e1, List.getElem?_map, hb]; rfl
   have hj := (List.getElem?_eq_some_iff.1 hb).1
   rw [List.getElem?_take_of_lt (by omega), List.getElem?_drop] at this
   exact this
  have hpb : pl.b < w.heap.size := (Array.getElem?_eq_some_iff.1 Li.heap).1
  have hle : bs.length ≤ (bif known then cap else pl.c - cap) := by
   rw [hbl]
   cases known with
   | true => simp only [Bool.not_true, Bool.or_false] at hb; exact Nat.le_of_ble_eq_true hb
   | false => have := hcap rfl; simp only [cond_false]; omega
  have hbn : (Lib.join (bs.map (·.data.toList)) (strOf n x).data.toList).length = m := by
   rw [strOf_data, ← e3, bytesOf_len]
  have := Go.Proofs.Any.strings_Join L X pl.b (pl.a + off) _ bs (strOf n x) w hcells hpb (by omega) hle (by rw [hbn]; omega)
  rw [hbl] at this
  refine this.mono fun en w' ⟨he, hw⟩ => ⟨θ, _, he, ⟨e2, ?_⟩, (hr.grow hw.os hw.tape hw.output hw.size hw.block).post' rfl⟩
  rw [strOf_data, ← e3]
  rfl
 ·cases h
end Ci
namespace Ci
open Go
variable [Sym]
variable {P : Program} {w0 : World} {T : Nat → Prop} {θ : Th} {s s' : St} {w : World} {v : V}
mutual
noncomputable def toVal : V → Value
 | .i k n => .int k n
 | .b x => .bool x
 | .s n c => .string (strOf n c)
 | .c v => v
 | .ui k j => .int k (Sym.I j)
 | .us j => .string (Sym.S j)
 | .agg xs => .agg (toVals xs).toArray
 | .tup xs => .tuple (toVals xs).toArray
 | _ => undef
noncomputable def toVals : List V → List Value
 | [] => []
 | v :: vs => toVal v :: toVals vs
end
mutual
def flat : V → Bool
 | .i _ _ => true
 | .b _ => true
 | .s n c => Nat.ble (Nat.succ c) (Nat.pow 256 n)
 | .c v => v.oneCell'
 | .ui _ _ => true
 | .us _ => true
 | .agg xs => flats xs && xs.all isCell
 | .tup xs => flats xs
 | _ => false
def flats : List V → Bool
 | [] => true
 | v :: vs => flat v && flats vs
end
mutual
theorem flat_rv : ∀ {v : V}, flat v = true → Rv θ v (toVal v)
 | .i _ _, _ => rfl
 | .b _, _ => rfl
 | .s _ _, h => ⟨Nat.le_of_ble_eq_true (by simpa [flat] using h), rfl⟩
 | .c _, h => ⟨rfl, by simpa [flat] using h⟩
 | .ui _ _, _ => rfl
 | .us _, _ => rfl
 | .agg xs, h => by
  have h : flats xs = true ∧ xs.all isCell = true := by simpa [flat] using h
  exact ⟨_, by simp [toVal], flats_rv h.1, h.2⟩
 | .tup xs, h => by
  have h : flats xs = true := by simpa [flat] using h
  exact ⟨_, by simp [toVal], flats_rv h⟩
theorem flats_rv : ∀ {vs : List V}, flats vs = true → Rvs θ vs (toVals vs)
 | [], _ => by simp [toVals, Rvs]
 | v :: vs, h => by
  have h : flat v = true ∧ flats vs = true := by simpa [flats] using h
  exact ⟨_, _, by simp [toVals], flat_rv h.1, flats_rv h.2⟩
end
mutual
theorem flat_eq : ∀ {v : V} {x : Value}, flat v = true → Rv θ v x → x = toVal v
 | .i _ _, _, _, hv => hv.trans (by simp [toVal])
 | .b _, _, _, hv => hv.trans (by simp [toVal])
 | .s _ _, _, _, hv => hv.2.trans (by simp [toVal])
 | .c _, _, _, hv => hv.1.trans (by simp [toVal])
 | .ui _ _, _, _, hv => hv.trans (by simp [toVal])
 | .us _, _, _, hv => hv.trans (by simp [toVal])
 | .agg xs, _, h, ⟨ys, h1, h2, _⟩ => by
  have h : flats xs = true ∧ xs.all isCell = true := by simpa [flat] using h
  rw [h1, flats_eq h.1 h2]; simp [toVal]
 | .tup xs, _, h, ⟨ys, h1, h2⟩ => by
  have h : flats xs = true := by simpa [flat] using h
  rw [h1, flats_eq h h2]; simp [toVal]
 | .no, _, h, _ => by simp [flat] at h
 | .p _ _, _, h, _ => by simp [flat] at h
 | .sl _ _ _ _ _, _, h, _ => by simp [flat] at h
 | .es, _, h, _ => by simp [flat] at h
 | .m _, _, h, _ => by simp [flat] at h
 | .f _ _ _, _, h, _ => by simp [flat] at h
 | .y _ _, _, h, _ => by simp [flat] at h
 | .yl _, _, h, _ => by simp [flat] at h
theorem flats_eq : ∀ {vs : List V} {xs : List Value}, flats vs = true → Rvs θ vs xs → xs = toVals vs
 | [], _, _, hv => by cases hv; simp [toVals]
 | v :: vs, _, h, ⟨y, zs, h1, h2, h3⟩ => by
  have h : flat v = true ∧ flats vs = true := by simpa [flats] using h
  rw [h1, flat_eq h.1 h2, flats_eq h.2 h3]; simp [toVals]
end
structure Ent where
 f : Nat
 vs : List V
 v : V
def EntOk (P : Program) (Gl : List Eng.Pr) (e : Ent) : Prop := hasF P e.f = true ∧ flats e.vs = true ∧ flat e.v = true ∧ Eng.Pure P Gl e.f (toVals e.vs).toArray (toVal e.v)
noncomputable def lookEnt (tab : List Ent) (f : Nat) (vs : List V) (s : St) : R := List.rec nay (fun e _ ih => bif Nat.beq e.f f && vEq.vsEq 200 e.vs vs then .ok e.v s else ih) tab
noncomputable def tabSp (tab : List Ent) (f : Nat) : Option (List V → St → R) := some (lookEnt tab f)
theorem tabSp_ok {Gl : List Eng.Pr} (hG : GOk Gl) {tab : List Ent} (h : ∀ e ∈ tab, EntOk P Gl e) : SpOk P (tabSp tab) := by
 intro f g hg w0 T vs s v s' θ w args hr0 hv hr
 obtain rfl := Option.some.inj hg
 obtain ⟨e, h1, h2, h3⟩ := look_ok (p := fun e : Ent => Nat.beq e.f f && vEq.vsEq 200 e.vs vs) (f := fun e : Ent => R.ok e.v s) hr0 (fun e => by cases e)
 rw [Bool.and_eq_true, Nat.beq_eq] at h2
 obtain ⟨rfl, h2⟩ := h2
 obtain rfl := vsEq_eq 200 h2
 cases h3
 obtain ⟨k1, k2, k3, k4⟩ := h e h1
 obtain rfl := flats_eq k2 hv
 refine .inr (.inr ⟨_, _, w, callFunc_run k1 _ _, ?_⟩)
 have hc := k4 w ⟨[], fun _ => True⟩ (hG.1 w (hr.glob w hr.size hr.frame))
 exact hc.mono fun en w' ⟨he, hS⟩ => ⟨θ, _, he, flat_rv k3, (hr.grow hS.os hS.tape hS.output hS.size fun k hk => hS.frame k hk nofun).post' rfl⟩
def oneSp (j : Nat) (g : List V → St → R) (sp : Nat → Option (List V → St → R)) (f : Nat) : Option (List V → St → R) := bif Nat.beq f j then some g else sp f
theorem oneSp_ok {j : Nat} {g : List V → St → R} {sp : Nat → Option (List V → St → R)} (hg : ∀ w0 T vs s v s' θ w args, g vs s = .ok v s' → Rvs θ vs args → Rel w0 T θ s w → Ends P w0 T θ s v s' ((callFunc j args.toArray).run P w)) (hs : SpOk P sp) : SpOk P (oneSp j g sp) := by
 intro f g' h
 unfold oneSp at h
 cases hj : Nat.beq f j with
 | true =>
  rw [hj] at h
  obtain rfl := Option.some.inj h
  obtain rfl := Nat.eq_of_beq_eq_true hj
  exact hg
 | false => rw [hj] at h; exact hs f g' h
end Ci