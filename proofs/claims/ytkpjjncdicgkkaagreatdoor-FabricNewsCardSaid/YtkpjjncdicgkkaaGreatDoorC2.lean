/- A machine that the kernel runs closed Go programs by, and that what it answers is what the given model does: no conditions but those that each theorem bears. -/
import Derived.Test.YtkpjjncdicgkkaaGreatDoorC1
import Derived.RangeFuncRecord
import Derived.RangeFuncIn
import Derived.RangeFuncSeq
import Derived.RangeFuncLeaves
import Derived.TacticsIn
import Derived.LoopNIn
import Derived.OrdersIn
import Derived.Tactics
import Derived.ControlIn
import Derived.Laws.Sem
import Derived.Test.YtkpjjncdicgkkaaGreatDoorE1
import Derived.Shelf.Strings.OnBuilder

set_option linter.unusedVariables false
set_option linter.unusedSimpArgs false
set_option linter.unusedSectionVars false
namespace Ci
open Go
variable {P : Program} {w0 : World} {T : Nat → Prop} {θ : Th} {s s' : St} {w : World} {e : Env} {ρ : Operand → Value} {F : Fs} {v : V}
variable {dst : Option Tmp} {ty : TypeId} {pos : String} {af : Array Edge} {g : Option (Nat × Bool)}
theorem fI {kt : Nat} {q : nF} (hq : vr P kt q) (em : Bool) (K : Value) (w : World) : (Instr.checkKey em 10000 kt K).run P w = .ok () w := by
 show (Instr.checkKey em (9999 + 1) kt K).run P w = _
 unfold Instr.checkKey
 cases hq with
 | int h => rw [ao (fo h)]; rfl
 | str h => rw [ao (fo h)]; rfl
theorem oN {kt : Nat} {D : TypeDesc} {K : Value} {fs : List MapEntry} {o : Option (Nat × Value)} (hu : P.underlying kt = some D) (h : Instr.findNow D K fs 0 = some o) (w : World) : (Instr.findKey kt K fs).run P w = .ok o w := by
 unfold Instr.findKey
 rw [ao (fo hu), h]; rfl
theorem gN {r : Nat} {fs : Array MapEntry} {c : Nat} (h : w.heap[r]? = some (.map fs c)) : (getObj r).run P w = .ok (.map fs c) w := by
 unfold getObj
 simp only [Sem.run, h]
theorem pL {r : Nat} {fs : Array MapEntry} {c : Nat} {o : Obj} (h : w.heap[r]? = some (.map fs c)) : (setObj r o).run P w = .ok () { w with heap := w.heap.setIfInBounds r o } := by
 unfold setObj
 simp only [Sem.run, h]
theorem DQ {x i : Operand} {t kt et : Nat} {q : nF} {ok : Bool} {inf : TypeInfo} {z : Value} (h : xM q (fh z) (cX x) (cX i) ok F e s = .ok v s') (hx : RX θ e ρ x) (hy : RX θ e ρ i) (hr : Rel w0 T θ s w) (hu : P.underlying t = some (.map kt et)) (hq : vr P kt q) (hi : P.info? et = some inf) (hz : inf.zero = some z) (hth : fh z ≠ .no) :
  Ends P w0 T θ s v s' ((execOp ρ ⟨dst, .lookup t x i ok, ty, pos, af, g⟩).run P w) := by
 unfold xM at h
 obtain ⟨h1, h2, h3⟩ := iW h
 clear h
 have hK := hy _ rfl h1
 have gen : ∀ es (fs : Array MapEntry), (∀ R1, ((do
   Instr.checkKey fs.isEmpty 10000 kt (ρ i)
   match ← Instr.findKey kt (ρ i) fs.toList with
   | some (_, v) => pure (if ok then .tuple #[v, .bool true] else v)
   | none => do
    let v ← zeroValue et
    pure (if ok then .tuple #[v, .bool false] else v) : Sem Value)).run P w = R1 → (Instr.lookup t (ρ x) (ρ i) ok).run P w = R1) → Rm θ es fs.toList → (Option.rec cg (fun o => o4 (Option.rec (bif ok then .ix [fh z, .b false] else fh z) (fun p => bif ok then .ix [p.2, .b true] else p.2) o) s) (qv q (eP (cX i) e) es 0) : R) = .ok v s' → Ends P w0 T θ s v s' ((execOp ρ ⟨dst, .lookup t x i ok, ty, pos, af, g⟩).run P w) := fun es fs hes hm hk => by
  obtain ⟨o, ho, hk⟩ := jr (K := fun (o : Option (Nat × V)) => o4 (Option.rec (bif ok then .ix [fh z, .b false] else fh z) (fun p => bif ok then .ix [p.2, .b true] else p.2) o) s) hk
  obtain ⟨rfl, rfl, hn⟩ := jA hk
  obtain ⟨D, hD, o', ho', hrel⟩ := sI hq hK ho hm
  obtain ⟨X, okb, hX, hvX⟩ : ∃ X okb, ((match o' with
   | some (_, v) => pure (if ok then .tuple #[v, .bool true] else v)
   | none => do
    let v ← zeroValue et
    pure (if ok then .tuple #[v, .bool false] else v) : Sem Value)).run P w = .ok (if ok then .tuple #[X, .bool okb] else X) w ∧ Rv θ (Option.rec (bif ok then .ix [fh z, .b false] else fh z) (fun p => bif ok then .ix [p.2, .b true] else p.2) o) (if ok then .tuple #[X, .bool okb] else X) := by
   cases o with
   | none => cases o' with
    | none =>
     refine ⟨z, false, ?_, ?_⟩
     ·simp only; rw [ao (jN hi hz w)]; rfl
     ·cases ok with
      | true => exact ⟨[z, .bool false], rfl, z, [.bool false], rfl, lU hth, .bool false, [], rfl, rfl, rfl⟩
      | false => exact lU hth
    | some p' => exact hrel.elim
   | some p => cases o' with
    | none => exact hrel.elim
    | some p' =>
     refine ⟨p'.2, true, rfl, ?_⟩
     cases ok with
     | true => exact ⟨[p'.2, .bool true], rfl, p'.2, [.bool true], rfl, hrel.2.1, .bool true, [], rfl, rfl, rfl⟩
     | false => exact hrel.2.1
  refine .val hr hvX ?_
  have h5 : (Instr.lookup t (ρ x) (ρ i) ok).run P w = .ok (if ok then .tuple #[X, .bool okb] else X) w := by
   refine hes _ ?_
   rw [ao (fI hq _ _ w), ao (oN hD ho' w)]
   exact hX
  simp only [execOp]
  rw [ao h5]; rfl
 rcases sb h3 (hx _ rfl fun e0 => by rw [e0] at h3; cases h3) hr with ⟨hX, hk⟩ | ⟨r, pl, es, c, fs, hX, hp, ho, hk, hw, hm⟩
 ·refine gen [] #[] (fun R1 h => ?_) rfl hk
  unfold Instr.lookup
  rw [ao (fo hu), hX]
  simp only
  rw [ao (a := #[]) (w' := w) rfl]
  rw [← h, ao (fI hq _ _ w), ao (fI hq _ _ w), Sem.run_bind, Sem.run_bind]
  congr 1
 ·refine gen es fs (fun R1 h => ?_) hm hk
  unfold Instr.lookup
  rw [ao (fo hu), hX]
  simp only
  rw [ao (gN hw)]
  simp only
  rw [ao (a := fs) (w' := w) rfl]
  rw [← h, ao (fI hq _ _ w), ao (fI hq _ _ w), Sem.run_bind, Sem.run_bind]
  congr 1
theorem Ce {x : Operand} {t kt et : Nat} (h : uI (cX x) F e s = .ok v s') (hx : RX θ e ρ x) (hr : Rel w0 T θ s w) (hu : P.underlying t = some (.map kt et)) : Ends P w0 T θ s v s' ((execOp ρ ⟨dst, .call ⟨.builtin .len, #[x], #[t]⟩, ty, pos, af, g⟩).run P w) := by
 unfold uI at h
 have len : ∀ {es : List (V × V × Nat)} {fs : List MapEntry}, Rm θ es fs → es.length = fs.length := fun {es} => by
  induction es with
  | nil => intro fs h; cases h; rfl
  | cons a es ih => intro fs h; obtain ⟨f, gs, rfl, _, _, _, h⟩ := h; simp [ih h]
 rcases sb h (hx _ rfl fun e0 => by rw [e0] at h; cases h) hr with ⟨hX, hk⟩ | ⟨r, pl, es, c, fs, hX, hp, ho, hk, hw, hm⟩
 ·cases hk
  refine .val (x := .int .i64 0) hr rfl (fk ?_)
  simp [builtin, Builtin.len_, hX, fo hu, iX]
  rfl
 ·cases hk
  refine .val (x := .int .i64 (fs.size : Int)) hr ?_ (fk ?_)
  ·rw [mV, len hm]; simp [Rv]
  ·simp [builtin, Builtin.len_, hX, fo hu, iX, gN hw]
theorem Rm.app {es es' : List (V × V × Nat)} {fs fs' : List MapEntry} (h : Rm θ es fs) (h' : Rm θ es' fs') : Rm θ (es ++ es') (fs ++ fs') := by
 induction es generalizing fs with
 | nil => cases h; exact h'
 | cons a es ih => obtain ⟨f, gs, rfl, a1, a2, a3, a4⟩ := h; exact ⟨f, gs ++ fs', rfl, a1, a2, a3, ih a4⟩
theorem zk {α : Type} (fs : Array α) (a : α) : fs.push a = (fs.toList ++ [a]).toArray := by
 apply Array.ext'
 simp
theorem vm {α : Type} (fs : Array α) (i : Nat) (f : α → α) : fs.modify i f = (fs.toList.modify i f).toArray := by
 apply Array.ext'
 simp
theorem Rm.set {k u : V} {K U : Value} (hk : Rv θ k K) (hu : Rv θ u U) : ∀ {es : List (V × V × Nat)} {fs : List MapEntry} {i : Nat}, Rm θ es fs → i < fs.length → Rm θ (uN i (fun e => (k, u, e.2.2)) es) (fs.modify i fun e => { e with key := K, val := U })
 | [], _, i, h, hi => by cases h; simp at hi
 | a :: es, _, 0, ⟨f, gs, rfl, a1, a2, a3, a4⟩, _ => ⟨_, gs, rfl, hk, hu, a3, a4⟩
 | a :: es, _, i + 1, ⟨f, gs, rfl, a1, a2, a3, a4⟩, hi => ⟨f, _, rfl, a1, a2, a3, Rm.set hk hu a4 (by simpa using hi)⟩
theorem Bj {x i y : Operand} {t kt et : Nat} {q : nF} {op : Op} (h : xL q (cX x) (cX i) (cX y) F e s = .ok v s') (hx : RX θ e ρ x) (hy : RX θ e ρ i) (hz : RX θ e ρ y) (hr : Rel w0 T θ s w) (hu : P.underlying t = some (.map kt et)) (hq : vr P kt q) (hop : execOp ρ ⟨dst, op, ty, pos, af, g⟩ = (do Instr.mapUpdate t (ρ x) (ρ i) (ρ y); pure .skip)) :
  Ends P w0 T θ s v s' ((execOp ρ ⟨dst, op, ty, pos, af, g⟩).run P w) := by
 unfold xL at h
 obtain ⟨h1, _, h2⟩ := iW h
 clear h
 obtain ⟨h3, _, h4⟩ := iW h2
 clear h2
 have hK := hy _ rfl h1
 have hU := hz _ rfl h3
 rcases sb h4 (hx _ rfl fun e0 => by rw [e0] at h4; cases h4) hr with ⟨hX, hk⟩ | ⟨r, pl, es, c, fs, hX, hp, ho, hk, hw, hm⟩
 ·cases hk
 ·obtain ⟨o, hf, hk⟩ := jr (o := qv q (eP (cX i) e) es 0) (K := fun (o : Option (Nat × V)) => R.ok (.ix []) (fx r (Option.rec (.map (j9 es [(eP (cX i) e, eP (cX y) e, c)]) (Nat.succ c)) (fun p => .map (uN p.1 (fun e' => (eP (cX i) e, eP (cX y) e, e'.2.2)) es) c) o) s)) hk
  cases hk
  obtain ⟨D, hD, o', ho', hrel⟩ := sI hq hK hf hm
  have hn : bQ r s ≠ .no := by rw [ho]; exact nofun
  have hlt : pl.b < w.heap.size := (hr.new r pl hn hp).2
  have fin : ∀ o1 ob, Ro θ pl o1 ob → (Instr.mapUpdate t (ρ x) (ρ i) (ρ y)).run P w = .ok () { w with heap := w.heap.setIfInBounds pl.b ob } → Ends P w0 T θ s (.ix []) (fx r o1 s) ((execOp ρ ⟨dst, op, ty, pos, af, g⟩).run P w) := fun o1 ob hro hrun => by
   refine .inr (.inl ⟨θ, { w with heap := w.heap.setIfInBounds pl.b ob }, by rw [hop, ao hrun]; rfl, ⟨[], rfl, rfl⟩, ⟨fun _ _ => rfl, Nat.le_refl _, θ.le_refl, hr.put hn hp hro rfl rfl rfl (by simp) (by simp [hlt]) (fun k hk => ?_)⟩⟩)
   show (w.heap.setIfInBounds pl.b ob)[k]? = _
   rw [Array.getElem?_setIfInBounds_ne (fun e => hk e.symm)]
  have start : ∀ (R1 : Result Unit), ((do
    match o' with
    | some (i', _) => do
     let key ← Instr.keyThatStays (((fs[i']?).map (·.key)).getD (ρ i)) (ρ i)
     setObj pl.b (.map (fs.modify i' fun e => { e with key, val := ρ y }) c)
    | none => setObj pl.b (.map (fs.push { key := ρ i, val := ρ y, born := c }) (c + 1)) : Sem Unit)).run P w = R1 → (Instr.mapUpdate t (ρ x) (ρ i) (ρ y)).run P w = R1 := fun R1 h => by
   unfold Instr.mapUpdate
   rw [ao (fo hu), hX]
   simp only
   rw [ao (gN hw)]
   simp only
   rw [ao (fI hq _ _ w), ao (oN hD ho' w)]
   exact h
  cases o with
  | none => cases o' with
   | none =>
    refine fin _ (.map (fs.push { key := ρ i, val := ρ y, born := c }) (c + 1)) ⟨fs.toList ++ [⟨ρ i, ρ y, c⟩], by rw [zk], ?_⟩ (start _ (pL hw))
    rw [gX]
    exact hm.app ⟨_, [], rfl, hK, hU, rfl, rfl⟩
   | some p' => exact hrel.elim
  | some p => cases o' with
   | none => exact hrel.elim
   | some p' =>
    obtain ⟨a1, a2, a3, f, a4, a5⟩ := hrel
    rw [Nat.sub_zero, a1] at a4
    have hlt' : p'.1 < fs.toList.length := (List.getElem?_eq_some_iff.1 a4).1
    refine fin _ (.map (fs.modify p'.1 fun e => { e with key := ρ i, val := ρ y }) c) ⟨fs.toList.modify p'.1 (fun e => { e with key := ρ i, val := ρ y }), by rw [vm], ?_⟩ (start _ ?_)
    ·rw [← a1] at hlt' ⊢
     exact Rm.set hK hU hm hlt'
    ·have hkey : ((fs[p'.1]?).map (·.key)).getD (ρ i) = f.key := by
      rw [← Array.getElem?_toList, a4]; rfl
     obtain ⟨i', vv⟩ := p'
     simp only at hkey ⊢
     rw [hkey]
     rw [ao (a := ρ i) (w' := w) (by unfold Instr.keyThatStays; rw [if_pos a5]; rfl)]
     exact pL hw
end Ci
namespace Ci
open Go
variable {P : Program} {w0 : World} {T : Nat → Prop} {θ : Th} {s s' : St} {w : World} {e : Env} {ρ : Operand → Value} {F : Fs} {v : V}
variable {dst : Option Tmp} {ty : TypeId} {pos : String} {af : Array Edge} {g : Option (Nat × Bool)}
theorem tV {o : O} {K : Option df → Nat → List Nat → Nat → R} (h : vZ cg o K = .ok v s') : ∃ m since seen last, o = .iter m since seen last ∧ K m since seen last = .ok v s' := by
 unfold vZ at h
 split at h
 ·exact ⟨_, _, _, _, rfl, h⟩
 ·cases h
theorem og {r : Nat} {m : Option Nat} {a b : Nat} {l : Array Nat} (h : w.heap[r]? = some (.mapIter m a l b)) : (getObj r).run P w = .ok (.mapIter m a l b) w := by
 simp [getObj, Sem.run, h]
theorem wJ {r : Nat} {m : Option Nat} {a b : Nat} {l : Array Nat} {o : Obj} (h : w.heap[r]? = some (.mapIter m a l b)) : (setObj r o).run P w = .ok () { w with heap := w.heap.setIfInBounds r o } := by
 simp [setObj, Sem.run, h]
theorem Rel.yO {q : df} {m : Option df} {since last : Nat} {seen : List Nat} (hr : Rel w0 T θ s w) (hq : bQ q s = .iter m since seen last) {pl : Pl} (hp : θ q = some pl) : pl.a = 0 ∧ ((m = none ∧ w.heap[pl.b]? = some (.mapIter none since seen.toArray last)) ∨ ∃ r pl', m = some r ∧ θ r = some pl' ∧ w.heap[pl.b]? = some (.mapIter (some pl'.b) since seen.toArray last)) := by
 obtain ⟨pl', ob, h1, h2, h3⟩ := hr.mem q (by rw [hq]; exact nofun)
 rw [hp] at h1
 obtain rfl := oI h1
 rw [hq] at h3
 obtain ⟨h0, h3⟩ := h3
 refine ⟨h0, ?_⟩
 rcases h3 with ⟨h3, rfl⟩ | ⟨r, pl', h3, h4, rfl⟩
 ·exact .inl ⟨h3, h2⟩
 ·exact .inr ⟨r, pl', h3, h4, h2⟩
theorem Rel.yE {q : df} {es : List (V × V × Nat)} {c : Nat} (hr : Rel w0 T θ s w) (hq : bQ q s = .map es c) {pl : Pl} (hp : θ q = some pl) : ∃ fs, w.heap[pl.b]? = some (.map fs.toArray c) ∧ Rm θ es fs := by
 obtain ⟨pl', ob, h1, h2, h3⟩ := hr.mem q (by rw [hq]; exact nofun)
 rw [hp] at h1
 obtain rfl := oI h1
 rw [hq] at h3
 obtain ⟨fs, rfl, h4⟩ := h3
 exact ⟨fs, h2, h4⟩
theorem DD {x : Operand} {t kt et : Nat} (h : xJ (cX x) F e s = .ok v s') (hx : RX θ e ρ x) (hr : Rel w0 T θ s w) (hu : P.underlying t = some (.map kt et)) : Ends P w0 T θ s v s' ((execOp ρ ⟨dst, .range t x, ty, pos, af, g⟩).run P w) := by
 unfold xJ at h
 split at h
 ·rename_i hex
  have hX : ρ x = .map none := (hx _ hex nofun).1
  unfold fG at h
  cases h
  refine jM.ends (o := .iter none 0 [] 0) (mk := fun q => .p q 0) ⟨.pointer (some ⟨w.heap.size, 0, none⟩), .mapIter none 0 #[] 0, ?_, ⟨rfl, .inl ⟨rfl, by simp⟩⟩, fun θ' q hq => ⟨_, hq, rfl⟩⟩ hr
  simp [execOp, hX, Instr.range, fo hu, newObj]
  rfl
 ·rename_i r hex
  obtain ⟨pl, hp, hX⟩ := hx _ hex nofun
  obtain ⟨es, c, hm, h⟩ := lM h
  obtain ⟨fs, h1, _⟩ := hr.yE hm hp
  unfold fG at h
  cases h
  refine jM.ends (o := .iter (some r) c [] c) (mk := fun q => .p q 0) ⟨.pointer (some ⟨w.heap.size, 0, none⟩), .mapIter (some pl.b) c #[] c, ?_, ⟨rfl, .inr ⟨r, pl, rfl, hp, by simp⟩⟩, fun θ' q hq => ⟨_, hq, rfl⟩⟩ hr
  simp [execOp, hX, Instr.range, fo hu, gN h1, newObj]
  rfl
 ·cases h
theorem vQ (n : Nat) : ∀ xs : List Nat, gD n xs = xs.contains n
 | [] => rfl
 | x :: xs => by
  have e1 : gD n (x :: xs) = bif Nat.beq x n then true else gD n xs := rfl
  rw [e1, vQ n xs, List.contains_cons]
  have : (n == x) = Nat.beq x n := by
   rw [Bool.eq_iff_iff, beq_iff_eq, Nat.beq_eq]; exact eq_comm
  rw [this]
  cases Nat.beq x n <;> rfl
theorem qk {seen : List Nat} : ∀ {es : List (V × V × Nat)} {fs : List MapEntry}, Rm θ es fs → Rm θ (rG seen es) (fs.filter fun f => !seen.contains f.born)
 | [], _, h => by cases h; rfl
 | x :: es, _, ⟨f, gs, h1, h2, h3, h4, h5⟩ => by
  subst h1
  have e1 : rG seen (x :: es) = bif gD x.2.2 seen then rG seen es else x :: rG seen es := rfl
  rw [e1, vQ, List.filter_cons, h4]
  cases hc : seen.contains x.2.2 with
  | true => simpa using qk (seen := seen) h5
  | false => exact ⟨f, _, by simp, h2, h3, h4, qk h5⟩
theorem xj {seen : List Nat} {es : List (V × V × Nat)} {fs : List MapEntry} {last : Nat} (h : sH seen es last = true) (hm : Rm θ es fs) : (!seen.toArray.isEmpty && !fs.toArray.isEmpty && fs.toArray.all fun f => decide (f.born ≥ last)) = false := by
 unfold sH at h
 split at h
 ·simp
 ·cases hm; simp
 ·rename_i f es' hs
  obtain ⟨f', gs, rfl, _, _, h4, _⟩ := hm
  have h := nB h
  rw [← h4] at h
  have : decide (f'.born ≥ last) = false := decide_eq_false (by omega)
  simp [this]
theorem DE {x : Operand} (h : AM (cX x) F e s = .ok v s') (hx : RX θ e ρ x) (hr : Rel w0 T θ s w) : Ends P w0 T θ s v s' ((execOp ρ ⟨dst, .next x false, ty, pos, af, g⟩).run P w) := by
 obtain ⟨q, off, hex, h⟩ := jL h
 obtain ⟨h0, h⟩ := dC h
 obtain rfl := nE h0
 obtain ⟨m, since, seen, last, hq, h⟩ := tV h
 obtain ⟨pl, hp, hX⟩ := hx _ hex nofun
 obtain ⟨ha, hit⟩ := hr.yO hq hp
 rw [ha, Nat.add_zero] at hX
 have key : ∀ (y : Value) (w' : World), (Instr.next (ρ x) false ty).run P w = .ok y w' → (execOp ρ ⟨dst, .next x false, ty, pos, af, g⟩).run P w = .ok (.value y) w' := fun y w' h => by
  simp only [execOp]
  rw [ao h]
  rfl
 rcases hit with ⟨rfl, hit⟩ | ⟨r, pl', rfl, hr', hit⟩
 ·have h : R.ok (.ix [.b false]) s = .ok v s' := h
  cases h
  refine .val (x := .tuple #[.bool false]) hr ⟨[.bool false], rfl, _, _, rfl, rfl, rfl⟩ (key _ _ ?_)
  unfold Instr.next
  rw [hX]
  simp only
  rw [ao (og hit)]
  rfl
 ·obtain ⟨es, c, hm, h⟩ := lM (show tQ cg (bQ r s) (fun es c => bif sH seen es last then BX q r since c seen s (rG seen es) else cg) = .ok v s' from h)
  obtain ⟨hf, h⟩ := dC h
  unfold BX at h
  obtain ⟨fs, hmp, hRm⟩ := hr.yE hm hr'
  have hfr := xj hf hRm
  have hl := qk (seen := seen) hRm
  have hleft : (fs.toArray.filter fun f => !seen.toArray.contains f.born) = (fs.filter fun f => !seen.contains f.born).toArray := by
   rw [List.filter_toArray]
   simp
  have pre : ∀ (y : Value) (w' : World), (do
    let left := (fs.filter fun f => !seen.contains f.born).toArray
    let vM := left.filter (·.born < since)
    let new := left.filter (·.born ≥ since)
    let candidates := (if vM.isEmpty then #[none] else #[]) ++ (vM ++ new).map some
    match candidates[← choose (.mapNext candidates.size)]? with
    | some (some e) =>
     setObj pl.b (.mapIter (some pl'.b) since (seen.toArray.push e.born) c)
     pure (.tuple #[.bool true, e.key, e.val])
    | some none => pure (.tuple #[.bool false])
    | none => stuck "Next: no such candidate" : Sem Value).run P w = .ok y w' → (Instr.next (ρ x) false ty).run P w = .ok y w' := fun y w' hy => by
   unfold Instr.next
   rw [hX]
   simp only
   rw [ao (og hit)]
   simp only
   rw [ao (gN hmp)]
   simp only [hfr, hleft]
   exact hy
  have ch : (choose (.mapNext 1)).run P w = .ok 0 w := by
   rw [run_choose_drew]; rfl
  split at h
  ·rename_i hnil
   cases h
   rw [hnil] at hl
   have hl : (fs.filter fun f => !seen.contains f.born) = [] := hl
   refine .val (x := .tuple #[.bool false]) hr ⟨[.bool false], rfl, _, _, rfl, rfl, rfl⟩ (key _ _ (pre _ _ ?_))
   rw [hl]
   have hold : (Array.filter (fun (x : MapEntry) => decide (x.born < since)) #[]) = #[] := by simp
   have hnew : (Array.filter (fun (x : MapEntry) => decide (x.born ≥ since)) #[]) = #[] := by simp
   simp only [hold, hnew]
   have hcand : ((if (#[] : Array MapEntry).isEmpty = true then #[none] else #[]) ++ Array.map some ((#[] : Array MapEntry) ++ #[]) : Array (Option MapEntry)) = #[none] := by simp
   rw [hcand, ao (show (choose (.mapNext (#[none] : Array (Option MapEntry)).size)).run P w = .ok 0 w from ch)]
   rfl
  ·rename_i f hone
   obtain ⟨hs, h⟩ := dC h
   have hs := nB hs
   cases h
   rw [hone] at hl
   obtain ⟨f', gs, hg, k1, k2, k3, k4⟩ := hl
   have k4 : gs = [] := k4
   subst k4
   have hold : (Array.filter (fun (x : MapEntry) => decide (x.born < since)) #[f']) = #[f'] := by
    have : decide (f'.born < since) = true := decide_eq_true (by omega)
    simp [this]
   have hnew : (Array.filter (fun (x : MapEntry) => decide (x.born ≥ since)) #[f']) = #[] := by
    have : decide (f'.born ≥ since) = false := decide_eq_false (by omega)
    simp [this]
   have hput : Rel w0 T θ (fx q (.iter (some r) since (j9 seen [f.2.2]) c) s) { w with heap := w.heap.setIfInBounds pl.b (.mapIter (some pl'.b) since (seen.toArray.push f'.born) c) } := by
    have hlt := (Array.getElem?_eq_some_iff.1 hit).1
    refine hr.put (ob := .mapIter (some pl'.b) since (seen.toArray.push f'.born) c) (by rw [hq]; exact nofun) hp ⟨ha, .inr ⟨r, pl', rfl, hr', ?_⟩⟩ rfl rfl rfl (by simp) ?_ fun k hk => ?_
    ·rw [gX, k3]; simp
    ·show (w.heap.setIfInBounds pl.b _)[pl.b]? = _
     rw [Array.getElem?_setIfInBounds_self_of_lt hlt]
    ·show (w.heap.setIfInBounds pl.b _)[k]? = _
     rw [Array.getElem?_setIfInBounds_ne fun e => hk e.symm]
   refine .inl ⟨θ, .tuple #[.bool true, f'.key, f'.val], _, key _ _ (pre _ _ ?_), ⟨[_, _, _], rfl, _, _, rfl, rfl, _, _, rfl, k1, _, _, rfl, k2, rfl⟩, ⟨fun _ _ => rfl, Nat.le_refl _, θ.le_refl, hput⟩⟩
   rw [hg]
   simp only [hold, hnew]
   have hcand : ((if (#[f'] : Array MapEntry).isEmpty = true then #[none] else #[]) ++ Array.map some (#[f'] ++ #[]) : Array (Option MapEntry)) = #[some f'] := by simp
   rw [hcand, ao (show (choose (.mapNext (#[some f'] : Array (Option MapEntry)).size)).run P w = .ok 0 w from ch)]
   simp only [show (#[some f'] : Array (Option MapEntry))[0]? = some (some f') from rfl]
   rw [ao (wJ hit)]
   rfl
  ·cases h
theorem DX {x : Operand} (h : AY (cX x) F e s = .ok v s') (hx : RX θ e ρ x) (hr : Rel w0 T θ s w) : Ends P w0 T θ s v s' ((execOp ρ ⟨dst, .entry x, ty, pos, af, g⟩).run P w) := by
 obtain ⟨q, off, hex, h⟩ := jL h
 obtain ⟨h0, h⟩ := dC h
 obtain rfl := nE h0
 obtain ⟨m, since, seen, last, hq, h⟩ := tV h
 obtain ⟨pl, hp, hX⟩ := hx _ hex nofun
 obtain ⟨ha, hit⟩ := hr.yO hq hp
 rw [ha, Nat.add_zero] at hX
 rcases hit with ⟨rfl, hit⟩ | ⟨r, pl', rfl, hr', hit⟩
 ·cases h
 ·obtain ⟨es, c, hm, h⟩ := lM (show tQ cg (bQ r s) (fun es c => bif Nat.beq c last then B9 s seen es else cg) = .ok v s' from h)
  obtain ⟨hf, hfin⟩ := dC h
  clear h
  unfold B9 at hfin
  obtain rfl := nE hf
  obtain ⟨fs, hmp, hRm⟩ := hr.yE hm hr'
  split at hfin
  ·rename_i n f
   obtain ⟨hs, h⟩ := dC hfin
   have hs := nE hs
   cases h
   obtain ⟨f', gs, rfl, k1, k2, k3, k4⟩ := hRm
   cases k4
   refine .val (x := .tuple #[f'.key, f'.val]) hr ⟨[_, _], rfl, _, _, rfl, k1, _, _, rfl, k2, rfl⟩ ?_
   have h5 : (Instr.entry (ρ x)).run P w = .ok (.tuple #[f'.key, f'.val]) w := by
    unfold Instr.entry
    rw [hX]
    simp only
    rw [ao (og hit)]
    simp only [show ([n] : List Nat).toArray = #[n] from rfl]
    rw [show (#[n] : Array Nat).back? = some n from rfl]
    simp only
    rw [ao (gN hmp)]
    have : (f'.born == n) = true := by rw [k3, hs]; simp
    simp [this]
   simp only [execOp]
   rw [ao h5]
   rfl
  ·cases hfin
end Ci
namespace Ci
open Go
variable {P : Program} {w0 : World} {T : Nat → Prop} {θ : Th} {s s' : St} {w : World} {e : Env} {ρ : Operand → Value} {F : Fs} {v : V}
variable {dst : Option Tmp} {ty : TypeId} {pos : String} {af : Array Edge} {g : Option (Nat × Bool)}
def ph (P : Program) (F : Fs) : Prop := ∀ w0 T f vs s v s' θ w args, F f vs s = .ok v s' → fy θ vs args → Rel w0 T θ s w → Ends P w0 T θ s v s' ((callFunc f args.toArray).run P w)
theorem Cp {f : Nat} {args : Array Operand} {tys : Array TypeId} (hF : ph P F) (h : xV f (zw args) F e s = .ok v s') (hf : RX θ e ρ (.func f)) (hx : ∀ x ∈ args.toList, RX θ e ρ x) (hr : Rel w0 T θ s w) : Ends P w0 T θ s v s' ((execOp ρ ⟨dst, .call ⟨.value (.func f), args, tys⟩, ty, pos, af, g⟩).run P w) := by
 obtain ⟨vs, h1, h2⟩ := lR h hx
 obtain ⟨ys, zs, e1, e2, e3⟩ := hf _ rfl nofun
 cases e2; cases e3
 have := hF w0 T f vs s v s' θ w _ h1 h2 hr
 have e4 : (execOp ρ ⟨dst, .call ⟨.value (.func f), args, tys⟩, ty, pos, af, g⟩).run P w = (callFunc f (args.toList.map ρ).toArray).run P w := by
  simp only [execOp, resolve, e1, Deferred.ofValue, Sem.run_bind, Sem.run_pure, Result.andThen_ok, invoke]
  congr 2
  apply Array.ext'
  simp
 rw [e4]
 exact this
theorem sL {x : Operand} {args : Array Operand} {tys : Array TypeId} (hF : ph P F) (h : pn (cX x) (zw args) F e s = .ok v s') (hf : RX θ e ρ x) (hx : ∀ x ∈ args.toList, RX θ e ρ x) (hr : Rel w0 T θ s w) : Ends P w0 T θ s v s' ((execOp ρ ⟨dst, .call ⟨.value x, args, tys⟩, ty, pos, af, g⟩).run P w) := by
 unfold pn at h
 split at h
 ·rename_i f xs1 bs hex
  obtain ⟨vs, h1, h2⟩ := lR h hx
  rw [gX, gX] at h1
  obtain ⟨ys, zs, e1, e2, e3⟩ := hf _ hex nofun
  have := hF w0 T f _ s v s' θ w _ h1 (e2.app (h2.app e3)) hr
  have e4 : (execOp ρ ⟨dst, .call ⟨.value x, args, tys⟩, ty, pos, af, g⟩).run P w = (callFunc f (ys ++ (args.toList.map ρ ++ zs)).toArray).run P w := by
   simp only [execOp, resolve, e1, Deferred.ofValue, Sem.run_bind, Sem.run_pure, Result.andThen_ok, invoke]
   congr 2
   apply Array.ext'
   simp
  rw [e4]
  exact this
 ·cases h
theorem bO {r : Prop} (h : eO .no F e s = .ok v s') : r := by cases h
theorem gE {c : CO} (h : eO c F e s = .ok v s') : c ≠ .no := fun e0 => by subst e0; exact bO h
theorem zU {t : Nat} (h : fN P t = true ∨ jf P t = true) : ∃ d, P.underlying t = some d := by
 cases hu : P.underlying t with
 | none => rcases h with h | h <;> simp [fN, jf, hu] at h
 | some d => exact ⟨d, rfl⟩
theorem xl {b : Builtin} {args : Array Operand} {tys : Array TypeId} (h : eO (jc P b args.toList tys.toList) F e s = .ok v s') (hx : ∀ x ∈ args.toList, RX θ e ρ x) (hr : Rel w0 T θ s w) : Ends P w0 T θ s v s' ((execOp ρ ⟨dst, .call ⟨.builtin b, args, tys⟩, ty, pos, af, g⟩).run P w) := by
 unfold jc at h
 split at h
 ·rename_i x t ha ht
  obtain rfl : args = #[x] := by rw [← Array.toArray_toList (xs := args), ha]
  obtain rfl : tys = #[t] := by rw [← Array.toArray_toList (xs := tys), ht]
  have hx := hx x (by simp)
  unfold Ar at h
  split at h
  ·rename_i hu; exact Cd (F := F) h hx hr hu
  ·rename_i el hu; exact Cf (F := F) h hx hr hu
  ·rename_i kt et hu; exact Ce (F := F) h hx hr hu
  ·rename_i n el hu
   cases h
   refine .val (x := .int .i64 (n : Int)) hr rfl (fk ?_)
   simp [builtin, Builtin.len_, fo hu, iX]
  ·rename_i el hu
   split at h
   ·rename_i n el' hu'
    cases h
    refine .val (x := .int .i64 (n : Int)) hr rfl (fk ?_)
    simp [builtin, Builtin.len_, fo hu, fo hu', iX]
   ·exact bO h
  ·exact bO h
 ·rename_i x t ha ht
  obtain rfl : args = #[x] := by rw [← Array.toArray_toList (xs := args), ha]
  obtain rfl : tys = #[t] := by rw [← Array.toArray_toList (xs := tys), ht]
  split at h
  ·rename_i el hu; exact Co (F := F) h (hx x (by simp)) hr hu
  ·exact bO h
 ·rename_i x y t t' ha ht
  obtain rfl : args = #[x, y] := by rw [← Array.toArray_toList (xs := args), ha]
  obtain rfl : tys = #[t, t'] := by rw [← Array.toArray_toList (xs := tys), ht]
  unfold Au at h
  split at h
  ·rename_i el hu
   cases hb : Ax P t' with
   | false => rw [hb] at h; exact bO h
   | true =>
    rw [hb] at h
    simp only [cdT] at h
    have hu' : (∃ e, P.underlying t' = some (.slice e)) ∨ P.underlying t' = some .string := by
     unfold Ax at hb
     split at hb
     ·rename_i e' h'; exact .inl ⟨e', h'⟩
     ·rename_i h'; exact .inr h'
     ·cases hb
    unfold pK at h
    split at h
    ·rename_i inf hi
     cases hs : Nat.ble inf.bytes 0x10000 with
     | false => rw [hs] at h; exact bO h
     | true =>
      rw [hs] at h
      simp only [cdT] at h
      obtain ⟨inf', z, hi', hz, hl, hc, hk⟩ := kV (P := P) rfl (gE h)
      rw [hi] at hi'
      obtain rfl := oI hi'
      rw [← hk] at h
      exact D6 (F := F) h (hx x (by simp)) (hx y (by simp)) hr hu hu' hi hz (nB hs) hl
    ·exact bO h
  ·exact bO h
 ·rename_i x y t r ha ht
  obtain rfl : args = #[x, y] := by rw [← Array.toArray_toList (xs := args), ha]
  obtain rfl : tys = (t :: r).toArray := by rw [← Array.toArray_toList (xs := tys), ht]
  split at h
  ·rename_i el hu
   obtain ⟨inf, hi, hk⟩ := kZ (P := P) rfl (gE h)
   rw [← hk] at h
   exact D0 (F := F) (t' := 0) h (hx x (by simp)) (hx y (by simp)) hr hu hi
  ·exact bO h
 ·rename_i x t ha ht
  obtain rfl : args = #[x] := by rw [← Array.toArray_toList (xs := args), ha]
  obtain rfl : tys = #[t] := by rw [← Array.toArray_toList (xs := tys), ht]
  split at h
  ·rename_i el hu
   obtain ⟨inf, z, hi, hz, hl, hc, hk⟩ := kV (P := P) rfl (gE h)
   rw [← hk] at h
   exact Cn (F := F) h (hx x (by simp)) hr hu hi hz hc
  ·exact bO h
 ·rename_i x y ha
  obtain rfl : args = #[x, y] := by rw [← Array.toArray_toList (xs := args), ha]
  exact DO (F := F) h (hx x (by simp)) (hx y (by simp)) hr
 ·rename_i x y ha
  obtain rfl : args = #[x, y] := by rw [← Array.toArray_toList (xs := args), ha]
  exact DP (F := F) h (hx x (by simp)) (hx y (by simp)) hr
 ·exact bO h
theorem Al {op : Op} (hF : ph P F) (h : eO (ft P op) F e s = .ok v s') (hx : ∀ x ∈ op.operands, RX θ e ρ x) (hr : Rel w0 T θ s w) : Ends P w0 T θ s v s' ((execOp ρ ⟨dst, op, ty, pos, af, g⟩).run P w) := by
 have hno := gE h
 cases op with
 | move x => exact DJ (F := F) h (hx x (by simp [Op.operands])) hr _ rfl
 | assign x => exact DJ (F := F) h (hx x (by simp [Op.operands])) hr _ rfl
 | pick c x y => exact Cb (F := F) h (hx c (by simp [Op.operands])) (hx x (by simp [Op.operands])) (hx y (by simp [Op.operands])) hr
 | alloc t =>
  obtain ⟨inf, z, hi, hz, hl, hc, hk⟩ := kV (P := P) (show vu P t .new = ft P (.alloc t) from rfl) hno
  rw [← hk] at h
  exact DH (F := F) (e := e) h hr hi hz hc
 | box t x => exact D2 (F := F) h (hx x (by simp [Op.operands])) hr
 | build t ps =>
  simp only [ft, qE] at h
  split at h
  ·rename_i pl z hpl
   split at h
   ·rename_i l hl
    cases hb : sY (z.map dQ) with
    | false => rw [hb] at h; exact bO h
    | true =>
     rw [hb] at h
     exact D3 (F := F) h hpl hl (uu hb) (fun p hp => hx p.2 (by simp only [Op.operands, List.mem_toArray, List.mem_map]; exact ⟨p, hp, rfl⟩)) hr
   ·exact bO h
  ·exact bO h
 | buildSlice t n ps =>
  simp only [ft] at h
  split at h
  ·rename_i el hu
   obtain ⟨inf, z, hi, hz, hl, hc, hk⟩ := kV (P := P) rfl (gE h)
   rw [← hk] at h
   split at h
   ·rename_i l hp
    cases hb : Nat.ble (n * (z.cells.toList.map dQ).length) 0x1000000 with
    | false => rw [hb] at h; exact bO h
    | true =>
     rw [hb] at h
     exact D1 (F := F) h hu hi hz hl hc hp (nB hb) (fun p hp => hx p.2 (by simp only [Op.operands, List.mem_toArray, List.mem_map]; exact ⟨p, hp, rfl⟩)) hr
   ·exact bO h
  ·exact bO h
 | load t x =>
  simp only [ft] at h
  cases ho : fN P t with
  | true => rw [ho] at h; exact DT (F := F) h (hx x (by simp [Op.operands])) hr ho
  | false =>
   rw [ho] at h
   cases ha : jf P t with
   | false => rw [ha] at h; exact bO h
   | true =>
    rw [ha] at h
    simp only [cdF, cdT] at h
    obtain ⟨inf, hi, hk⟩ := kZ (P := P) rfl (gE h)
    rw [← hk] at h
    exact DR (F := F) h (hx x (by simp [Op.operands])) hr ha hi rfl
 | store t x y =>
  obtain ⟨inf, hi, hk⟩ := kZ (P := P) (show uy P t (fun n => .st (cX x) n (cX y)) = ft P (.store t x y) from rfl) hno
  rw [← hk] at h
  exact E9 (F := F) h (hx x (by simp [Op.operands])) (hx y (by simp [Op.operands])) hr hi rfl
 | nilCheck x => exact Cc (F := F) h (hx x (by simp [Op.operands])) hr
 | binOp op t x y t' => exact D4 (F := F) h (hx x (by simp [Op.operands])) (hx y (by simp [Op.operands])) hr
 | unOp op t x =>
  cases op with
  | not => exact DF (F := F) h (hx x (by simp [Op.operands])) hr
  | neg => exact DI (F := F) h (hx x (by simp [Op.operands])) hr
  | xor => exact DU (F := F) h (hx x (by simp [Op.operands])) hr
  | plus => exact bO h
 | convert t d x =>
  simp only [ft] at h
  split at h
  ·rename_i k0 k ht hd; exact DZ (F := F) h (hx x (by simp [Op.operands])) hr ht hd
  ·rename_i ht hd; exact DY (F := F) h (hx x (by simp [Op.operands])) hr ht hd
  ·rename_i el ht hd
   split at h
   ·rename_i hel; exact D5 (F := F) h (hx x (by simp [Op.operands])) hr ht hel hd
   ·exact bO h
  ·exact bO h
 | makeInterface t x =>
  simp only [ft] at h
  split at h
  ·exact bO h
  ·rename_i d hd ht
   exact DM (F := F) h (hx x (by simp [Op.operands])) hr ht (fun ms e0 => hd ms (by rw [← e0]))
  ·exact bO h
 | makeFunc fn a b => exact DN (F := F) h (fun x hxa => hx x (by simp only [Op.operands, Array.mem_append]; exact .inl (by simpa using hxa))) (fun x hxa => hx x (by simp only [Op.operands, Array.mem_append]; exact .inr (by simpa using hxa))) hr
 | makeMap t r =>
  cases r with
  | none => exact DL (F := F) (e := e) h hr
  | some r => exact bO h
 | makeSlice t l c =>
  simp only [ft] at h
  split at h
  ·rename_i el hu
   split at h
   ·rename_i inf hi
    obtain ⟨inf', z, hi', hz, hl, hc, hk⟩ := kV (P := P) rfl (gE h)
    rw [hi] at hi'
    obtain rfl := oI hi'
    rw [← hk] at h
    exact DK (F := F) h (hx l (by simp [Op.operands])) (hx c (by simp [Op.operands])) hr hu hi hz hl hc
   ·exact bO h
  ·exact bO h
 | slice t x lo hi mx =>
  simp only [ft, qD] at h
  have hx0 := hx x (by simp [Op.operands])
  have hlo : ∀ y, lo = some y → RX θ e ρ y := fun y hy => hx y (by subst hy; simp [Op.operands])
  have hhi : ∀ y, hi = some y → RX θ e ρ y := fun y hy => hx y (by subst hy; simp [Op.operands])
  have hmx : ∀ y, mx = some y → RX θ e ρ y := fun y hy => hx y (by subst hy; simp [Op.operands])
  split at h
  ·rename_i hu
   split at h
   ·exact DA (F := F) h hx0 hlo hhi hr hu
   ·exact bO h
  ·rename_i el hu
   obtain ⟨inf, hi', hk⟩ := kZ (P := P) rfl (gE h)
   rw [← hk] at h
   split at h
   ·exact DC (F := F) h hx0 hlo hhi hr hu hi' rfl
   ·exact DB (F := F) h hx0 hlo (hhi _ rfl) (hmx _ rfl) hr hu hi' rfl
   ·exact bO h
  ·exact bO h
 | fieldAddr t x i =>
  obtain ⟨fs, f, n, hu, hf, ⟨inf, hi, hs⟩, hn, hk⟩ := rL (P := P) (show gx P t i (fun f _ => .EE (cX x) f.offset) = ft P (.fieldAddr t x i) from rfl) hno
  rw [← hk] at h
  exact DV (F := F) (n := 0) h (hx x (by simp [Op.operands])) hr hu hf hi (by omega)
 | field t x i =>
  obtain ⟨fs, f, n, hu, hf, ⟨inf, hi, hs⟩, hn, hk⟩ := rL (P := P) (show gx P t i (fun f n => bif fN P f.type then .Af (cX x) f.offset else bif jf P f.type then .Ae (cX x) f.offset n else .no) = ft P (.field t x i) from rfl) hno
  rw [← hk] at h
  cases ho : fN P f.type with
  | true => rw [ho] at h; exact Cm (F := F) h (hx x (by simp [Op.operands])) hr hu hf ho
  | false =>
   rw [ho] at h
   cases ha : jf P f.type with
   | false => rw [ha] at h; exact bO h
   | true => rw [ha] at h; exact Cl (F := F) h (hx x (by simp [Op.operands])) hr hu hf ha hi hs
 | indexAddr t x i =>
  simp only [ft] at h
  split at h
  ·rename_i el hu
   obtain ⟨inf, hi, hk⟩ := kZ (P := P) rfl (gE h)
   rw [← hk] at h
   exact Cj (F := F) h (hx x (by simp [Op.operands])) (hx i (by simp [Op.operands])) hr hu hi rfl
  ·rename_i len el hu
   obtain ⟨inf, hi, hk⟩ := kZ (P := P) rfl (gE h)
   rw [← hk] at h
   exact Ck (F := F) h (hx x (by simp [Op.operands])) (hx i (by simp [Op.operands])) hr hu hi rfl
  ·exact bO h
 | index t x i =>
  simp only [ft] at h
  split at h
  ·rename_i hu; exact Cg (F := F) h (hx x (by simp [Op.operands])) (hx i (by simp [Op.operands])) hr hu
  ·rename_i len el hu
   obtain ⟨inf, hi, hk⟩ := kZ (P := P) rfl (gE h)
   rw [← hk] at h
   cases hb : (fN P el || jf P el) with
   | false => rw [hb] at h; exact bO h
   | true =>
    rw [hb] at h
    rw [Bool.or_eq_true] at hb
    exact Ch (F := F) h (hx x (by simp [Op.operands])) (hx i (by simp [Op.operands])) hr hu hi (zU hb)
  ·exact bO h
 | lookup t x i ok =>
  obtain ⟨kt, et, q, hu, hq, hk, he⟩ := sy (P := P) (show mz P t (fun q => AH P (rO P t) fun z => .EC q z (cX x) (cX i) ok) = ft P (.lookup t x i ok) from rfl) hno
  rw [← hk, he] at h
  unfold AH at h
  split at h
  ·rename_i inf hi
   split at h
   ·rename_i z hz
    cases hb : sD (fh z) with
    | false => rw [hb] at h; exact bO h
    | true =>
     rw [hb] at h
     exact DQ (F := F) h (hx x (by simp [Op.operands])) (hx i (by simp [Op.operands])) hr hu hq hi hz (fun e0 => by rw [e0] at hb; cases hb)
   ·exact bO h
  ·exact bO h
 | mapUpdate t m k x =>
  obtain ⟨kt, et, q, hu, hq, hk, he⟩ := sy (P := P) (show mz P t (fun q => .CT q (cX m) (cX k) (cX x)) = ft P (.mapUpdate t m k x) from rfl) hno
  rw [← hk] at h
  exact Bj (F := F) h (hx m (by simp [Op.operands])) (hx k (by simp [Op.operands])) (hx x (by simp [Op.operands])) hr hu hq rfl
 | insert t m k x =>
  obtain ⟨kt, et, q, hu, hq, hk, he⟩ := sy (P := P) (show mz P t (fun q => .CT q (cX m) (cX k) (cX x)) = ft P (.insert t m k x) from rfl) hno
  rw [← hk] at h
  exact Bj (F := F) h (hx m (by simp [Op.operands])) (hx k (by simp [Op.operands])) (hx x (by simp [Op.operands])) hr hu hq rfl
 | extract x i => exact DW (F := F) h (hx x (by simp [Op.operands])) hr
 | call c =>
  obtain ⟨callee, args, tys⟩ := c
  cases callee with
  | value f =>
   have hargs : ∀ x ∈ args.toList, RX θ e ρ x := fun x hxa => hx x (by simp only [Op.operands, Call.operands, Array.mem_append]; exact .inr (by simpa using hxa))
   have hfx : RX θ e ρ f := hx f (by simp [Op.operands, Call.operands])
   cases f with
   | func f => exact Cp hF h hfx hargs hr
   | tmp t => exact sL hF h hfx hargs hr
   | const k => exact sL hF h hfx hargs hr
   | global k => exact sL hF h hfx hargs hr
  | invoke r m => exact bO h
  | builtin b => exact xl (F := F) h (fun x hxa => hx x (by simp only [Op.operands, Call.operands, Array.mem_append]; exact .inr (by simpa using hxa))) hr
 | range t x =>
  simp only [ft] at h
  split at h
  ·rename_i kt et hu; exact DD (F := F) h (hx x (by simp [Op.operands])) hr hu
  ·exact bO h
 | next x str =>
  cases str with
  | true => exact bO h
  | false => exact DE (F := F) h (hx x (by simp [Op.operands])) hr
 | entry x => exact DX (F := F) h (hx x (by simp [Op.operands])) hr
 | _ => exact bO h
end Ci
namespace Ci
open Go
variable {P : Program} {w0 : World} {T : Nat → Prop} {θ : Th} {s s' : St} {w : World} {e e' : Env} {F : Fs} {v : V} {N : Nat} {a : Act} {Q : Exit → Act → World → Prop}
theorem mO {t d : Nat} (ht : t < 2 ^ 20) (hd : d < 2 ^ 20) (h : slot t = slot d) : t = d := rW ht hd h
theorem Ev.rx (h : Ev N θ e a) (x : Operand) : RX θ e a.eval x := fun v hv hn => by
 cases x with
 | tmp t =>
  simp only [cX] at hv
  cases hb : Nat.blt t 0x100000 with
  | false => rw [hb] at hv; exact absurd hv.symm hn
  | true =>
   rw [hb] at hv
   have hb := nB hb
   obtain ⟨x, h1, h2⟩ := h.has t v (by omega) hv hn
   show Rv θ v (a.tmps.getD t undef)
   rw [Array.getD_eq_getD_getElem?, h1]
   exact h2
 | const c =>
  have hv : fh c = v := hv
  subst hv
  exact lU hn
 | global g => exact absurd hv.symm hn
 | func f =>
  have hv : V.f (.func f) [] [] = v := hv
  subst hv
  exact ⟨[], [], rfl, rfl, rfl⟩
theorem yQ {d : Option Nat} {db : Option df} (hd : ma N d = some db) : Tr.get V.no rE (jk db v e) = Tr.get V.no rE e := by
 cases d with
 | none => obtain rfl := oI hd; rfl
 | some d =>
  simp only [ma] at hd
  cases hb : Nat.blt d N with
  | false => rw [hb] at hd; cases hd
  | true =>
   rw [hb] at hd
   obtain rfl := oI hd
   exact dw (slot d) rE e (po d)
theorem zr.put {d : Option Nat} {db : Option df} {ds : List Deferred} (h : zr θ e ds) (hd : ma N d = some db) : zr θ (jk db v e) ds := by
 unfold zr
 rw [yQ hd]
 exact h
theorem Ev.put {d : Option Nat} {db : Option df} {x : Value} (h : Ev N θ e a) (hN : N ≤ 2 ^ 20) (hd : ma N d = some db) (hv : Rv θ v x) : Ev N θ (jk db v e) (a.put d x) := by
 cases d with
 | none =>
  obtain rfl := oI hd
  exact h
 | some d =>
  simp only [ma] at hd
  cases hb : Nat.blt d N with
  | false => rw [hb] at hd; cases hd
  | true =>
   rw [hb] at hd
   obtain rfl := oI hd
   have hb : d < N := nB hb
   refine ⟨by simp [Act.put, h.size], h.defers.put (d := some d) (N := N) (by simp only [ma, Nat.blt]; rw [Nat.ble_eq_true_of_le (show d + 1 ≤ N from hb)]; rfl), fun t u ht hu hn => ?_⟩
   by_cases e0 : t = d
   ·subst e0
    have : Tr.get V.no (slot t) (Tr.set V.no (slot t) v e) = u := hu
    rw [dv] at this
    subst this
    exact ⟨x, by simp [Act.put, h.size, hb], hv⟩
   ·have : Tr.get V.no (slot t) (Tr.set V.no (slot d) v e) = u := hu
    rw [dw (slot d) (slot t) e (fun e1 => e0 (mO ht (by omega) e1.symm))] at this
    obtain ⟨y, h1, h2⟩ := h.has t u ht this hn
    exact ⟨y, by simp only [Act.put]; rw [Array.getElem?_setIfInBounds_ne (fun e1 => e0 e1.symm)]; exact h1, h2⟩
theorem xh {ops : Array Oper} {g : Option (Nat × Bool)} {gb : Option (df × Bool)} {b : Bool} {o : Oper} (h : Ev N θ e a) (hN : N ≤ 2 ^ 20) (ho : o.guard = g) (hg : lC N ops g = some gb) (hb : iA gb e = some b) : Region.wanted o (yielded ops a.tmps) = b := by
 unfold Region.wanted
 rw [ho]
 cases g with
 | none =>
  obtain rfl := oI hg
  exact (oI hb)
 | some p =>
  obtain ⟨j, want⟩ := p
  simp only [lC] at hg
  split at hg
  ·rename_i d hd
   cases hlt : Nat.blt d N with
   | false => rw [hlt] at hg; cases hg
   | true =>
    rw [hlt] at hg
    have hlt : d < N := nB hlt
    obtain rfl := oI hg
    have hb : (match Tr.get V.no (slot d) e with
     | .b x => some (bif want then x else !x)
     | .ix _ => some false
     | _ => none) = some b := hb
    have hy : yielded ops a.tmps j = (match a.tmps[d]? with
     | some (.bool b) => some b
     | _ => none) := by
     unfold yielded
     rw [show ((ops[j]?).bind (·.dst)) = some d from hd]
     rfl
    show (yielded ops a.tmps j == some want) = b
    rw [hy]
    split at hb
    ·rename_i x hx
     obtain ⟨y, h1, h2⟩ := h.has d _ (by omega) hx nofun
     have h2 : y = .bool x := h2
     subst h2
     rw [h1]
     obtain rfl := oI hb
     cases want <;> cases x <;> rfl
    ·rename_i xs hx
     obtain ⟨y, h1, ys, h2, _⟩ := h.has d _ (by omega) hx nofun
     subst h2
     rw [h1]
     obtain rfl := oI hb
     rfl
    ·cases hb
  ·cases hg
theorem tf : Rv θ (.ix []) undef := ⟨[], rfl, rfl⟩
def u5 : Ex → Exit
 | .nx => .normal
 | .ex id => .exit id
 | .rt => .ret
def Fn : Option Nat → Fence
 | none => Fence.wide
 | some l => Fence.wide.inRound l
theorem Fn.fn {ro : Option Nat} {f : FuncId} : (Fn ro).fn f := by cases ro <;> trivial
theorem Fn.calls {ro : Option Nat} {f : FuncId} {args : Array Value} {R : Ending → World → Prop} (h : Calls P f args w R) : CallsIn (Fn ro) 0 P f args w R := by
 cases ro with
 | none => exact callsIn_wide.2 h
 | some l => exact CallsIn.inRound l (callsIn_wide.2 h)
theorem Fn.depth {ro : Option Nat} {p : Prop} : (Fn ro).depth.isSome = true → p := by cases ro <;> exact fun h => by cases h
theorem pk {ro : Option Nat} {o : Oper} {next : Act → World → Prop} (hnd : ∀ c, o.op ≠ .defer c) (h : Ends P w0 T θ s v s' ((execOp a.eval o).run P w)) (hk : ∀ θ' x w', Rv θ' v x → fK w0 T θ s θ' s' w' → next (a.put o.dst x) w') : o.wpIn (Fn ro) 0 P a w next Q := by
 refine ⟨fun f _ => Fn.fn, ?_⟩
 rw [Oper.semAt_eq _ _ _ hnd]
 rcases h with ⟨θ', y, w', hrun, hv, hp⟩ | ⟨θ', w', hrun, hv, hp⟩ | ⟨f, args, w1, hrun, hc⟩
 ·rw [hrun]; exact hk _ _ _ hv hp
 ·rw [hrun]; exact hk _ _ _ hv hp
 ·rw [hrun, Oper.uponIn_enter]
  refine ⟨Fn.depth, Fn.calls (Calls.mono hc fun en w' hx => ?_)⟩
  obtain ⟨θ', y, rfl, hv, hp⟩ := hx
  exact hk _ _ _ hv hp
theorem lq {op : Op} (h : ft P op ≠ .no) : ∀ c, op ≠ .defer c := fun c e => by subst e; exact h rfl
def CV (P : Program) (y : YS) : Prop := (∀ A N e s x e' s', y.run A N e s = .ok x e' s' → ∀ l w0 T θ a w Q, Ev N θ e a → Rel w0 T θ s w → (∀ θ1 a1 w1, Ev N θ1 e' a1 → fK w0 T θ s θ1 s' w1 → Q (u5 x) a1 w1) → A.wpIn (Fence.wide.inRound l) 0 P Q a w) ∧
 ∀ f, y.has f = true → ∀ args w, (callFunc f args).run P w = .ok (.enter f args) w
theorem qh {o : O} {K : Code → Code → Nat → Nat → Env → Nat → R} (h : kL cg o K = .ok v s') : ∃ A B p N e st, o = .loop A B p N e st ∧ K A B p N e st = .ok v s' := by
 unfold kL at h
 split at h
 ·exact ⟨_, _, _, _, _, _, rfl, h⟩
 ·cases h
theorem yp {r : RC} {K : Ex → Env → St → R} (h : (RC.rec .no K r : R) = .ok v s') : ∃ y e1 s1, r = .ok y e1 s1 ∧ K y e1 s1 = .ok v s' := by
 cases r with
 | no w => cases h
 | ok y e1 s1 => exact ⟨y, e1, s1, rfl, h⟩
theorem Rel.sx {q : df} {A B : Code} {p M st : Nat} {e : Env} (hr : Rel w0 T θ s w) (hq : bQ q s = .loop A B p M e st) {pl : Pl} (hp : θ q = some pl) : ∃ rec : Loop, w.heap[pl.b]? = some (.loop rec) ∧ rec.assign = A ∧ rec.body = B ∧ rec.params = #[p] ∧ p < M ∧ M ≤ 2 ^ 20 ∧ Tr.get V.no rE e = .no ∧ rec.tmps.size = M ∧ (∀ t v, t < 2 ^ 20 → Tr.get V.no (slot t) e = v → v ≠ .no → ∃ x, rec.tmps[t]? = some x ∧ Rv θ v x) ∧ zp st rec.state rec.pending := by
 obtain ⟨pl', ob, h1, h2, h3⟩ := hr.mem q (by rw [hq]; exact nofun)
 rw [hp] at h1
 obtain rfl := oI h1
 rw [hq] at h3
 obtain ⟨rec, rfl, h4⟩ := h3
 exact ⟨rec, h2, h4⟩
theorem Rel.putObj {q : df} {pl : Pl} {o : O} {ob : Obj} (h : Rel w0 T θ s w) (hr : bQ q s ≠ .no) (hp : θ q = some pl) (ho : Ro θ pl o ob) : Rel w0 T θ (fx q o s) (w.putObj pl.b ob) := by
 obtain ⟨pl', ob', h1, h2, _⟩ := h.mem q hr
 rw [hp] at h1
 obtain rfl := oI h1
 exact h.put hr hp ho rfl rfl rfl World.putObj_size (World.putObj_heap_same (Array.getElem?_eq_some_iff.1 h2).1) fun k hk => World.putObj_heap_other hk
theorem Rel.rp {s1 : St} {w1 : World} (h : Rel w0 T θ s1 w1) (hn : s1.n = s.n) : fK w0 T θ s θ s1 w1 := ⟨fun _ _ => rfl, by rw [hn]; exact Nat.le_refl _, θ.le_refl, h⟩
theorem CW (t : Array Value) (p : Tmp) (v : Value) : ((#[p] : Array Tmp).zip #[v]).foldl (fun tmps (t, a) => tmps.setIfInBounds t a) t = t.setIfInBounds p v := by
 have e : (#[p] : Array Tmp).zip #[v] = #[(p, v)] := by simp
 rw [e]
 simp
theorem vA {s : LoopState} {p : Option Code} (h : zp 0 s p) : s = .ready ∧ p = none := by
 rcases h with h | h | h | ⟨id, h, _⟩
 ·exact h.2
 ·exact absurd h.1 (by decide)
 ·exact absurd h.1 (by decide)
 ·omega
theorem ye {y : YS} {q : df} {u : V} {X : Value} {pl : Pl} (hY : CV P y) (h : yf y q u s = .ok v s') (hr : Rel w0 T θ s w) (hq : θ q = some pl) (hX : Rv θ u X) : YieldAt Fence.wide 0 P pl.b #[X] w fun en w' => ∃ θ' x, en = .returned x ∧ Rv θ' v x ∧ fK w0 T θ s θ' s' w' := by
 obtain ⟨A, B, p, M, e, st, hg, h⟩ := qh h
 obtain ⟨hst, h⟩ := dC h
 obtain rfl := nE hst
 obtain ⟨x, e1, s1, hA, h⟩ := yp h
 obtain ⟨rec, l1, rfl, rfl, l4, l5, lN, l6, l7, l8, l9⟩ := hr.sx hg hq
 obtain ⟨l9, l10⟩ := vA l9
 cases x with
 | ex id => cases h
 | rt => cases h
 | nx =>
  obtain ⟨A1, B1, p1, M1, er, st1, hg1, h⟩ := qh (show kL cg (bQ q s1) (fun A1 B1 p1 N1 er st1 => bif Nat.beq st1 0 then RC.rec .no (fun x2 _ s2 => kL cg (bQ q s2) fun A2 B2 p2 N2 e2 st2 => bif Nat.beq st2 1 then .ok (.b (Ds x2)) (fx q (.loop A2 B2 p2 N2 e2 (Dx x2)) s2) else cg) (y.run rec.body M e1 (fx q (.loop A1 B1 p1 N1 er 1) s1)) else cg) = .ok v s' from h)
  obtain ⟨hst1, h⟩ := dC h
  obtain rfl := nE hst1
  obtain ⟨x2, e2, s2, hB, h⟩ := yp h
  obtain ⟨A2, B2, p2, M2, e3, st2, hg2, h⟩ := qh h
  obtain ⟨hst2, h⟩ := dC h
  obtain rfl := nE hst2
  cases h
  have hy := run_yield (P := P) (args := #[X]) l1 (by rw [l4]; rfl)
  refine ⟨_, _, _, _, hy, roundIn_of_wpIn trivial ?_⟩
  have hE : Ev M θ (Tr.set V.no (tz p) u e) { tmps := ((rec.params.zip #[X]).foldl (fun tmps (t, a) => tmps.setIfInBounds t a) rec.tmps), defers := [] } := by
   rw [l4, CW]
   refine ⟨by simp [l7], .inl ⟨?_, rfl⟩, fun t v ht hv hn => ?_⟩
   ·rw [show Tr.set V.no (tz p) u e = Tr.set V.no (slot p) u e from rfl, dw (slot p) rE e (po p)]; exact l6
   ·by_cases e0 : t = p
    ·subst e0
     rw [show Tr.set V.no (tz t) u e = Tr.set V.no (slot t) u e from rfl, dv] at hv
     subst hv
     exact ⟨X, by simp [l7, l5], hX⟩
    ·rw [show Tr.set V.no (tz p) u e = Tr.set V.no (slot p) u e from rfl, dw (slot p) (slot t) e fun e1 => e0 (mO ht (Nat.lt_of_lt_of_le l5 lN) e1.symm)] at hv
     obtain ⟨x, h1, h2⟩ := l8 t v ht hv hn
     exact ⟨x, by rw [Array.getElem?_setIfInBounds_ne fun e1 => e0 e1.symm]; exact h1, h2⟩
  refine hY.1 _ _ _ _ _ _ _ hA pl.b w0 T θ _ w _ hE hr fun θ1 a1 w1 hE1 hp1 => ?_
  have hq1 := hp1.le _ _ hq
  obtain ⟨rec1, m1, rfl, rfl, m4, m5, mN, m6, m7, m8, m9⟩ := hp1.rel.sx hg1 hq1
  obtain ⟨m9, m10⟩ := vA m9
  refine ⟨_, run_beginRound m1 m9, ?_⟩
  have hr2 := hp1.rel.putObj (o := .loop rec1.assign rec1.body p1 M1 er 1) (ob := .loop { rec1 with state := .busy }) (by rw [hg1]; exact nofun) hq1 ⟨_, rfl, rfl, rfl, m4, m5, mN, m6, m7, m8, .inr (.inl ⟨rfl, rfl⟩)⟩
  refine hY.1 _ _ _ _ _ _ _ hB pl.b w0 T θ1 a1 _ _ hE1 hr2 fun θ2 a2 w2 hE2 hp2 => ?_
  have hq2 := hp2.le _ _ hq1
  obtain ⟨rec2, n1, rfl, rfl, n4, n5, nN, n6, n7, n8, n9⟩ := hp2.rel.sx hg2 hq2
  have hpost : ∀ st jump, zp st (if jump.isNone then LoopState.ready else .done) jump → fK w0 T θ s θ2 (fx q (.loop rec2.assign rec2.body p2 M2 e3 st) s2) (w2.putObj pl.b (.loop { rec2 with state := if jump.isNone then .ready else .done, pending := jump })) := fun st jump hst =>
   hp1.trans (((hr2.rp (s := s1) rfl).trans hp2).trans ((hp2.rel.putObj (o := .loop rec2.assign rec2.body p2 M2 e3 st) (ob := .loop { rec2 with state := if jump.isNone then .ready else .done, pending := jump }) (by rw [hg2]; exact nofun) hq2 ⟨_, rfl, rfl, rfl, n4, n5, nN, n6, n7, n8, hst⟩).rp (s := s2) rfl))
  cases x2 with
  | nx => exact ⟨_, _, run_endRound none n1, θ2, _, rfl, rfl, hpost 0 none (.inl ⟨rfl, rfl, rfl⟩)⟩
  | rt => exact ⟨_, _, run_endRound (some .ret) n1, θ2, _, rfl, rfl, hpost 2 (some .ret) (.inr (.inr (.inl ⟨rfl, rfl, rfl⟩)))⟩
  | ex id => exact ⟨_, _, run_endRound (some (.exit id)) n1, θ2, _, rfl, rfl, hpost (3 + id) (some (.exit id)) (.inr (.inr (.inr ⟨id, rfl, rfl, rfl⟩)))⟩
def jl (c : CO) : Bool := match c with
 | .wi .. => true
 | _ => false
theorem la {t : Nat} {K : Nat → CO} (h : jl (uy P t K) = true) : ∃ n, jl (K n) = true := by
 unfold uy at h; split at h
 ·exact ⟨_, h⟩
 ·cases h
theorem px {t : Nat} {K : List V → CO} (h : jl (vu P t K) = true) : ∃ n, jl (K n) = true := by
 unfold vu at h; simp only [Bool.cond_eq_ite] at h; repeat' split at h
 all_goals first | exact ⟨_, h⟩ | cases h
theorem BA {t : Nat} {K : V → CO} (h : jl (AH P t K) = true) : ∃ n, jl (K n) = true := by
 unfold AH at h; simp only [Bool.cond_eq_ite] at h; repeat' split at h
 all_goals first | exact ⟨_, h⟩ | cases h
theorem wG {t : Nat} {K : CO} (h : jl (pK P t K) = true) : jl K = true := by
 unfold pK at h; simp only [Bool.cond_eq_ite] at h; repeat' split at h
 all_goals first | exact h | cases h
theorem rM {t i : Nat} {K : Field → Nat → CO} (h : jl (gx P t i K) = true) : ∃ f n, jl (K f n) = true := by
 unfold gx at h
 split at h
 ·split at h
  ·obtain ⟨n, h⟩ := la h
   simp only [Bool.cond_eq_ite] at h
   split at h
   ·cases h
   ·exact ⟨_, _, h⟩
  ·cases h
 ·cases h
theorem sA {t : Nat} {K : nF → CO} (h : jl (mz P t K) = true) : ∃ q, jl (K q) = true := by
 unfold mz at h; repeat' split at h
 all_goals first | exact ⟨_, h⟩ | cases h
theorem CD {op : Op} (h : jl (ft P op) = true) : ∃ f args tys, op = .call ⟨.value f, args, tys⟩ ∧ ft P op = .wi (cX f) (zw args) := by
 cases op with
 | call c =>
  obtain ⟨callee, args, tys⟩ := c
  have h : jl (Bl P ⟨callee, args, tys⟩) = true := h
  cases callee with
  | value f =>
   cases f with
   | func f => cases h
   | _ => exact ⟨_, _, _, rfl, rfl⟩
  | invoke r m => cases h
  | builtin b =>
   exfalso
   have h : jl (jc P b args.toList tys.toList) = true := h
   unfold jc at h
   split at h
   ·unfold Ar at h; repeat' split at h
    all_goals cases h
   ·split at h <;> cases h
   ·unfold Au at h; simp only [Bool.cond_eq_ite] at h; repeat' split at h
    ·obtain ⟨n, h⟩ := px (wG h); cases h
    ·cases h
    ·cases h
   ·split at h
    ·obtain ⟨n, h⟩ := la h; cases h
    ·cases h
   ·split at h
    ·obtain ⟨n, h⟩ := px h; cases h
    ·cases h
   ·cases h
   ·cases h
   ·cases h
 | alloc t => obtain ⟨n, h⟩ := px (show jl (vu P t .new) = true from h); cases h
 | build t ps =>
  exfalso
  have h : jl (qE P t ps) = true := h
  unfold qE at h; simp only [Bool.cond_eq_ite] at h; repeat' split at h
  all_goals cases h
 | buildSlice t n ps =>
  exfalso
  simp only [ft] at h
  split at h
  ·obtain ⟨n, h⟩ := px h
   simp only [Bool.cond_eq_ite] at h; repeat' split at h
   all_goals cases h
  ·cases h
 | load t x =>
  exfalso
  simp only [ft, Bool.cond_eq_ite] at h
  repeat' split at h
  ·cases h
  ·obtain ⟨n, h⟩ := la h; cases h
  ·cases h
 | store t x v => simp only [ft] at h; obtain ⟨n, h⟩ := la h; cases h
 | unOp op t x => exfalso; cases op <;> cases h
 | convert t d x =>
  exfalso
  simp only [ft] at h
  repeat' split at h
  all_goals cases h
 | makeInterface t x =>
  exfalso
  simp only [ft] at h
  repeat' split at h
  all_goals cases h
 | makeMap t r => exfalso; cases r <;> cases h
 | makeSlice t l c =>
  exfalso; simp only [ft] at h
  split at h
  ·split at h
   ·obtain ⟨n, h⟩ := px h; cases h
   ·cases h
  ·cases h
 | slice t x lo hi mx =>
  exfalso
  have h : jl (qD P t x lo hi mx) = true := h
  unfold qD at h
  split at h
  ·split at h <;> cases h
  ·obtain ⟨n, h⟩ := la h
   split at h <;> cases h
  ·cases h
 | fieldAddr t x i => obtain ⟨f, n, h⟩ := rM (show jl (gx P t i _) = true from h); cases h
 | field t x i =>
  obtain ⟨f, n, h⟩ := rM (show jl (gx P t i _) = true from h)
  simp only [Bool.cond_eq_ite] at h; repeat' split at h
  all_goals cases h
 | indexAddr t x i =>
  exfalso; simp only [ft] at h
  split at h
  ·obtain ⟨n, h⟩ := la h; cases h
  ·obtain ⟨n, h⟩ := la h; cases h
  ·cases h
 | index t x i =>
  exfalso; simp only [ft] at h
  split at h
  ·cases h
  ·obtain ⟨n, h⟩ := la h
   simp only [Bool.cond_eq_ite] at h; split at h <;> cases h
  ·cases h
 | lookup t x i ok => simp only [ft] at h; obtain ⟨q, h⟩ := sA h; obtain ⟨z, h⟩ := BA h; cases h
 | mapUpdate t m k x => simp only [ft] at h; obtain ⟨q, h⟩ := sA h; cases h
 | insert t m k x => simp only [ft] at h; obtain ⟨q, h⟩ := sA h; cases h
 | range t x => exfalso; simp only [ft] at h; split at h <;> cases h
 | next x str => exfalso; cases str <;> cases h
 | _ => cases h
theorem wE {yy : YS} {c : CO} (h : jl c = false) : tr (some yy) c = eO c := by
 cases c with
 | wi x xs => cases h
 | _ => rfl
theorem xH {y : Option YS} (h : tr y .no F e s = .ok v s') : False := by
 cases y <;> cases h
theorem xG {o : Oper} {y : Option YS} {ro : Option Nat} {next : Act → World → Prop} (hY : ∀ yy, y = some yy → CV P yy ∧ ro = none) (hF : ph P F) (h : tr y (ft P o.op) F e s = .ok v s') (hE : Ev N θ e a) (hr : Rel w0 T θ s w) (hk : ∀ θ' x w', Rv θ' v x → fK w0 T θ s θ' s' w' → next (a.put o.dst x) w') : o.wpIn (Fn ro) 0 P a w next Q := by
 have hno : ft P o.op ≠ .no := fun e0 => by rw [e0] at h; exact xH h
 have hd := lq hno
 have std : eO (ft P o.op) F e s = .ok v s' → o.wpIn (Fn ro) 0 P a w next Q := fun h => pk hd (by obtain ⟨dst, op, ty, pos, af, g⟩ := o; exact Al hF h (fun x _ => hE.rx x) hr) hk
 cases y with
 | none => exact std h
 | some yy =>
  obtain ⟨hy, rfl⟩ := hY yy rfl
  cases hc : jl (ft P o.op) with
  | false => rw [wE hc] at h; exact std h
  | true =>
   obtain ⟨f, args, tys, e1, e2⟩ := CD hc
   rw [e2] at h std
   have h : pI yy (cX f) (zw args) F e s = .ok v s' := h
   unfold pI at h
   split at h
   ·rename_i q hx
    obtain ⟨vs, h1, h2⟩ := lR h (fun x _ => hE.rx x)
    split at h1
    ·rename_i v1
     obtain ⟨X, ys, e3, e4, e5⟩ := h2
     have e5 : ys = [] := e5
     subst e5
     obtain ⟨pl, hq, hf⟩ := hE.rx f _ hx nofun
     obtain ⟨fn, tm, A, B, hrun, hround⟩ := ye (T := T) hy h1 hr hq e4
     refine ⟨fun f _ => trivial, ?_⟩
     rw [Oper.semAt_eq _ _ _ hd]
     have er : (execOp a.eval o).run P w = .ok (.round pl.b fn tm A B) w := by
      rw [← hrun]
      obtain ⟨dst, op, ty, pos, af, g⟩ := o
      obtain rfl : op = _ := e1
      have e6 : args.map a.eval = #[X] := by
       apply Array.ext'
       simpa using e3
      simp only [execOp, resolve, hf, Deferred.ofValue, Sem.run_bind, Sem.run_pure, Result.andThen_ok, invoke, e6]
      rfl
     rw [er, Oper.uponIn_round]
     refine ⟨Fn.depth, RoundIn.mono hround fun en w' hx => ?_⟩
     obtain ⟨θ', x, rfl, hv, hp⟩ := hx
     exact hk _ _ _ hv hp
    ·cases h1
   ·exact std h
theorem sm {ops : Array Oper} {y : Option YS} {ro : Option Nat} {x : Ex} {e' : Env} {s' : St} (hY : ∀ yy, y = some yy → CV P yy ∧ ro = none) (hF : ph P F) (hN : N ≤ 2 ^ 20) : ∀ (l : List Oper) (e : Env) (s : St) (K : Env → St → RC) (θ : Th) (a : Act) (w : World), tM (l.map (cG P N ops)) y F e s K = .ok x e' s' → Ev N θ e a → Rel w0 T θ s w →
  (∀ e1 s1 θ1 a1 w1, K e1 s1 = .ok x e' s' → Ev N θ1 e1 a1 → fK w0 T θ s θ1 s1 w1 → Q .normal a1 w1) → wpListIn (Fn ro) 0 P ops Q l a w
 | [], e, s, K, θ, a, w, h, hE, hr, hk => hk e s θ a w h hE hr.post
 | o :: l, e, s, K, θ, a, w, h, hE, hr, hk => by
  have h' : (Option.rec (.no [1000]) (fun b => bif b then zT (cG P N ops o).op (cG P N ops o).d y F e s fun e s => tM (l.map (cG P N ops)) y F e s K else tM (l.map (cG P N ops)) y F (jk (cG P N ops o).d (.ix []) e) s K) (iA (cG P N ops o).g e) : RC) = .ok x e' s' := h
  cases hb : iA (cG P N ops o).g e with
  | none => rw [hb] at h'; cases h'
  | some b =>
   rw [hb] at h'
   have hbad : cG P N ops o = ⟨none, none, .no⟩ → wpListIn (Fn ro) 0 P ops Q (o :: l) a w := fun e1 => by
    rw [e1] at h' hb
    obtain rfl := oI hb
    cases y <;> cases h'
   cases hg : lC N ops o.guard with
   | none => exact hbad (by unfold cG; rw [hg])
   | some gb => cases hd : ma N o.dst with
    | none => exact hbad (by unfold cG; rw [hg, hd])
    | some db =>
     have e1 : cG P N ops o = ⟨gb, db, ft P o.op⟩ := by unfold cG; rw [hg, hd]
     rw [e1] at h' hb
     have hw := xh hE hN rfl hg hb
     unfold wpListIn
     rw [hw]
     cases b with
     | true =>
      rw [if_pos rfl]
      have h' : zT (ft P o.op) db y F e s (fun e s => tM (l.map (cG P N ops)) y F e s K) = .ok x e' s' := h'
      unfold zT at h'
      cases hs : tr y (ft P o.op) F e s with
      | no ww => rw [hs] at h'; cases h'
      | ok v s1 =>
       rw [hs] at h'
       have h' : tM (l.map (cG P N ops)) y F (jk db v e) s1 K = .ok x e' s' := h'
       refine xG hY hF hs hE hr fun θ2 x2 w2 hv hp2 => ?_
       exact sm hY hF hN l _ s1 K θ2 _ w2 h' ((hE.le hp2.le).put hN hd hv) hp2.rel fun e3 s3 θ3 a3 w3 h3 hE3 hp3 => hk e3 s3 θ3 a3 w3 h3 hE3 (hp2.trans hp3)
     | false =>
      rw [if_neg (by simp)]
      exact ⟨fun f _ => Fn.fn, sm hY hF hN l _ s K θ _ w h' (hE.put hN hd tf) hr hk⟩
theorem yo {r : RC} {K : Ex → Env → St → RC} {x : Ex} {e' : Env} {s' : St} (h : (RC.rec .no K r : RC) = .ok x e' s') : ∃ y e1 s1, r = .ok y e1 s1 ∧ K y e1 s1 = .ok x e' s' := by
 cases r with
 | no w => cases h
 | ok y e1 s1 => exact ⟨y, e1, s1, rfl, h⟩
theorem vK {K : Env → St → RC} {y x : Ex} {e1 e' : Env} {s1 s' : St} (h : yq K y e1 s1 = .ok x e' s') : (y = .nx ∧ K e1 s1 = .ok x e' s') ∨ (y ≠ .nx ∧ y = x ∧ e1 = e' ∧ s1 = s') := by
 cases y with
 | nx => exact .inl ⟨rfl, h⟩
 | ex id => cases h; exact .inr ⟨nofun, rfl, rfl, rfl⟩
 | rt => cases h; exact .inr ⟨nofun, rfl, rfl, rfl⟩
theorem then_ok {next : Act → World → Prop} {y : Ex} (h : y = .nx → next a w) (h' : y ≠ .nx → Q (u5 y) a w) : Exit.then next Q (u5 y) a w := by
 cases y with
 | nx => exact h rfl
 | ex id => exact h' nofun
 | rt => exact h' nofun
end Ci
namespace Ci
open Go
variable {P : Program} {w0 : World} {T : Nat → Prop} {θ θ' : Th} {s s' s1 s1' : St} {w w' : World} {e : Env} {ρ : Operand → Value} {F : Fs} {v : V}
variable {dst : Option Tmp} {ty : TypeId} {pos : String} {af : Array Edge} {g : Option (Nat × Bool)}
def de (g : St → R) : Prop := ∀ s v s', g s = .ok v s' → s' = s ∧ ∀ s2, g s2 = .ok v s2
namespace de
theorem ok {v : V} : de fun s => .ok v s := fun s v' s' h => by cases h; exact ⟨rfl, fun _ => rfl⟩
theorem cg {w : List Nat} : de fun _ => .no w := fun s v' s' h => by cases h
theorem o4 {x : V} : de fun s => Ci.o4 x s := fun s v s' h => by
 obtain ⟨rfl, rfl, hn⟩ := jA h
 exact ⟨rfl, fun s2 => by unfold Ci.o4 rH; cases x <;> first | rfl | exact absurd rfl hn⟩
theorem kS {x : V} {K : IntKind → Int → St → R} (h : ∀ k n, de (K k n)) : de fun s => Ci.kS Ci.cg x fun k n => K k n s := by
 cases x <;> first | exact h _ _ | exact cg
theorem sV {x : V} {K : Bool → St → R} (h : ∀ b, de (K b)) : de fun s => Ci.sV Ci.cg x fun b => K b s := by
 cases x <;> first | exact h _ | exact cg
theorem mG {x : V} {K : Nat → Nat → St → R} (h : ∀ k n, de (K k n)) : de fun s => Ci.mG Ci.cg x fun k n => K k n s := by
 cases x <;> first | exact h _ _ | exact cg
theorem sU {x : V} {K : df → Nat → St → R} (h : ∀ k n, de (K k n)) : de fun s => Ci.sU Ci.cg x fun k n => K k n s := by
 cases x <;> first | exact h _ _ | exact cg
theorem asAgg {x : V} {K : List V → St → R} (h : ∀ b, de (K b)) : de fun s => Ci.asAgg Ci.cg x fun b => K b s := by
 cases x <;> first | exact h _ | exact cg
theorem rY {x : V} {K : List V → St → R} (h : ∀ b, de (K b)) : de fun s => Ci.rY Ci.cg x fun b => K b s := by
 cases x <;> first | exact h _ | exact cg
theorem rH {x : V} {K : V → St → R} (h : ∀ b, de (K b)) : de fun s => Ci.rH Ci.cg x fun b => K b s := by
 cases x <;> first | exact h _ | exact cg
theorem uz {x : V} {K : V → St → R} (h : ∀ b, de (K b)) : de fun s => Ci.uz Ci.cg x fun b => K b s := by
 cases x <;> first | exact h _ | exact cg
theorem o6 {x : Int} {K : Nat → St → R} (h : ∀ b, de (K b)) : de fun s => Ci.o6 Ci.cg x fun b => K b s := by
 cases x <;> first | exact h _ | exact cg
theorem CA {b : Bool} {g g' : St → R} (h : de g) (h' : de g') : de fun s => bif b then g s else g' s := by
 cases b <;> assumption
theorem eX {d m : Nat} {x : Option X} {K : Nat → St → R} (h : ∀ b, de (K b)) : de fun s => Ci.eX d m x e fun b => K b s := by
 cases x with
 | none => exact h _
 | some x => exact kS (K := fun _ i s => Ci.o6 Ci.cg i fun i => bif Nat.ble i m then K i s else Ci.cg) fun _ _ => o6 (K := fun i s => bif Nat.ble i m then K i s else Ci.cg) fun _ => CA (h _) cg
theorem vY {x : V} {m : Nat} {K : Nat → St → R} (h : ∀ b, de (K b)) : de fun s => Ci.vY Ci.cg x m fun b => K b s :=
 kS (K := fun _ i s => Ci.o6 Ci.cg i fun i => bif Nat.ble (Nat.succ i) m then K i s else Ci.cg) fun _ _ => o6 (K := fun i s => bif Nat.ble (Nat.succ i) m then K i s else Ci.cg) fun _ => CA (h _) cg
theorem jO {n : Nat} {cs : List V} {K : List V → St → R} (h : ∀ b, de (K b)) : de fun s => Ci.jO n cs fun b => K b s :=
 CA (h _) cg
theorem oi {K : List V → St → R} (h : ∀ b, de (K b)) : ∀ xs : List X, de fun s => Ci.oi xs e fun b => K b s := fun xs => by
 induction xs generalizing K with
 | nil => exact h _
 | cons x xs ih => exact rH (K := fun v s => Ci.oi xs e fun vs => K (v :: vs) s) fun v => ih fun vs => h _
theorem kO {K : List V → St → R} (h : ∀ b, de (K b)) : ∀ (ps : List (Nat × Nat × X)) (cs : List V), de fun s => Ci.kO ps e cs fun b => K b s := fun ps => by
 induction ps with
 | nil => intro cs; exact h _
 | cons p ps ih =>
  intro cs
  refine uz (K := fun v s => bif fO (cellsOf v) p.2.1 then (Option.rec Ci.cg (fun cs => Ci.kO ps e cs fun b => K b s) (tG p.1 (cellsOf v) cs) : R) else Ci.cg) fun v => CA ?_ cg
  cases tG p.1 (cellsOf v) cs with
  | none => exact cg
  | some cs => exact ih cs
end de
theorem wW {c : CO} (hc : fD c = 0) : de (eO c F e) := by
 cases c with
 | mv x => exact de.o4
 | pick c a b => exact .sV (K := fun c s => rH cg (eP a e) fun x => rH cg (eP b e) fun y => .ok (bif c then x else y) s) fun _ => .rH (K := fun x s => rH cg (eP b e) fun y => .ok (bif _ then x else y) s) fun _ => .rH (K := fun y s => .ok (bif _ then _ else y) s) fun _ => .ok
 | EE x f => exact .sU (K := fun r off s => .ok (.p r (Nat.add off f)) s) fun _ _ => .ok
 | Dh x =>
  show de fun s => pC x F e s
  unfold pC
  split
  ·exact .ok
  ·exact .ok
  ·exact .cg
 | bin op q x y => exact de.o4
 | not x => exact .sV (K := fun b s => .ok (.b (!b)) s) fun _ => .ok
 | neg x => exact .kS (K := fun k n s => .ok (.i k (k.wrap (0 - n))) s) fun _ _ => .ok
 | inv x => exact .kS (K := fun k n s => .ok (.i k (xx k (bif k.signed then -1 else k.max) n)) s) fun _ _ => .ok
 | FA k x => exact .kS (K := fun _ n s => .ok (.i k (Fa k n)) s) fun _ _ => .ok
 | Fz x => exact .mG (K := fun n x s => .ok (.s n x) s) fun _ _ => .ok
 | Af x f => exact .asAgg (K := fun xs s => o4 (qU f xs) s) fun _ => .o4
 | Ae x f n => exact .asAgg (K := fun xs s => jO n (gF f xs) fun xs => .ok (.agg xs) s) fun _ => .jO (K := fun xs s => .ok (.agg xs) s) fun _ => .ok
 | Ek z ps => exact .kO (K := fun cs s => .ok (.agg cs) s) (fun _ => .ok) ps z
 | ext x i => exact .rY (K := fun xs s => o4 (qU i xs) s) fun _ => .o4
 | Dv x i sz =>
  show de fun s => pG x i sz F e s
  unfold pG
  split
  ·exact .vY (K := fun i s => .ok (.p _ (Nat.add _ (Nat.mul i sz))) s) fun _ => .ok
  ·exact .cg
 | Dw x i len sz => exact .sU (K := fun r off s => vY cg (eP i e) len fun i => .ok (.p r (Nat.add off (Nat.mul i sz))) s) fun r off => .vY (K := fun i s => .ok (.p r (Nat.add off (Nat.mul i sz))) s) fun _ => .ok
 | B5 x i => exact .mG (K := fun n x s => vY cg (eP i e) n fun i => .ok (.i .u8 (.ofNat (Nat.mod (Nat.div x (fq i)) 256))) s) fun n x => .vY (K := fun i s => .ok (.i .u8 (.ofNat (Nat.mod (Nat.div x (fq i)) 256))) s) fun _ => .ok
 | Du x i len sz one => exact .asAgg (K := fun xs s => vY cg (eP i e) len fun i => o4 (jq xs (Nat.mul i sz) sz one) s) fun xs => .vY (K := fun i s => o4 (jq xs (Nat.mul i sz) sz one) s) fun _ => .o4
 | Fk x lo hi => exact .mG (K := fun n x s => eX n n hi e fun h => eX 0 h lo e fun l => .ok (.s (Nat.sub h l) (Nat.mod (Nat.div x (fq l)) (fq (Nat.sub h l)))) s) fun n x => .eX (K := fun h s => eX 0 h lo e fun l => .ok (.s (Nat.sub h l) (Nat.mod (Nat.div x (fq l)) (fq (Nat.sub h l)))) s) fun h => .eX (K := fun l s => .ok (.s (Nat.sub h l) (Nat.mod (Nat.div x (fq l)) (fq (Nat.sub h l)))) s) fun _ => .ok
 | Fm sz x lo hi =>
  show de fun s => tw sz x lo hi F e s
  unfold tw
  split
  ·rename_i r off len cap known _
   exact .eX (K := fun h s => eX 0 h lo e fun l => bif known then .ok (.sl r (cutAt off l sz cap) (Nat.sub h l) (Nat.sub cap l) true) s else bif Nat.beq l 0 then .ok (.sl r off h cap false) s else bif Nat.ble (Nat.succ l) len then .ok (.sl r (Nat.add off (Nat.mul l sz)) (Nat.sub h l) (Nat.add cap l) false) s else .ok .es s) fun h => .eX (K := fun l s => bif known then .ok (.sl r (cutAt off l sz cap) (Nat.sub h l) (Nat.sub cap l) true) s else bif Nat.beq l 0 then .ok (.sl r off h cap false) s else bif Nat.ble (Nat.succ l) len then .ok (.sl r (Nat.add off (Nat.mul l sz)) (Nat.sub h l) (Nat.add cap l) false) s else .ok .es s) fun l => .CA .ok (.CA .ok (.CA .ok .ok))
  ·exact .eX (K := fun h s => eX 0 h lo e fun l => .ok (.c (.slice none 0 0)) s) fun h => .eX (K := fun l s => .ok (.c (.slice none 0 0)) s) fun _ => .ok
  ·exact .cg
 | Fl sz x lo hi mx =>
  show de fun s => tv sz x lo hi mx F e s
  unfold tv
  split
  ·rename_i r off len cap known _
   exact .eX (K := fun m s => eX 0 m (some hi) e fun h => eX 0 h lo e fun l => .ok (.sl r (cutAt off l sz m) (Nat.sub h l) (Nat.sub m l) true) s) fun m => .eX (K := fun h s => eX 0 h lo e fun l => .ok (.sl r (cutAt off l sz m) (Nat.sub h l) (Nat.sub m l) true) s) fun h => .eX (K := fun l s => .ok (.sl r (cutAt off l sz m) (Nat.sub h l) (Nat.sub m l) true) s) fun _ => .ok
  ·exact .eX (K := fun m s => eX 0 m (some hi) e fun h => eX 0 h lo e fun l => .ok (.c (.slice none 0 0)) s) fun m => .eX (K := fun h s => eX 0 h lo e fun l => .ok (.c (.slice none 0 0)) s) fun h => .eX (K := fun l s => .ok (.c (.slice none 0 0)) s) fun _ => .ok
  ·exact .cg
 | Fu fn a b => exact .oi (K := fun a s => oi b e fun b => .ok (.f fn a b) s) (fun a => .oi (K := fun b s => .ok (.f fn a b) s) (fun _ => .ok) b) a
 | Ft t x => exact .uz (K := fun v s => .ok (.y t v) s) fun _ => .ok
 | Dl x => exact .mG (K := fun n _ s => .ok (.i .i64 (.ofNat n)) s) fun _ _ => .ok
 | Dn x =>
  show de fun s => pF x F e s
  unfold pF
  split <;> first | exact .ok | exact .cg
 | Ej x =>
  show de fun s => pH x F e s
  unfold pH
  split <;> first | exact .ok | exact .cg
 | min x y => exact .kS (K := fun k a s => kS cg (eP y e) fun _ b => .ok (.i k (bif yG b a then b else a)) s) fun k a => .kS (K := fun _ b s => .ok (.i k (bif yG b a then b else a)) s) fun _ _ => .ok
 | max x y => exact .kS (K := fun k a s => kS cg (eP y e) fun _ b => .ok (.i k (bif yG a b then b else a)) s) fun k a => .kS (K := fun _ b s => .ok (.i k (bif yG a b then b else a)) s) fun _ _ => .ok
 | _ => cases hc
theorem xd {c : CO} (hc : fD c = 1) (h : eO c F e s = .ok v s') : s' = s := by
 cases c with
 | Fw x =>
  obtain ⟨r, off, _, h⟩ := jL h
  obtain ⟨cs, mk, h, _⟩ := eW h
  exact (jA h).2.1.symm
 | Fv x n =>
  obtain ⟨r, off, _, h⟩ := jL h
  obtain ⟨cs, mk, h, _⟩ := eW h
  obtain ⟨_, h⟩ := ia h
  cases h; rfl
 | FC x =>
  have h : tx x F e s = .ok v s' := h
  unfold tx at h
  split at h
  ·obtain ⟨cs, mk, h, _⟩ := eW h
   obtain ⟨_, h⟩ := ia h
   obtain ⟨n, _, h⟩ := jr (K := fun n => R.ok (.s _ n) s) h
   cases h; rfl
  ·cases h; rfl
  ·cases h; rfl
  ·cases h
 | EC q z x i ok =>
  obtain ⟨_, _, h⟩ := iW (show uz cg (eP i e) _ = .ok v s' from h)
  have fin : ∀ es, (Option.rec cg (fun (o : Option (Nat × V)) => o4 (Option.rec (bif ok then .ix [z, .b false] else z) (fun p => bif ok then .ix [p.2, .b true] else p.2) o) s) (qv q (eP i e) es 0) : R) = .ok v s' → s' = s := fun es h => by
   obtain ⟨o, _, h⟩ := jr (K := fun (o : Option (Nat × V)) => o4 (Option.rec (bif ok then .ix [z, .b false] else z) (fun p => bif ok then .ix [p.2, .b true] else p.2) o) s) h
   exact (jA h).2.1.symm
  unfold ti at h
  split at h
  ·exact fin [] h
  ·obtain ⟨es, c, _, h⟩ := lM h
   exact fin es h
  ·cases h
 | Dm x =>
  have h : ti cg (eP x e) s (fun _ es _ => R.ok (.i .i64 (.ofNat (qj es))) s) = .ok v s' := h
  unfold ti at h
  split at h
  ·cases h; rfl
  ·obtain ⟨es, c, _, h⟩ := lM h
   cases h; rfl
  ·cases h
 | _ => cases hc
def Sub (s1 s : St) : Prop := ∀ r, bQ r s1 ≠ .no → bQ r s1 = bQ r s
def AG (θ : Th) (s : St) (k : Nat) : Prop := ∃ r pl, bQ r s ≠ .no ∧ θ r = some pl ∧ pl.b = k
theorem Sub.live (h : Sub s1 s) {r : df} (hr : bQ r s1 ≠ .no) : bQ r s ≠ .no := by rw [← h r hr]; exact hr
theorem Rel.part (h : Rel w0 T θ s w) (hs : Sub s1 s) (hn : s1.n = s.n) : Rel w (AG θ s1) θ s1 w :=
 ⟨rfl, rfl, rfl, Nat.le_refl _, fun _ _ _ => rfl, fun r pl hr => by rw [hn]; exact h.num r pl hr, fun r pl hl hr => ⟨.inl ⟨r, pl, hl, hr, rfl⟩, (h.new r pl (hs.live hl) hr).2⟩,
  fun r r' pl pl' hl hl' => h.inj r r' pl pl' (hs.live hl) (hs.live hl'), fun r hl => by rw [hs r hl]; exact h.mem r (hs.live hl)⟩
theorem Rel.merge (h : Rel w0 T θ s w) (hs : Sub s1 s) (hn : s1.n = s.n) (hp : fK w (AG θ s1) θ s1 θ' s1' w') {s' : St} (hn' : s'.n = s1'.n) (hh : ∀ r, bQ r s ≠ .no → bQ r s1 = .no → bQ r s' = bQ r s) (hm : ∀ r, (bQ r s = .no ∨ bQ r s1 ≠ .no) → bQ r s' = bQ r s1') : fK w0 T θ s θ' s' w' := by
 have hid : ∀ r, (bQ r s ≠ .no ∧ bQ r s1 = .no ∧ bQ r s' = bQ r s) ∨ ((bQ r s = .no ∨ bQ r s1 ≠ .no) ∧ bQ r s' = bQ r s1') := fun r => by
  by_cases h1 : bQ r s = .no
  ·exact .inr ⟨.inl h1, hm r (.inl h1)⟩
  ·by_cases h2 : bQ r s1 = .no
   ·exact .inl ⟨h1, h2, hh r h1 h2⟩
   ·exact .inr ⟨.inr h2, hm r (.inr h2)⟩
 have ext : ∀ {r pl}, θ r = some pl → θ' r = some pl := fun {r pl} hr => hp.le r pl hr
 have back : ∀ {r pl}, bQ r s ≠ .no → θ' r = some pl → θ r = some pl := fun {r pl} hl hr => by
  obtain ⟨pl', ob, h1, _⟩ := h.mem r hl
  rw [ext h1] at hr
  exact h1.trans hr
 -- blocks that the part has not are none of those that may mL
 have xr : ∀ {r pl}, bQ r s ≠ .no → bQ r s1 = .no → θ r = some pl → ¬ AG θ s1 pl.b := fun {r pl} h1 h2 h3 ⟨q, pl', a1, a2, a3⟩ => by
  have := h.inj q r pl' pl (hs.live a1) h1 a2 h3 a3
  subst this
  exact a1 h2
 have mineT : ∀ {k}, AG θ s1 k → (T k ∨ w0.heap.size ≤ k) := fun {k} ⟨q, pl', a1, a2, a3⟩ => by
  subst a3; exact (h.new q pl' (hs.live a1) a2).1
 refine ⟨fun r hr => hp.ext r (by rw [hn]; exact hr), by rw [← hn, hn']; exact hp.n, hp.le, hp.rel.os.trans h.os, hp.rel.tape.trans h.tape, hp.rel.output.trans h.output, Nat.le_trans h.size hp.rel.size, fun k hk hT => ?_, fun r pl hr => by rw [hn']; exact hp.rel.num r pl hr, fun r pl hl hr => ?_, fun r r' pl pl' hl hl' hr hr' hb => ?_, fun r hl => ?_⟩
 ·rw [hp.rel.frame k (Nat.lt_of_lt_of_le hk h.size) fun hM => ?_]
  ·exact h.frame k hk hT
  ·rcases mineT hM with h1 | h1
   ·exact hT h1
   ·omega
 ·rcases hid r with ⟨a1, a2, a3⟩ | ⟨_, a3⟩
  ·have := h.new r pl a1 (back a1 hr)
   exact ⟨this.1, Nat.lt_of_lt_of_le this.2 hp.rel.size⟩
  ·rw [a3] at hl
   obtain ⟨b1, b2⟩ := hp.rel.new r pl hl hr
   exact ⟨b1.elim mineT fun h1 => .inr (Nat.le_trans h.size h1), b2⟩
 ·have cross : ∀ {r r' pl pl'}, bQ r s ≠ .no → bQ r s1 = .no → bQ r' s1' ≠ .no → θ' r = some pl → θ' r' = some pl' → pl.b ≠ pl'.b := fun {r r' pl pl'} a1 a2 b1 hr hr' hb => by
   have h1 := back a1 hr
   have h2 := (h.new r pl a1 h1).2
   rcases (hp.rel.new r' pl' b1 hr').1 with h3 | h3
   ·rw [← hb] at h3; exact xr a1 a2 h1 h3
   ·omega
  rcases hid r with ⟨a1, a2, a3⟩ | ⟨_, a3⟩ <;> rcases hid r' with ⟨b1, b2, b3⟩ | ⟨_, b3⟩
  ·exact h.inj r r' pl pl' a1 b1 (back a1 hr) (back b1 hr') hb
  ·rw [b3] at hl'; exact absurd hb (cross a1 a2 hl' hr hr')
  ·rw [a3] at hl; exact absurd hb.symm (cross b1 b2 hl hr' hr)
  ·rw [a3] at hl; rw [b3] at hl'; exact hp.rel.inj r r' pl pl' hl hl' hr hr' hb
 ·rcases hid r with ⟨a1, a2, a3⟩ | ⟨_, a3⟩
  ·obtain ⟨pl, ob, h1, h2, h3⟩ := h.mem r a1
   refine ⟨pl, ob, ext h1, ?_, by rw [a3]; exact h3.le hp.le⟩
   rw [hp.rel.frame pl.b (h.new r pl a1 h1).2 (xr a1 a2 h1)]
   exact h2
  ·rw [a3] at hl ⊢; exact hp.rel.mem r hl
end Ci
namespace Ci
open Go
variable {P : Program} {w0 : World} {T : Nat → Prop} {θ θ' : Th} {s s' s1 s1' : St} {w w' : World} {e : Env} {ρ : Operand → Value} {F : Fs} {v : V}
theorem jd (m i : Nat) : bit m i = m.testBit i := by
 rw [Nat.testBit_eq_decide_div_mod_eq]
 show Nat.beq (m / 2 ^ i % 2) 1 = _
 rw [Bool.eq_iff_iff, Nat.beq_eq, decide_eq_true_iff]
theorem gR (a b i : Nat) : bit (Nat.lor a b) i = (bit a i || bit b i) := by
 rw [jd, jd, jd]; exact Nat.testBit_or ..
theorem kI (i j : Nat) : bit (Nat.pow 2 i) j = decide (i = j) := by
 rw [jd]; exact Nat.testBit_two_pow
theorem iq (i : Nat) : bit 0 i = false := by rw [jd]; exact Nat.zero_testBit i
theorem zg {n i : Nat} : bit (Nat.sub (Nat.pow 2 n) 1) i = decide (i < n) := by rw [jd]; exact Nat.testBit_two_pow_sub_one ..
theorem Av {a b : Nat} (h : Nat.beq (Nat.lor a b) b = true) {i : Nat} (hi : bit a i = true) : bit b i = true := by
 have := nE h
 rw [← this, gR, hi]; rfl
theorem ka {α : Type} {f : α → Bool} : ∀ {xs : List α}, nw f xs = true ↔ ∀ x ∈ xs, f x = true
 | [] => ⟨fun _ _ h => absurd h (List.not_mem_nil), fun _ => rfl⟩
 | x :: xs => by
  have e1 : nw f (x :: xs) = bif f x then nw f xs else false := rfl
  rw [e1]
  cases hx : f x with
  | true => rw [cdT, ka]; simp [hx]
  | false => simp [hx]
def ux (o : Oper) (j : Nat) : Prop := ∃ ed ∈ o.after.toList, Region.binds .any ed = true ∧ ed.on = j
inductive tc (ops : List Oper) : Nat → Nat → Prop
 | Ca {i j : Nat} {o : Oper} (h : ops[i]? = some o) (hb : ux o j) : tc ops j i
 | E7 {i j k : Nat} {o : Oper} (h : ops[i]? = some o) (hb : ux o k) (hr : tc ops j k) : tc ops j i
theorem lu (l : List Nat) (i : Nat) : cH l i = l.getD i 0 := by
 unfold cH
 rw [fj]
 induction l generalizing i with
 | nil => simp
 | cons x l ih => cases i with
  | zero => rfl
  | succ i => simpa using ih i
theorem qN {acc : List Nat} {j : Nat} : ∀ {es : List Edge}, bit (nu acc es) j = true → ∃ ed ∈ es, Region.binds .any ed = true ∧ (ed.on = j ∨ bit (cH acc ed.on) j = true)
 | [], h => by rw [show nu acc [] = 0 from rfl, iq] at h; cases h
 | ed :: es, h => by
  have e1 : nu acc (ed :: es) = bif Region.binds .any ed then Nat.lor (Nat.lor (Nat.pow 2 ed.on) (cH acc ed.on)) (nu acc es) else nu acc es := rfl
  rw [e1] at h
  cases hb : Region.binds .any ed with
  | false =>
   rw [hb] at h
   obtain ⟨ed', a1, a2⟩ := qN (es := es) h
   exact ⟨ed', List.mem_cons_of_mem _ a1, a2⟩
  | true =>
   rw [hb] at h
   simp only [cdT, gR, Bool.or_eq_true, kI, decide_eq_true_eq] at h
   rcases h with (h | h) | h
   ·exact ⟨ed, List.mem_cons_self .., hb, .inl h⟩
   ·exact ⟨ed, List.mem_cons_self .., hb, .inr h⟩
   ·obtain ⟨ed', a1, a2⟩ := qN (es := es) h
    exact ⟨ed', List.mem_cons_of_mem _ a1, a2⟩
theorem wm : ∀ (l pre : List Oper) (acc : List Nat), acc.length = pre.length → (∀ i j, bit (cH acc i) j = true → tc (pre ++ l) j i) → ∀ i j, bit (cH (eD l acc) i) j = true → tc (pre ++ l) j i
 | [], pre, acc, _, h, i, j, hb => h i j hb
 | o :: l, pre, acc, hl, h, i, j, hb => by
  have e1 : eD (o :: l) acc = eD l (acc ++ [nu acc o.after.toList]) := by
   show eD l (j9 acc [nu acc o.after.toList]) = _
   rw [gX]
  rw [e1] at hb
  have e2 : pre ++ o :: l = (pre ++ [o]) ++ l := by simp
  rw [e2]
  refine wm l (pre ++ [o]) _ (by simp [hl]) (fun i j hb => ?_) i j hb
  rw [← e2]
  rw [lu] at hb
  by_cases hi : i < acc.length
  ·rw [List.getD_eq_getElem?_getD, List.getElem?_append_left hi, ← List.getD_eq_getElem?_getD, ← lu] at hb
   exact h i j hb
  ·by_cases hi' : i = acc.length
   ·subst hi'
    rw [List.getD_eq_getElem?_getD, List.getElem?_append_right (Nat.le_refl _), Nat.sub_self] at hb
    obtain ⟨ed, a1, a2, a3⟩ := qN (show bit (nu acc o.after.toList) j = true from hb)
    have ho : (pre ++ o :: l)[acc.length]? = some o := by rw [hl, List.getElem?_append_right (Nat.le_refl _), Nat.sub_self]; rfl
    rcases a3 with a3 | a3
    ·exact .Ca ho ⟨ed, a1, a2, a3⟩
    ·exact .E7 ho ⟨ed, a1, a2, rfl⟩ (h _ _ a3)
   ·rw [List.getD_eq_getElem?_getD, List.getElem?_eq_none (by simp; omega)] at hb
    rw [show (none : Option Nat).getD 0 = 0 from rfl, iq] at hb
    cases hb
theorem gC {ops : List Oper} {i j : Nat} (h : bit (cH (eD ops []) i) j = true) : tc ops j i := by
 have := wm ops [] [] rfl (fun i j hb => by rw [lu] at hb; simp only [List.getD_nil, iq] at hb; cases hb) i j h
 simpa using this
structure AE (all : List Oper) (arr : Array Oper) : Prop where
 back : ∀ (i : Nat) (o : Oper), all[i]? = some o → ∀ j, ux o j → j < i
 EN : ∀ (i j : Nat) (o o' : Oper) (t : Nat), all[i]? = some o → all[j]? = some o' → o.dst = some t → o'.dst = some t → i = j
 slot : ∀ (i : Nat) (o : Oper) (t : Nat), all[i]? = some o → ((.tmp t) ∈ o.op.operands.toList ∨ ∃ j w, o.guard = some (j, w) ∧ rR arr j = some t) → ∀ (j : Nat) (o' : Oper), all[j]? = some o' → o'.dst = some t → i = j ∨ bit (cH (eD all []) i) j = true ∨ bit (cH (eD all []) j) i = true
theorem rP {t : Nat} {o : Oper} : rQ t o = true ↔ o.dst = some t := by
 unfold rQ
 cases o.dst with
 | none => simp
 | some d => simp [Nat.beq_eq]
theorem ri {M : List Nat} {i t : Nat} : ∀ {ops : List Oper} {k : Nat}, iy M i t ops k = true → ∀ j o', ops[j]? = some o' → o'.dst = some t → i = k + j ∨ bit (cH M i) (k + j) = true ∨ bit (cH M (k + j)) i = true
 | [], k, _, j, o', h, _ => by simp at h
 | o :: ops, k, h, j, o', hj, hd => by
  have e1 : iy M i t (o :: ops) k = bif rQ t o then (Nat.beq i k || bit (cH M i) k || bit (cH M k) i) && iy M i t ops (k + 1) else iy M i t ops (k + 1) := rfl
  rw [e1] at h
  cases j with
  | zero =>
   obtain rfl := oI (show some o = some o' from hj)
   rw [rP.2 hd] at h
   simp only [cdT, Bool.and_eq_true, Bool.or_eq_true, Nat.beq_eq] at h
   rcases h.1 with (h1 | h1) | h1
   ·exact .inl h1
   ·exact .inr (.inl h1)
   ·exact .inr (.inr h1)
  | succ j =>
   have h2 : iy M i t ops (k + 1) = true := by
    cases hb : rQ t o with
    | true => rw [hb] at h; simp only [cdT, Bool.and_eq_true] at h; exact h.2
    | false => rw [hb] at h; exact h
   have := ri h2 j o' (by simpa using hj) hd
   rwa [show k + 1 + j = k + (j + 1) by omega] at this
theorem jT {all : List Oper} {arr : Array Oper} {M : List Nat} : ∀ {ops : List Oper} {k : Nat}, nV all arr M ops k = true → ∀ i o, ops[i]? = some o → vk (k + i) o = true ∧ (∀ j o' t, ops[j]? = some o' → i < j → o.dst = some t → o'.dst ≠ some t) ∧ (∀ t, (.tmp t) ∈ o.op.operands.toList → iy M (k + i) t all 0 = true) ∧ ∀ j w, o.guard = some (j, w) → ∃ t, rR arr j = some t ∧ iy M (k + i) t all 0 = true
 | [], k, _, i, o, h => by simp at h
 | o :: ops, k, h, i, o', hi => by
  have e1 : nV all arr M (o :: ops) k = (vk k o && (uL o.dst ops && (nw (AI fun t => iy M k t all 0) o.op.operands.toList && ((match o.guard with
   | some (j, _) => (match rR arr j with
    | some t => iy M k t all 0
    | none => false)
   | none => true) && nV all arr M ops (k + 1))))) := rfl
  rw [e1] at h
  simp only [Bool.and_eq_true] at h
  obtain ⟨h1, h2, h3, h4, h5⟩ := h
  cases i with
  | zero =>
   obtain rfl := oI (show some o = some o' from hi)
   refine ⟨h1, fun j o'' t hj hlt hd hd' => ?_, fun t ht => ?_, fun j w hg => ?_⟩
   ·unfold uL at h2
    rw [hd] at h2
    obtain ⟨j', rfl⟩ : ∃ j', j = j' + 1 := ⟨j - 1, by omega⟩
    have := ka.1 h2 o'' (List.mem_of_getElem? (by simpa using hj))
    rw [rP.2 hd'] at this
    cases this
   ·exact ka.1 h3 _ ht
   ·rw [hg] at h4
    simp only at h4
    split at h4
    ·rename_i t ht; exact ⟨t, ht, h4⟩
    ·cases h4
  | succ i =>
   obtain ⟨a1, a2, a3, a4⟩ := jT h5 i o' (by simpa using hi)
   rw [show k + 1 + i = k + (i + 1) by omega] at a1 a3 a4
   refine ⟨a1, fun j o'' t hj hlt => ?_, a3, a4⟩
   obtain ⟨j', rfl⟩ : ∃ j', j = j' + 1 := ⟨j - 1, by omega⟩
   exact a2 j' o'' t (by simpa using hj) (by omega)
theorem zP {all : List Oper} {arr : Array Oper} (h : nV all arr (eD all []) all 0 = true) : AE all arr := by
 refine ⟨fun i o ho j hb => ?_, fun i j o o' t hi hj hd hd' => ?_, fun i o t ho hs j o' hj hd => ?_⟩
 ·obtain ⟨a1, _⟩ := jT h i o ho
  obtain ⟨ed, b1, b2, b3⟩ := hb
  have := ka.1 (show nw _ _ = true from a1) ed b1
  rw [b2] at this
  simp only [Bool.not_true, Bool.false_or] at this
  have : ed.on < 0 + i := nB this
  omega
 ·rcases Nat.lt_trichotomy i j with hlt | rfl | hlt
  ·exact absurd hd' ((jT h i o hi).2.1 j o' t hj hlt hd)
  ·rfl
  ·exact absurd hd ((jT h j o' hj).2.1 i o t hi hlt hd')
 ·obtain ⟨_, _, a3, a4⟩ := jT h i o ho
  have hk : iy (eD all []) (0 + i) t all 0 = true := by
   rcases hs with hs | ⟨j', w, hg, hd'⟩
   ·exact a3 t hs
   ·obtain ⟨t', b1, b2⟩ := a4 j' w hg
    rw [hd'] at b1
    obtain rfl := oI b1
    exact b2
  have := ri hk j o' hj hd
  simpa using this
theorem AE.lt {all : List Oper} {arr : Array Oper} (h : AE all arr) {i j : Nat} (hb : tc all j i) : j < i := by
 induction hb with
 | Ca ho hb => exact h.back _ _ ho _ hb
 | E7 ho hb _ ih => exact Nat.lt_trans ih (h.back _ _ ho _ hb)
def ny (al : AL) : Prop := (al.map fun p => p.2.1).Nodup
theorem gZ : ∀ (al : AL) (m x : Nat) (s : St), (cB al m x s).n = s.n
 | [], _, _, _ => rfl
 | p :: al, m, x, s => by
  have e1 : cB (p :: al) m x s = bif bit m p.1 && !bit x p.1 then fx p.2.1 p.2.2 (cB al m x s) else cB al m x s := rfl
  rw [e1]
  cases (bit m p.1 && !bit x p.1) <;> exact gZ al m x s
theorem fa : ∀ {al : AL} {m x : Nat} {s : St} {r : df}, (∀ p ∈ al, p.2.1 ≠ r) → bQ r (cB al m x s) = bQ r s
 | [], _, _, _, _, _ => rfl
 | p :: al, m, x, s, r, h => by
  have e1 : cB (p :: al) m x s = bif bit m p.1 && !bit x p.1 then fx p.2.1 p.2.2 (cB al m x s) else cB al m x s := rfl
  rw [e1]
  have ih := fa (m := m) (x := x) (s := s) fun q hq => h q (List.mem_cons_of_mem _ hq)
  cases (bit m p.1 && !bit x p.1) with
  | true => rw [cdT, eZ _ _ (h p (List.mem_cons_self ..))]; exact ih
  | false => exact ih
theorem fm : ∀ {al : AL} {m x : Nat} {s : St} {p : Nat × df × O}, ny al → p ∈ al → bQ p.2.1 (cB al m x s) = bif bit m p.1 && !bit x p.1 then p.2.2 else bQ p.2.1 s
 | q :: al, m, x, s, p, hn, hp => by
  have e1 : cB (q :: al) m x s = bif bit m q.1 && !bit x q.1 then fx q.2.1 q.2.2 (cB al m x s) else cB al m x s := rfl
  unfold ny at hn
  rw [List.map_cons, List.nodup_cons] at hn
  rw [e1]
  rcases List.mem_cons.1 hp with rfl | hp
  ·have hno : ∀ q ∈ al, q.2.1 ≠ p.2.1 := fun q hq e => hn.1 (by rw [List.mem_map]; exact ⟨q, hq, e⟩)
   cases (bit m p.1 && !bit x p.1) with
   | true => rw [cdT, cdT, gV]
   | false => rw [cdF, cdF]; exact fa hno
  ·have ih := fm (m := m) (x := x) (s := s) hn.2 hp
   have hne : q.2.1 ≠ p.2.1 := fun e => hn.1 (by rw [List.mem_map]; exact ⟨p, hp, e.symm⟩)
   cases (bit m q.1 && !bit x q.1) with
   | true => rw [cdT, eZ _ _ hne]; exact ih
   | false => exact ih
theorem jx : ∀ {al : AL} {m m' x : Nat} {s : St}, (∀ p ∈ al, bit m p.1 = bit m' p.1) → cB al m x s = cB al m' x s
 | [], _, _, _, _, _ => rfl
 | p :: al, m, m', x, s, h => by
  have e1 : ∀ m, cB (p :: al) m x s = bif bit m p.1 && !bit x p.1 then fx p.2.1 p.2.2 (cB al m x s) else cB al m x s := fun _ => rfl
  rw [e1, e1, h p (List.mem_cons_self ..), jx fun q hq => h q (List.mem_cons_of_mem _ hq)]
theorem qQ : ∀ {l al : AL} {m x : Nat} {s : St}, (∀ p ∈ l, bit m p.1 = false) → cB (l ++ al) m x s = cB al m x s
 | [], _, _, _, _, _ => rfl
 | p :: l, al, m, x, s, h => by
  have e1 : cB (p :: l ++ al) m x s = bif bit m p.1 && !bit x p.1 then fx p.2.1 p.2.2 (cB (l ++ al) m x s) else cB (l ++ al) m x s := rfl
  rw [e1, h p (List.mem_cons_self ..)]
  exact qQ fun q hq => h q (List.mem_cons_of_mem _ hq)
theorem Rel.at {q : df} {o : O} {ob : Obj} (h : Rel w0 T θ s w) (hq : θ q = none) (hlt : q.nat < s.n.nat) (ho : Ro θ ⟨w.heap.size, 0, 0⟩ o ob) (hn : s'.n = s.n) (hs : bQ q s' = o) (hs' : ∀ r, r ≠ q → bQ r s' = bQ r s) :
  θ.le (θ.iL q ⟨w.heap.size, 0, 0⟩) ∧ Rel w0 T (θ.iL q ⟨w.heap.size, 0, 0⟩) s' { w with heap := w.heap.push ob } := by
 have hle : θ.le (θ.iL q ⟨w.heap.size, 0, 0⟩) := fun r pl hr => by
  rw [Th.iw θ _ fun e => by subst e; rw [hq] at hr; cases hr]; exact hr
 have vM : ∀ k, k < w.heap.size → (w.heap.push ob)[k]? = w.heap[k]? := fun k hk => by rw [Array.getElem?_push, if_neg (by omega)]
 have lv : ∀ r, r ≠ q → bQ r s' ≠ .no → bQ r s ≠ .no := fun r hr hl => by rwa [hs' r hr] at hl
 have un : ∀ {r pl}, r ≠ q → θ.iL q ⟨w.heap.size, 0, 0⟩ r = some pl → θ r = some pl := fun {r pl} hr h => by rwa [Th.iw θ _ (fun e => hr e.symm)] at h
 refine ⟨hle, h.os, h.tape, h.output, Nat.le_trans h.size (by simp), fun k hk hT => (vM k (Nat.lt_of_lt_of_le hk h.size)).trans (h.frame k hk hT), fun r pl hr => ?_, fun r pl hl hr => ?_, fun r r' pl pl' hl hl' hr hr' hb => ?_, fun r hl => ?_⟩
 ·rw [hn]
  by_cases e : r = q
  ·subst e; exact hlt
  ·exact h.num r pl (un e hr)
 ·by_cases e : r = q
  ·subst e
   rw [Th.eN] at hr
   obtain rfl := oI hr
   exact ⟨.inr h.size, by simp⟩
  ·have := h.new r pl (lv r e hl) (un e hr)
   exact ⟨this.1, Nat.lt_of_lt_of_le this.2 (by simp)⟩
 ·by_cases e : r = q <;> by_cases e' : r' = q
  ·exact e.trans e'.symm
  ·subst e
   rw [Th.eN] at hr
   obtain rfl := oI hr
   have := (h.new r' pl' (lv r' e' hl') (un e' hr')).2
   rw [← hb] at this
   exact absurd this (Nat.lt_irrefl _)
  ·subst e'
   rw [Th.eN] at hr'
   obtain rfl := oI hr'
   have := (h.new r pl (lv r e hl) (un e hr)).2
   rw [hb] at this
   exact absurd this (Nat.lt_irrefl _)
  ·exact h.inj r r' pl pl' (lv r e hl) (lv r' e' hl') (un e hr) (un e' hr') hb
 ·by_cases e : r = q
  ·subst e
   exact ⟨_, ob, Th.eN .., by simp, by rw [hs]; exact ho.le hle⟩
  ·obtain ⟨pl, ob', h1, h2, h3⟩ := h.mem r (lv r e hl)
   refine ⟨pl, ob', hle _ _ h1, ?_, by rw [hs' r e]; exact h3.le hle⟩
   rw [show ({ w with heap := w.heap.push ob } : World).heap[pl.b]? = w.heap[pl.b]? from vM _ (h.new r pl (lv r e hl) h1).2]
   exact h2
end Ci
namespace Ci
open Go
variable {P : Program} {F : Fs} {N : Nat} {arr : Array Oper} {M : List Nat}
inductive Kd
 | skip
 | pure
 | load
 | alloc (q : df) (o : O)
 | mL (b b' : SL)
structure Rec where
 e : Env
 v : V
 k : Kd
def wx (d d1 : DS) : Prop := d1.st = d.st ∧ d1.sl = d.sl
def lE (P : Program) (F : Fs) (wo i : Nat) (c : CO) (gb : Option (df × Bool)) (d : DS) (r : Rec) (d1 : DS) : Prop := match r.k with
 | .skip => iA gb d.e = some false ∧ r.v = .ix [] ∧ wx d d1 ∧ d1.al = d.al ∧ d1.ld = d.ld ∧ d1.nx = d.nx
 | .pure => iA gb d.e = some true ∧ fD c = 0 ∧ (∃ s s', eO c F d.e s = .ok r.v s') ∧ wx d d1 ∧ d1.al = d.al ∧ d1.ld = d.ld ∧ d1.nx = d.nx
 | .load => iA gb d.e = some true ∧ fD c = 1 ∧ wx d d1 ∧ d1.al = d.al ∧ d1.ld = ⟨c, d.e, r.v, wo, i⟩ :: d.ld ∧ d1.nx = d.nx
 | .alloc q o => iA gb d.e = some true ∧ fD c = 2 ∧ (∃ s', eO c F d.e ⟨q, .lf⟩ = .ok r.v s' ∧ bQ q s' = o) ∧ q = d.nx ∧ wx d d1 ∧ d1.al = (i, q, o) :: d.al ∧ d1.ld = d.ld ∧ d1.nx = d.nx.next
 | .mL b b' => iA gb d.e = some true ∧ (∀ j, bit b.wd j = true → bit wo j = true) ∧ b = d.st ∧ (∃ s, eO c F d.e (cB d.al wo b.aw b.s) = .ok r.v s ∧ b' = ⟨s, Nat.lor b.wd (Nat.pow 2 i), Nat.lor b.aw wo⟩) ∧ d1.st = b' ∧ d1.sl = b :: d.sl ∧ d1.al = d.al ∧ d1.ld = d.ld ∧ d1.nx = d.nx
def wv (P : Program) (F : Fs) (N : Nat) (arr : Array Oper) (M : List Nat) (i : Nat) (d : DS) (o : Oper) (r : Rec) (d1 : DS) : Prop :=
 ∃ gb db, lC N arr o.guard = some gb ∧ ma N o.dst = some db ∧ d.i = i ∧ r.e = d.e ∧ d1.i = i + 1 ∧ d1.e = jk db r.v d.e ∧ lE P F (cH M i) i (ft P o.op) gb d r d1
inductive iu (P : Program) (F : Fs) (N : Nat) (arr : Array Oper) (M : List Nat) : Nat → DS → List Oper → List Rec → DS → Prop
 | nil {i : Nat} {d : DS} (h : d.i = i) : iu P F N arr M i d [] [] d
 | cons {i : Nat} {d d1 d' : DS} {o : Oper} {l : List Oper} {r : Rec} {rs : List Rec} (h : wv P F N arr M i d o r d1) (hr : iu P F N arr M (i + 1) d1 l rs d') : iu P F N arr M i d (o :: l) (r :: rs) d'
theorem tt {K : DS → RC} {d : DS} {x : Ex} {e' : Env} {s' : St} {m : Nat} (h : tu ⟨⟨none, none, .no⟩, m⟩ F d K = .ok x e' s') : False := by
 have h : (bif Nat.beq (Nat.lor d.st.wd m) m then (R.rec .no (fun v s => K ⟨Nat.succ d.i, jk none v d.e, ⟨s, Nat.lor d.st.wd (Nat.pow 2 d.i), Nat.lor d.st.aw m⟩, d.al, d.ld, d.st :: d.sl, d.nx⟩) (eO .no F d.e (cB d.al m d.st.aw d.st.s)) : RC) else .no [3001]) = .ok x e' s' := h
 cases hb : Nat.beq (Nat.lor d.st.wd m) m with
 | true => rw [hb] at h; cases h
 | false => rw [hb] at h; cases h
theorem xI {o : Oper} {K : DS → RC} {d : DS} {x : Ex} {e' : Env} {s' : St} {i : Nat} (h : tu ⟨cG P N arr o, cH M i⟩ F d K = .ok x e' s') (hi : d.i = i) : ∃ r d1, wv P F N arr M i d o r d1 ∧ K d1 = .ok x e' s' := by
 subst hi
 unfold tu at h
 cases hg : lC N arr o.guard with
 | none =>
  have e1 : cG P N arr o = ⟨none, none, .no⟩ := by unfold cG; rw [hg]
  rw [e1] at h
  exact (tt (K := K) (F := F) h).elim
 | some gb => cases hd : ma N o.dst with
  | none =>
   have e1 : cG P N arr o = ⟨none, none, .no⟩ := by unfold cG; rw [hg, hd]
   rw [e1] at h
   exact (tt (K := K) (F := F) h).elim
  | some db =>
   have e1 : cG P N arr o = ⟨gb, db, ft P o.op⟩ := by unfold cG; rw [hg, hd]
   rw [e1] at h
   cases hb : iA gb d.e with
   | none => rw [show (⟨gb, db, ft P o.op⟩ : CG).g = gb from rfl, hb] at h; cases h
   | some b =>
    rw [show (⟨gb, db, ft P o.op⟩ : CG).g = gb from rfl, hb] at h
    cases b with
    | false => exact ⟨⟨d.e, .ix [], .skip⟩, ⟨Nat.succ d.i, jk db (.ix []) d.e, d.st, d.al, d.ld, d.sl, d.nx⟩, ⟨gb, db, hg, hd, rfl, rfl, rfl, rfl, hb, rfl, ⟨rfl, rfl⟩, rfl, rfl, rfl⟩, h⟩
    | true =>
     simp only [cdT] at h
     match hc : fD (ft P o.op) with
     | 0 =>
      rw [hc] at h
      cases hs : eO (ft P o.op) F d.e d.st.s with
      | no w => rw [hs] at h; cases h
      | ok v s => rw [hs] at h; exact ⟨⟨d.e, v, .pure⟩, ⟨Nat.succ d.i, jk db v d.e, d.st, d.al, d.ld, d.sl, d.nx⟩, ⟨gb, db, hg, hd, rfl, rfl, rfl, rfl, hb, hc, ⟨_, _, hs⟩, ⟨rfl, rfl⟩, rfl, rfl, rfl⟩, h⟩
     | 1 =>
      rw [hc] at h
      have h : (R.rec .no (fun v _ => K ⟨Nat.succ d.i, jk db v d.e, d.st, d.al, ⟨ft P o.op, d.e, v, cH M d.i, d.i⟩ :: d.ld, d.sl, d.nx⟩) (eO (ft P o.op) F d.e (cB d.al (cH M d.i) d.st.aw d.st.s)) : RC) = .ok x e' s' := h
      cases hs : eO (ft P o.op) F d.e (cB d.al (cH M d.i) d.st.aw d.st.s) with
      | no w => rw [hs] at h; cases h
      | ok v s => rw [hs] at h; exact ⟨⟨d.e, v, .load⟩, ⟨Nat.succ d.i, jk db v d.e, d.st, d.al, ⟨ft P o.op, d.e, v, cH M d.i, d.i⟩ :: d.ld, d.sl, d.nx⟩, ⟨gb, db, hg, hd, rfl, rfl, rfl, rfl, hb, hc, ⟨rfl, rfl⟩, rfl, rfl, rfl⟩, h⟩
     | 2 =>
      rw [hc] at h
      have h : (R.rec .no (fun v s => K ⟨Nat.succ d.i, jk db v d.e, d.st, (d.i, d.nx, bQ d.nx s) :: d.al, d.ld, d.sl, d.nx.next⟩) (eO (ft P o.op) F d.e ⟨d.nx, .lf⟩) : RC) = .ok x e' s' := h
      cases hs : eO (ft P o.op) F d.e ⟨d.nx, .lf⟩ with
      | no w => rw [hs] at h; cases h
      | ok v s => rw [hs] at h; exact ⟨⟨d.e, v, .alloc d.nx (bQ d.nx s)⟩, ⟨Nat.succ d.i, jk db v d.e, d.st, (d.i, d.nx, bQ d.nx s) :: d.al, d.ld, d.sl, d.nx.next⟩, ⟨gb, db, hg, hd, rfl, rfl, rfl, rfl, hb, hc, ⟨s, hs, rfl⟩, rfl, ⟨rfl, rfl⟩, rfl, rfl, rfl⟩, h⟩
     | n + 3 =>
      rw [hc] at h
      have h : (bif Nat.beq (Nat.lor d.st.wd (cH M d.i)) (cH M d.i) then (R.rec .no (fun v s => K ⟨Nat.succ d.i, jk db v d.e, ⟨s, Nat.lor d.st.wd (Nat.pow 2 d.i), Nat.lor d.st.aw (cH M d.i)⟩, d.al, d.ld, d.st :: d.sl, d.nx⟩) (eO (ft P o.op) F d.e (cB d.al (cH M d.i) d.st.aw d.st.s)) : RC) else .no [3001]) = .ok x e' s' := h
      cases hw : Nat.beq (Nat.lor d.st.wd (cH M d.i)) (cH M d.i) with
      | false => rw [hw] at h; cases h
      | true =>
       rw [hw] at h
       simp only [cdT] at h
       cases hs : eO (ft P o.op) F d.e (cB d.al (cH M d.i) d.st.aw d.st.s) with
       | no w => rw [hs] at h; cases h
       | ok v s => rw [hs] at h; exact ⟨⟨d.e, v, .mL d.st ⟨s, Nat.lor d.st.wd (Nat.pow 2 d.i), Nat.lor d.st.aw (cH M d.i)⟩⟩, ⟨Nat.succ d.i, jk db v d.e, ⟨s, Nat.lor d.st.wd (Nat.pow 2 d.i), Nat.lor d.st.aw (cH M d.i)⟩, d.al, d.ld, d.st :: d.sl, d.nx⟩, ⟨gb, db, hg, hd, rfl, rfl, rfl, rfl, hb, fun j hj => Av hw hj, rfl, ⟨s, hs, rfl⟩, rfl, rfl, rfl, rfl, rfl⟩, h⟩
theorem rf {K : DS → RC} {x : Ex} {e' : Env} {s' : St} : ∀ (l : List Oper) (Ml : List Nat) (i : Nat) (d : DS), uH (pw P N arr l Ml) F d K = .ok x e' s' → d.i = i → (∀ j, cH Ml j = cH M (i + j)) → ∃ rs d', iu P F N arr M i d l rs d' ∧ K d' = .ok x e' s'
 | [], Ml, i, d, h, hi, hM => ⟨[], d, .nil hi, h⟩
 | o :: l, Ml, i, d, h, hi, hM => by
  have h' : tu ⟨cG P N arr o, cH Ml 0⟩ F d (fun d => uH (pw P N arr l (ib Ml)) F d K) = .ok x e' s' := h
  rw [hM 0, Nat.add_zero] at h'
  obtain ⟨r, d1, h1, h2⟩ := xI h' hi
  obtain ⟨gb, db, _, _, _, _, hi1, _⟩ := id h1
  obtain ⟨rs, d', h3, h4⟩ := rf l (ib Ml) (i + 1) d1 h2 hi1 fun j => by
   rw [show i + 1 + j = i + (j + 1) by omega, ← hM (j + 1), lu, lu, pB]
   cases Ml <;> simp
  exact ⟨r :: rs, d', .cons h1 h3, h4⟩
section
variable {i : Nat} {d d' : DS} {l : List Oper} {rs : List Rec}
theorem iu.len (h : iu P F N arr M i d l rs d') : rs.length = l.length ∧ d.i = i ∧ d'.i = i + l.length := by
 induction h with
 | nil h => exact ⟨rfl, h, h⟩
 | cons h hr ih =>
  obtain ⟨gb, db, _, _, h1, _⟩ := h
  exact ⟨by simp [ih.1], h1, by rw [ih.2.2]; simp; omega⟩
theorem iu.env (h : iu P F N arr M i d l rs d') (hN : N ≤ 2 ^ 20) : ∀ j (ej : Env), ((∃ r, rs[j]? = some r ∧ ej = r.e) ∨ (j = l.length ∧ ej = d'.e)) → ∀ t, t < 2 ^ 20 →
  (∃ m o r, m < j ∧ l[m]? = some o ∧ o.dst = some t ∧ rs[m]? = some r ∧ Tr.get V.no (slot t) ej = r.v) ∨ ((∀ m o, m < j → l[m]? = some o → o.dst ≠ some t) ∧ Tr.get V.no (slot t) ej = Tr.get V.no (slot t) d.e) := by
 induction h with
 | nil h =>
  intro j ej hj t ht
  rcases hj with ⟨r, hr, _⟩ | ⟨rfl, rfl⟩
  ·simp at hr
  ·exact .inr ⟨fun m o hm => by simp at hm, rfl⟩
 | @cons i d d1 d' o l r rs h hr ih =>
  intro j ej hj t ht
  obtain ⟨gb, db, hg, hd, _, he, _, he1, _⟩ := h
  cases j with
  | zero =>
   rcases hj with ⟨r', hr', rfl⟩ | ⟨h0, _⟩
   ·obtain rfl := oI (show some r = some r' from hr')
    exact .inr ⟨fun m o hm => absurd hm (Nat.not_lt_zero _), by rw [he]⟩
   ·simp at h0
  | succ j =>
   have hj' : (∃ r, rs[j]? = some r ∧ ej = r.e) ∨ (j = l.length ∧ ej = d'.e) := by
    rcases hj with ⟨r', hr', h2⟩ | ⟨h0, h2⟩
    ·exact .inl ⟨r', by simpa using hr', h2⟩
    ·exact .inr ⟨by simpa using h0, h2⟩
   rcases ih j ej hj' t ht with ⟨m, o', r', a1, a2, a3, a4, a5⟩ | ⟨a1, a2⟩
   ·exact .inl ⟨m + 1, o', r', by omega, by simpa using a2, a3, by simpa using a4, a5⟩
   ·rw [he1] at a2
    by_cases hdt : o.dst = some t
    ·refine .inl ⟨0, o, r, by omega, rfl, hdt, rfl, ?_⟩
     rw [a2]
     rw [hdt] at hd
     simp only [ma] at hd
     cases hb : Nat.blt t N with
     | false => rw [hb] at hd; cases hd
     | true => rw [hb] at hd; obtain rfl := oI hd; exact dv _ _
    ·refine .inr ⟨fun m o' hm ho' => ?_, ?_⟩
     ·cases m with
      | zero => obtain rfl := oI (show some o = some o' from ho'); exact hdt
      | succ m => exact a1 m o' (by omega) (by simpa using ho')
     ·rw [a2]
      cases hod : o.dst with
      | none => rw [hod] at hd; obtain rfl := oI hd; rfl
      | some t' =>
       rw [hod] at hd
       simp only [ma] at hd
       cases hb : Nat.blt t' N with
       | false => rw [hb] at hd; cases hd
       | true =>
        rw [hb] at hd
        obtain rfl := oI hd
        have hb : t' < N := nB hb
        have ht' : t' < 2 ^ 20 := Nat.lt_of_lt_of_le hb hN
        exact dw (slot t') (slot t) _ fun e0 => hdt (by rw [hod, mO ht' ht e0])
theorem iu.mA (h : iu P F N arr M i d l rs d') : (∃ n, d'.al = n ++ d.al ∧ ∀ p ∈ n, i ≤ p.1) ∧ (∀ x ∈ d.ld, x ∈ d'.ld) ∧ (∀ b ∈ d.st :: d.sl, b ∈ d'.st :: d'.sl) := by
 induction h with
 | nil h => exact ⟨⟨[], rfl, nofun⟩, fun _ h => h, fun _ h => h⟩
 | @cons i d d1 d' o l r rs h hr ih =>
  obtain ⟨gb, db, _, _, hi, _, _, _, hk⟩ := h
  obtain ⟨⟨n, h1, h1'⟩, h2, h3⟩ := ih
  unfold lE at hk
  split at hk
  ·obtain ⟨_, _, ⟨k1, k2⟩, k3, k4, _⟩ := hk
   exact ⟨⟨n, by rw [h1, k3], fun p hp => by have := h1' p hp; omega⟩, fun x hx => h2 x (by rw [k4]; exact hx), fun b hb => h3 b (by rw [k1, k2]; exact hb)⟩
  ·obtain ⟨_, _, _, ⟨k1, k2⟩, k3, k4, _⟩ := hk
   exact ⟨⟨n, by rw [h1, k3], fun p hp => by have := h1' p hp; omega⟩, fun x hx => h2 x (by rw [k4]; exact hx), fun b hb => h3 b (by rw [k1, k2]; exact hb)⟩
  ·obtain ⟨_, _, ⟨k1, k2⟩, k3, k4, _⟩ := hk
   exact ⟨⟨n, by rw [h1, k3], fun p hp => by have := h1' p hp; omega⟩, fun x hx => h2 x (by rw [k4]; exact List.mem_cons_of_mem _ hx), fun b hb => h3 b (by rw [k1, k2]; exact hb)⟩
  ·rename_i q ob _
   obtain ⟨_, _, _, _, ⟨k1, k2⟩, k3, k4, _⟩ := hk
   exact ⟨⟨n ++ [(i, q, ob)], by rw [h1, k3]; simp, fun p hp => by
    rcases List.mem_append.1 hp with hp | hp
    ·have := h1' p hp; omega
    ·rw [List.mem_singleton] at hp; subst hp; exact Nat.le_refl _⟩, fun x hx => h2 x (by rw [k4]; exact hx), fun b hb => h3 b (by rw [k1, k2]; exact hb)⟩
  ·obtain ⟨_, _, k0, _, k1, k2, k3, k4, _⟩ := hk
   exact ⟨⟨n, by rw [h1, k3], fun p hp => by have := h1' p hp; omega⟩, fun x hx => h2 x (by rw [k4]; exact hx), fun b hb => h3 b (by
    rw [k1, k2, k0]; exact List.mem_cons_of_mem _ hb)⟩
end
end Ci
namespace Ci
open Go
variable {P : Program} {F : Fs} {N : Nat} {arr : Array Oper} {M : List Nat} {i : Nat} {d d' : DS} {l : List Oper} {rs : List Rec}
def tn (rs : List Rec) (q : Nat) : Prop := ∃ r b b', rs[q]? = some r ∧ r.k = .mL b b'
theorem vy {r : Rec} {rs : List Rec} : tn (r :: rs) 0 ↔ ∃ b b', r.k = .mL b b' := ⟨fun ⟨r', b, b', h, hk⟩ => by
 obtain rfl := oI (show some r = some r' from h); exact ⟨b, b', hk⟩, fun ⟨b, b', hk⟩ => ⟨r, b, b', rfl, hk⟩⟩
theorem sa {r : Rec} {rs : List Rec} {q : Nat} : tn (r :: rs) (q + 1) ↔ tn rs q := ⟨fun ⟨r', b, b', h, hk⟩ => ⟨r', b, b', by simpa using h, hk⟩, fun ⟨r', b, b', h, hk⟩ => ⟨r', b, b', by simpa using h, hk⟩⟩
theorem iu.split (h : iu P F N arr M i d l rs d') : ∀ j, j ≤ l.length → ∃ dj, iu P F N arr M i d (l.take j) (rs.take j) dj ∧ iu P F N arr M (i + j) dj (l.drop j) (rs.drop j) d' := by
 induction h with
 | @nil i d h => intro j hj; simp at hj; subst hj; exact ⟨d, .nil h, .nil h⟩
 | @cons i d d1 d' o l r rs h hr ih =>
  intro j hj
  cases j with
  | zero => obtain ⟨gb, db, _, _, hi, _⟩ := id h; exact ⟨d, .nil hi, .cons h hr⟩
  | succ j =>
   obtain ⟨dj, h1, h2⟩ := ih j (by simpa using hj)
   rw [show i + 1 + j = i + (j + 1) by omega] at h2
   exact ⟨dj, .cons h h1, h2⟩
theorem vz {o : Oper} {r : Rec} {d1 : DS} (h : wv P F N arr M i d o r d1) : (∃ b b', r.k = .mL b b' ∧ b = d.st ∧ d1.st = b' ∧ b'.wd = Nat.lor d.st.wd (Nat.pow 2 i) ∧ b'.aw = Nat.lor d.st.aw (cH M i)) ∨ ((∀ b b', r.k ≠ .mL b b') ∧ d1.st = d.st) := by
 obtain ⟨gb, db, _, _, hi, _, _, _, hk⟩ := h
 unfold lE at hk
 split at hk
 ·rename_i e; exact .inr ⟨fun b b' => by rw [e]; exact nofun, hk.2.2.1.1⟩
 ·rename_i e; exact .inr ⟨fun b b' => by rw [e]; exact nofun, hk.2.2.2.1.1⟩
 ·rename_i e; exact .inr ⟨fun b b' => by rw [e]; exact nofun, hk.2.2.1.1⟩
 ·rename_i e; exact .inr ⟨fun b b' => by rw [e]; exact nofun, hk.2.2.2.2.1.1⟩
 ·rename_i b b' e
  obtain ⟨_, _, k0, ⟨s, _, k1⟩, k2, _⟩ := hk
  subst k0
  exact .inl ⟨_, b', e, rfl, k2, by rw [k1], by rw [k1]⟩
theorem iu.yB (h : iu P F N arr M i d l rs d') (m : Nat) : (bit d'.st.wd m = true ↔ bit d.st.wd m = true ∨ ∃ q, m = i + q ∧ tn rs q) ∧ (bit d'.st.aw m = true ↔ bit d.st.aw m = true ∨ ∃ q, tn rs q ∧ bit (cH M (i + q)) m = true) := by
 induction h with
 | nil h => exact ⟨⟨.inl, fun h => h.elim id fun ⟨q, _, r, b, b', hr, _⟩ => by simp at hr⟩, ⟨.inl, fun h => h.elim id fun ⟨q, ⟨r, b, b', hr, _⟩, _⟩ => by simp at hr⟩⟩
 | @cons i d d1 d' o l r rs h hr ih =>
  rw [ih.1, ih.2]
  have sh : ∀ {p : Nat → Prop}, (∃ q, p (i + q) ∧ tn (r :: rs) q) ↔ (p i ∧ tn (r :: rs) 0) ∨ ∃ q, p (i + 1 + q) ∧ tn rs q := fun {p} => by
   constructor
   ·rintro ⟨q, h1, h2⟩
    cases q with
    | zero => exact .inl ⟨h1, h2⟩
    | succ q => exact .inr ⟨q, by rwa [show i + 1 + q = i + (q + 1) by omega], sa.1 h2⟩
   ·rintro (⟨h1, h2⟩ | ⟨q, h1, h2⟩)
    ·exact ⟨0, h1, h2⟩
    ·exact ⟨q + 1, by rwa [show i + (q + 1) = i + 1 + q by omega], sa.2 h2⟩
  have s1 := sh (p := fun x => m = x)
  have s2 : (∃ q, tn (r :: rs) q ∧ bit (cH M (i + q)) m = true) ↔ (bit (cH M i) m = true ∧ tn (r :: rs) 0) ∨ ∃ q, tn rs q ∧ bit (cH M (i + 1 + q)) m = true := by
   have := sh (p := fun x => bit (cH M x) m = true)
   simp only [and_comm] at this ⊢
   exact this
  rw [s1, s2, vy]
  rcases vz h with ⟨b, b', k1, k2, k3, k4, k5⟩ | ⟨k1, k2⟩
  ·rw [k3, k4, k5, gR, gR, Bool.or_eq_true, Bool.or_eq_true, kI, decide_eq_true_eq]
   have ht : ∃ b b', r.k = .mL b b' := ⟨b, b', k1⟩
   constructor
   ·constructor
    ·rintro ((h | h) | h)
     ·exact .inl h
     ·exact .inr (.inl ⟨h.symm, ht⟩)
     ·exact .inr (.inr h)
    ·rintro (h | (h | h))
     ·exact .inl (.inl h)
     ·exact .inl (.inr h.1.symm)
     ·exact .inr h
   ·constructor
    ·rintro ((h | h) | h)
     ·exact .inl h
     ·exact .inr (.inl ⟨h, ht⟩)
     ·exact .inr (.inr h)
    ·rintro (h | (h | h))
     ·exact .inl (.inl h)
     ·exact .inl (.inr h.1)
     ·exact .inr h
  ·rw [k2]
   have hn : ¬ ∃ b b', r.k = .mL b b' := fun ⟨b, b', e⟩ => k1 b b' e
   constructor
   ·exact ⟨fun h => h.imp id .inr, fun h => h.imp id fun h => h.elim (fun h => absurd h.2 hn) id⟩
   ·exact ⟨fun h => h.imp id .inr, fun h => h.imp id fun h => h.elim (fun h => absurd h.2 hn) id⟩
theorem iu.made (h : iu P F N arr M i d l rs d') : d.nx.nat ≤ d'.nx.nat ∧ (∀ p ∈ d'.al, p ∈ d.al ∨ (d.nx.nat ≤ p.2.1.nat ∧ p.2.1.nat < d'.nx.nat ∧ ∃ q r, p.1 = i + q ∧ rs[q]? = some r ∧ r.k = .alloc p.2.1 p.2.2)) ∧ ((∀ p ∈ d.al, p.2.1.nat < d.nx.nat) → ny d.al → ny d'.al) := by
 induction h with
 | nil h => exact ⟨Nat.le_refl _, fun p hp => .inl hp, fun _ h => h⟩
 | @cons i d d1 d' o l r rs h hr ih =>
  obtain ⟨h1, h2, h3⟩ := ih
  obtain ⟨gb, db, _, _, hi, _, _, _, hk⟩ := h
  have same : d1.al = d.al → d1.nx = d.nx → d.nx.nat ≤ d'.nx.nat ∧ (∀ p ∈ d'.al, p ∈ d.al ∨ (d.nx.nat ≤ p.2.1.nat ∧ p.2.1.nat < d'.nx.nat ∧ ∃ q r', p.1 = i + q ∧ (r :: rs)[q]? = some r' ∧ r'.k = .alloc p.2.1 p.2.2)) ∧ ((∀ p ∈ d.al, p.2.1.nat < d.nx.nat) → ny d.al → ny d'.al) := fun e1 e2 => by
   rw [e2] at h1 h2 h3
   rw [e1] at h2 h3
   refine ⟨h1, fun p hp => (h2 p hp).imp id fun ⟨a, b, q, r', c1, c2, c3⟩ => ⟨a, b, q + 1, r', by omega, by simpa using c2, c3⟩, h3⟩
  unfold lE at hk
  split at hk
  ·exact same hk.2.2.2.1 hk.2.2.2.2.2
  ·exact same hk.2.2.2.2.1 hk.2.2.2.2.2.2
  ·exact same hk.2.2.2.1 hk.2.2.2.2.2
  ·rename_i q ob e
   obtain ⟨_, _, _, k0, _, k1, _, k2⟩ := hk
   have hnx : d1.nx.nat = d.nx.nat + 1 := by rw [k2]; exact df.jV _
   refine ⟨by omega, fun p hp => ?_, fun ha hb => h3 (fun p hp => ?_) ?_⟩
   ·rcases h2 p hp with hp' | ⟨a, b, q', r', c1, c2, c3⟩
    ·rw [k1] at hp'
     rcases List.mem_cons.1 hp' with rfl | hp'
     ·exact .inr ⟨by rw [k0]; exact Nat.le_refl _, by show q.nat < _; rw [k0]; omega, 0, r, rfl, rfl, e⟩
     ·exact .inl hp'
    ·exact .inr ⟨by omega, b, q' + 1, r', by omega, by simpa using c2, c3⟩
   ·rw [k1] at hp
    rcases List.mem_cons.1 hp with rfl | hp
    ·show q.nat < _; rw [k0]; omega
    ·have := ha p hp; omega
   ·rw [k1]
    unfold ny at hb ⊢
    rw [List.map_cons, List.nodup_cons]
    refine ⟨fun hm => ?_, hb⟩
    obtain ⟨p, hp, e0⟩ := List.mem_map.1 hm
    have := ha p hp
    rw [e0, k0] at this
    exact absurd this (Nat.lt_irrefl _)
  ·exact same hk.2.2.2.2.2.2.1 hk.2.2.2.2.2.2.2.2
theorem oJ (b : df) : b.nat ≤ b.next.nat := by rw [df.jV]; omega
theorem lV : ∀ (ops : List DG) (b : df), b.nat ≤ (j6 ops b).nat
 | [], b => Nat.le_refl _
 | o :: ops, b => by
  have e1 : j6 (o :: ops) b = bif Nat.beq (fD o.c.op) 2 then j6 ops b.next else j6 ops b := rfl
  rw [e1]
  cases Nat.beq (fD o.c.op) 2 with
  | true => exact Nat.le_trans (oJ b) (lV ops _)
  | false => exact lV ops b
theorem om : ∀ (ops : List DG) {b c : df}, b.nat ≤ c.nat → (j6 ops b).nat ≤ (j6 ops c).nat
 | [], b, c, h => h
 | o :: ops, b, c, h => by
  have e1 : ∀ b, j6 (o :: ops) b = bif Nat.beq (fD o.c.op) 2 then j6 ops b.next else j6 ops b := fun _ => rfl
  rw [e1, e1]
  cases Nat.beq (fD o.c.op) 2 with
  | true => exact om ops (by rw [df.jV, df.jV]; omega)
  | false => exact om ops h
theorem iu.FM (h : iu P F N arr M i d l rs d') : ∀ Ml, d'.nx.nat ≤ (j6 (pw P N arr l Ml) d.nx).nat := by
 induction h with
 | nil h => intro Ml; exact Nat.le_refl _
 | @cons i d d1 d' o l r rs h hr ih =>
  intro Ml
  obtain ⟨gb, db, hg, hd, hi, _, _, _, hk⟩ := h
  have e1 : j6 (pw P N arr (o :: l) Ml) d.nx = bif Nat.beq (fD (cG P N arr o).op) 2 then j6 (pw P N arr l (ib Ml)) d.nx.next else j6 (pw P N arr l (ib Ml)) d.nx := rfl
  have e2 : (cG P N arr o).op = ft P o.op := by unfold cG; rw [hg, hd]
  rw [e1, e2]
  have same : d1.nx = d.nx → d'.nx.nat ≤ (bif Nat.beq (fD (ft P o.op)) 2 then j6 (pw P N arr l (ib Ml)) d.nx.next else j6 (pw P N arr l (ib Ml)) d.nx).nat := fun e => by
   have := ih (ib Ml)
   rw [e] at this
   cases Nat.beq (fD (ft P o.op)) 2 with
   | true => exact Nat.le_trans this (om _ (oJ _))
   | false => exact this
  unfold lE at hk
  split at hk
  ·exact same hk.2.2.2.2.2
  ·exact same hk.2.2.2.2.2.2
  ·exact same hk.2.2.2.2.2
  ·obtain ⟨_, k9, _, k0, _, k1, _, k2⟩ := hk
   have := ih (ib Ml)
   rw [k2] at this
   rw [k9]
   exact this
  ·exact same hk.2.2.2.2.2.2.2.2
end Ci
namespace Ci
open Go
variable {P : Program} {F : Fs} {N : Nat} {arr : Array Oper} {w0 : World} {T : Nat → Prop}
theorem As {a b : Value} (h : CE a b = true) : a = b := by
 unfold CE at h
 split at h
 ·rfl
 ·rw [Bool.and_eq_true, Nat.beq_eq, Nat.beq_eq] at h; rw [h.1, h.2]
 ·rfl
 ·rfl
 ·rfl
 ·cases h
theorem yW {a b : Int} (h : Bh a b = true) : a = b := by rw [qw] at h; exact of_decide_eq_true h
mutual
theorem uB : ∀ (n : Nat) {a b : V}, wz n a b = true → a = b
 | 0, _, _, h => by cases h
 | n + 1, a, b, h => by
  unfold wz at h
  split at h
  ·rw [Bool.and_eq_true] at h; rw [sB h.1, yW h.2]
  ·rw [beq_iff_eq] at h; rw [h]
  ·rw [Bool.and_eq_true, Nat.beq_eq, Nat.beq_eq] at h; rw [h.1, h.2]
  ·rw [As h]
  ·rw [Bool.and_eq_true, Nat.beq_eq] at h; rw [df.beq_eq h.1, h.2]
  ·simp only [Bool.and_eq_true, Nat.beq_eq, beq_iff_eq] at h
   rw [df.beq_eq h.1, h.2.1, h.2.2.1, h.2.2.2.1, h.2.2.2.2]
  ·rfl
  ·rw [df.beq_eq h]
  ·simp only [Bool.and_eq_true, Nat.beq_eq] at h
   rw [h.1, mJ n h.2.1, mJ n h.2.2]
  ·rw [Bool.and_eq_true, Nat.beq_eq] at h; rw [h.1, uB n h.2]
  ·rw [mJ n h]
  ·rw [mJ n h]
  ·cases h
theorem mJ : ∀ (n : Nat) {a b : List V}, wz.py n a b = true → a = b
 | 0, _, _, h => by simp [wz.py] at h
 | n + 1, [], [], h => rfl
 | n + 1, x :: xs, y :: ys, h => by
  have h : (wz n x y && wz.py n xs ys) = true := by simpa [wz.py] using h
  rw [Bool.and_eq_true] at h
  rw [uB n h.1, mJ n h.2]
 | n + 1, [], y :: ys, h => by simp [wz.py] at h
 | n + 1, x :: xs, [], h => by simp [wz.py] at h
end
theorem zh (a b i : Nat) : bit (Nat.land a b) i = (bit a i && bit b i) := by
 rw [jd, jd, jd]; exact Nat.testBit_and ..
theorem BG {a b : Nat} (h : ∀ i, bit a i = true → bit b i = true) : Nat.beq (Nat.lor a b) b = true := by
 rw [Nat.beq_eq]
 apply Nat.eq_of_testBit_eq
 intro i
 rw [← jd, ← jd, gR]
 cases ha : bit a i with
 | true => rw [h i ha]; rfl
 | false => rfl
def iE (b : SL) : List Rec → SL
 | [] => b
 | r :: rs => iE (match r.k with
  | .mL _ b' => b'
  | _ => b) rs
theorem nO (b : SL) : ∀ (xs ys : List Rec), iE b (xs ++ ys) = iE (iE b xs) ys
 | [], ys => rfl
 | x :: xs, ys => by simp only [List.cons_append, iE]; exact nO _ xs ys
theorem oB {b : SL} : ∀ {rs : List Rec}, (∀ q, ¬ tn rs q) → iE b rs = b
 | [], _ => rfl
 | r :: rs, h => by
  have h0 : ∀ b1 b', r.k ≠ .mL b1 b' := fun b1 b' e => h 0 (vy.2 ⟨b1, b', e⟩)
  have e1 : iE b (r :: rs) = iE b rs := by
   show iE (match r.k with
    | .mL _ b' => b'
    | _ => b) rs = _
   cases hk : r.k with
   | mL b1 b' => exact absurd hk (h0 _ _)
   | _ => rfl
  rw [e1]
  exact oB fun q hq => h (q + 1) (sa.2 hq)
variable {M : List Nat} {i : Nat} {d d' : DS} {l : List Oper} {rs : List Rec}
theorem iu.eV (h : iu P F N arr M i d l rs d') : d'.st = iE d.st rs := by
 induction h with
 | nil h => rfl
 | @cons i d d1 d' o l r rs h hr ih =>
  rw [ih]
  simp only [iE]
  rcases vz h with ⟨b, b', k1, k2, k3, _⟩ | ⟨k1, k2⟩
  ·rw [k1]; simp only; rw [k3]
  ·rw [k2]
   split
   ·rename_i b1 b' e; exact absurd e (k1 _ _)
   ·rfl
theorem lF {q p : Nat} : tn (rs.take p) q ↔ tn rs q ∧ q < p := by
 constructor
 ·rintro ⟨r, b, b', h, hk⟩
  rw [List.getElem?_take] at h
  split at h
  ·rename_i hlt; exact ⟨⟨r, b, b', h, hk⟩, hlt⟩
  ·cases h
 ·rintro ⟨⟨r, b, b', h, hk⟩, hlt⟩
  exact ⟨r, b, b', by rw [List.getElem?_take, if_pos hlt]; exact h, hk⟩
theorem BH {al : AL} {m m' x : Nat} {s : St} (hn : ny al) (hm : ∀ p ∈ al, bit m p.1 = true → bit m' p.1 = true) (hx : ∀ p ∈ al, bit x p.1 = false → bQ p.2.1 s = .no) : Sub (cB al m x s) (cB al m' x s) := fun r hr => by
 by_cases hp : ∃ p ∈ al, p.2.1 = r
 ·obtain ⟨p, hp, rfl⟩ := hp
  rw [fm hn hp] at hr ⊢
  rw [fm hn hp]
  cases h1 : bit x p.1 with
  | true => simp
  | false =>
   rw [h1] at hr
   cases h2 : bit m p.1 with
   | true => rw [hm p hp h2]
   | false =>
    rw [h2] at hr
    simp only [Bool.false_and, cdF] at hr
    exact absurd (hx p hp h1) hr
 ·rw [fa fun p hp' e => hp ⟨p, hp', e⟩, fa fun p hp' e => hp ⟨p, hp', e⟩]
structure Cx (P : Program) (F : Fs) (N : Nat) (arr : Array Oper) (all : List Oper) (e0 : Env) (s0 : St) (rs : List Rec) (dF : DS) : Prop where
 hF : ph P F
 hN : N ≤ 2 ^ 20
 hA : arr.toList = all
 wX : AE all arr
 runs : iu P F N arr (eD all []) 0 (mn (pw P N arr all (eD all [])) e0 s0) all rs dF
 FN : ∀ st ∈ dF.st :: dF.sl, ∀ x ∈ dF.ld, yM F dF.al dF.st.wd x st = true
section
variable {all : List Oper} {e0 : Env} {s0 : St} {dF : DS} {D : Nat → Prop}
noncomputable abbrev FO (P : Program) (N : Nat) (arr : Array Oper) (all : List Oper) (e0 : Env) (s0 : St) : SL := (mn (pw P N arr all (eD all [])) e0 s0).st
noncomputable abbrev eV (P : Program) (N : Nat) (arr : Array Oper) (all : List Oper) (e0 : Env) (s0 : St) (rs : List Rec) (p : Nat) : SL := iE (FO P N arr all e0 s0) (rs.take p)
theorem Cx.nd (C : Cx P F N arr all e0 s0 rs dF) : ny dF.al := C.runs.made.2.2 (fun p hp => by cases hp) (by unfold ny mn; exact List.nodup_nil)
theorem Cx.made (C : Cx P F N arr all e0 s0 rs dF) {p : Nat × df × O} (hp : p ∈ dF.al) : s0.n.nat ≤ p.2.1.nat ∧ p.2.1.nat < (j6 (pw P N arr all (eD all [])) s0.n).nat ∧ ∃ r, rs[p.1]? = some r ∧ r.k = .alloc p.2.1 p.2.2 := by
 rcases C.runs.made.2.1 p hp with h | ⟨h1, h2, q, r, h3, h4, h5⟩
 ·cases h
 ·refine ⟨h1, Nat.lt_of_lt_of_le h2 (C.runs.FM _), r, ?_, h5⟩
  rw [h3, Nat.zero_add]; exact h4
theorem Cx.wd (C : Cx P F N arr all e0 s0 rs dF) (p m : Nat) (hp : p ≤ all.length) : bit (eV P N arr all e0 s0 rs p).wd m = true ↔ tn rs m ∧ m < p := by
 obtain ⟨dj, h1, _⟩ := C.runs.split p hp
 rw [show eV P N arr all e0 s0 rs p = dj.st from h1.eV.symm, (h1.yB m).1]
 constructor
 ·rintro (h | ⟨q, rfl, hq⟩)
  ·rw [show (mn (pw P N arr all (eD all [])) e0 s0).st.wd = 0 from rfl, iq] at h; cases h
  ·rw [Nat.zero_add]; exact lF.1 hq
 ·intro h; exact .inr ⟨m, (Nat.zero_add m).symm, lF.2 h⟩
theorem Cx.aw (C : Cx P F N arr all e0 s0 rs dF) (p m : Nat) (hp : p ≤ all.length) : bit (eV P N arr all e0 s0 rs p).aw m = true ↔ ∃ q, tn rs q ∧ q < p ∧ bit (cH (eD all []) q) m = true := by
 obtain ⟨dj, h1, _⟩ := C.runs.split p hp
 rw [show eV P N arr all e0 s0 rs p = dj.st from h1.eV.symm, (h1.yB m).2]
 constructor
 ·rintro (h | ⟨q, hq, hb⟩)
  ·rw [show (mn (pw P N arr all (eD all [])) e0 s0).st.aw = 0 from rfl, iq] at h; cases h
  ·rw [Nat.zero_add] at hb; exact ⟨q, (lF.1 hq).1, (lF.1 hq).2, hb⟩
 ·rintro ⟨q, h1, h2, h3⟩; exact .inr ⟨q, lF.2 ⟨h1, h2⟩, by rw [Nat.zero_add]; exact h3⟩
theorem Cx.mem (C : Cx P F N arr all e0 s0 rs dF) (p : Nat) (hp : p ≤ all.length) : eV P N arr all e0 s0 rs p ∈ dF.st :: dF.sl := by
 obtain ⟨dj, h1, h2⟩ := C.runs.split p hp
 rw [show eV P N arr all e0 s0 rs p = dj.st from h1.eV.symm]
 exact h2.mA.2.2 _ (List.mem_cons_self ..)
theorem Cx.wall (C : Cx P F N arr all e0 s0 rs dF) (m : Nat) : bit dF.st.wd m = true ↔ tn rs m := by
 rw [(C.runs.yB m).1]
 constructor
 ·rintro (h | ⟨q, rfl, hq⟩)
  ·rw [show (mn (pw P N arr all (eD all [])) e0 s0).st.wd = 0 from rfl, iq] at h; cases h
  ·rw [Nat.zero_add]; exact hq
 ·intro h; exact .inr ⟨m, (Nat.zero_add m).symm, h⟩
end
structure gT (P : Program) (N : Nat) (arr : Array Oper) (w0 : World) (T : Nat → Prop) (all : List Oper) (e0 : Env) (s0 : St) (rs : List Rec) (dF : DS) (θ0 : Th) (D : Nat → Prop) (a : Act) (w : World) (θ : Th) (dm p : Nat) : Prop where
 hp : p ≤ all.length
 turns : ∀ q, tn rs q → (D q ↔ q < p)
 mask : ∀ i, bit dm i = true ↔ D i
 rel : Rel w0 T θ (cB dF.al dm (eV P N arr all e0 s0 rs p).aw (eV P N arr all e0 s0 rs p).s) w
 ext : Ext s0 θ0 θ
 le : θ0.le θ
 free : ∀ x ∈ dF.al, ¬ D x.1 → θ x.2.1 = none
 gone : ∀ x ∈ dF.al, bit (eV P N arr all e0 s0 rs p).aw x.1 = false → bQ x.2.1 (eV P N arr all e0 s0 rs p).s = .no
 n : (j6 (pw P N arr all (eD all [])) s0.n).nat ≤ (eV P N arr all e0 s0 rs p).s.n.nat
 done : ∀ (j : Nat) (o : Oper) (r : Rec) (t : Nat), all[j]? = some o → rs[j]? = some r → D j → o.dst = some t → r.v ≠ .no → ∃ x, a.tmps[t]? = some x ∧ Rv θ r.v x
 vM : ∀ t, t < 2 ^ 20 → (∀ (j : Nat) (o : Oper), all[j]? = some o → D j → o.dst ≠ some t) → ∀ v, Tr.get V.no (slot t) e0 = v → v ≠ .no → ∃ x, a.tmps[t]? = some x ∧ Rv θ v x
 closed : ∀ i, D i → ∀ j, tc all j i → D j
 lt : ∀ i, D i → i < all.length
 size : a.tmps.size = N
 defers : zr θ e0 a.defers
section
variable {all : List Oper} {e0 : Env} {s0 : St} {dF : DS} {D : Nat → Prop} {a : Act} {w : World} {θ θ0 : Th} {dm p : Nat}
theorem gT.slot (C : Cx P F N arr all e0 s0 rs dF) (I : gT P N arr w0 T all e0 s0 rs dF θ0 D a w θ dm p) {i : Nat} {o : Oper} {r : Rec} (ho : all[i]? = some o) (hr : rs[i]? = some r) (hi : ¬ D i) (ha : ∀ j, tc all j i → D j) {t : Nat} (ht : t < 2 ^ 20)
  (hs : (.tmp t) ∈ o.op.operands.toList ∨ ∃ j w, o.guard = some (j, w) ∧ rR arr j = some t) {v : V} (hv : Tr.get V.no (slot t) r.e = v) (hn : v ≠ .no) : ∃ x, a.tmps[t]? = some x ∧ Rv θ v x := by
 have hsl := C.wX.slot i o t ho hs
 rcases C.runs.env C.hN i r.e (.inl ⟨r, hr, rfl⟩) t ht with ⟨m, o', r', h1, h2, h3, h4, h5⟩ | ⟨h1, h2⟩
 ·rw [hv] at h5
  subst h5
  rcases hsl m o' h2 h3 with e | hb | hb
  ·omega
  ·exact I.done m o' r' t h2 h4 (ha m (gC hb)) h3 hn
  ·have := C.wX.lt (gC hb); omega
 ·rw [hv] at h2
  refine I.vM t ht (fun j o' hj hD hd => ?_) v h2.symm hn
  rcases hsl j o' hj hd with e | hb | hb
  ·subst e; exact hi hD
  ·have := C.wX.lt (gC hb)
   exact h1 j o' this hj hd
  ·exact hi (I.closed j hD i (gC hb))
theorem gT.put (C : Cx P F N arr all e0 s0 rs dF) (I : gT P N arr w0 T all e0 s0 rs dF θ0 D a w θ dm p) {i : Nat} {o : Oper} {r : Rec} (ho : all[i]? = some o) (hr : rs[i]? = some r) {db : Option df} (hd : ma N o.dst = some db) {θ' : Th} (hle : θ.le θ') {x : Value} (hx : Rv θ' r.v x) :
  (∀ (j : Nat) (o' : Oper) (r' : Rec) (t : Nat), all[j]? = some o' → rs[j]? = some r' → (D j ∨ j = i) → o'.dst = some t → r'.v ≠ .no → ∃ y, (a.put o.dst x).tmps[t]? = some y ∧ Rv θ' r'.v y) ∧
  (∀ t, t < 2 ^ 20 → (∀ (j : Nat) (o' : Oper), all[j]? = some o' → (D j ∨ j = i) → o'.dst ≠ some t) → ∀ v, Tr.get V.no (Ci.slot t) e0 = v → v ≠ .no → ∃ y, (a.put o.dst x).tmps[t]? = some y ∧ Rv θ' v y) ∧ (a.put o.dst x).tmps.size = N ∧ zr θ' e0 (a.put o.dst x).defers := by
 have other : ∀ t, o.dst ≠ some t → (a.put o.dst x).tmps[t]? = a.tmps[t]? := fun t ht => by
  cases hod : o.dst with
  | none => rfl
  | some d =>
   show (a.tmps.setIfInBounds d x)[t]? = _
   rw [Array.getElem?_setIfInBounds_ne fun e => ht (by rw [hod, e])]
 refine ⟨fun j o' r' t hj hr' hD hdt hn => ?_, fun t ht hno v hv hn => ?_, ?_, ?_⟩
 ·by_cases hji : j = i
  ·subst hji
   rw [ho] at hj; obtain rfl := oI hj
   rw [hr] at hr'; obtain rfl := oI hr'
   rw [hdt] at hd ⊢
   simp only [ma] at hd
   cases hb : Nat.blt t N with
   | false => rw [hb] at hd; cases hd
   | true =>
    have hb : t < N := nB hb
    exact ⟨x, by simp [Act.put, I.size, hb], hx⟩
  ·have hD := hD.resolve_right hji
   have hne : o.dst ≠ some t := fun e => hji (C.wX.EN j i o' o t hj ho hdt e)
   rw [other t hne]
   obtain ⟨y, h1, h2⟩ := I.done j o' r' t hj hr' hD hdt hn
   exact ⟨y, h1, h2.le hle⟩
 ·rw [other t fun e => hno i o ho (.inr rfl) e]
  obtain ⟨y, h1, h2⟩ := I.vM t ht (fun j o' hj hD => hno j o' hj (.inl hD)) v hv hn
  exact ⟨y, h1, h2.le hle⟩
 ·cases hod : o.dst with
  | none => exact I.size
  | some d => simp [Act.put, I.size]
 ·cases hod : o.dst with
  | none => exact I.defers.le hle
  | some d => exact I.defers.le hle
end
end Ci
namespace Ci
open Go
variable {P : Program} {F : Fs} {N : Nat} {arr : Array Oper} {w0 : World} {T : Nat → Prop} {Q : Exit → Act → World → Prop}
variable {all : List Oper} {e0 : Env} {s0 : St} {rs : List Rec} {dF : DS} {D : Nat → Prop} {a : Act} {w : World} {θ θ0 : Th} {dm p : Nat}
theorem Cx.at (C : Cx P F N arr all e0 s0 rs dF) {i : Nat} {o : Oper} {r : Rec} (ho : all[i]? = some o) (hr : rs[i]? = some r) : ∃ di d1, wv P F N arr (eD all []) i di o r d1 ∧ di.st = eV P N arr all e0 s0 rs i ∧ d1.st = eV P N arr all e0 s0 rs (i + 1) ∧ (∃ n, dF.al = n ++ di.al ∧ ∀ x ∈ n, i ≤ x.1) ∧ (∀ x ∈ d1.al, x ∈ dF.al) ∧ ∀ x ∈ d1.ld, x ∈ dF.ld := by
 have hlt : i < all.length := (List.getElem?_eq_some_iff.1 ho).1
 obtain ⟨di, h1, h2⟩ := C.runs.split i (by omega)
 have hst : di.st = eV P N arr all e0 s0 rs i := h1.eV
 have e1 : all.drop i = o :: all.drop (i + 1) := by
  rw [List.drop_eq_getElem_cons hlt]; congr 1
  exact oI ((List.getElem?_eq_getElem hlt).symm.trans ho)
 have hltr : i < rs.length := (List.getElem?_eq_some_iff.1 hr).1
 have e2 : rs.drop i = r :: rs.drop (i + 1) := by
  rw [List.drop_eq_getElem_cons hltr]; congr 1
  exact oI ((List.getElem?_eq_getElem hltr).symm.trans hr)
 rw [Nat.zero_add, e1, e2] at h2
 obtain ⟨k1, _, _⟩ := h2.mA
 cases h2 with
 | @cons _ _ d1 _ _ _ _ _ h hr2 =>
  obtain ⟨⟨n, q1, _⟩, q2, _⟩ := hr2.mA
  refine ⟨di, d1, h, hst, ?_, k1, fun x hx => by rw [q1]; exact List.mem_append_right _ hx, q2⟩
  have e3 : rs.take (i + 1) = rs.take i ++ [r] := by
   rw [List.take_add_one, hr]; rfl
  show d1.st = iE _ (rs.take (i + 1))
  obtain ⟨gb, db, _, _, _, _, hi1, _⟩ := id h
  have := (iu.cons h (.nil hi1)).eV
  rw [this, e3, nO, hst]
theorem gT.next (C : Cx P F N arr all e0 s0 rs dF) (I : gT P N arr w0 T all e0 s0 rs dF θ0 D a w θ dm p) {i : Nat} {o : Oper} {r : Rec} (ho : all[i]? = some o) (hr : rs[i]? = some r) (hi : ¬ D i) (ha : ∀ j, tc all j i → D j) {db : Option df} (hd : ma N o.dst = some db) {θ' : Th} (hle : θ.le θ') {x : Value} (hx : Rv θ' r.v x) {w' : World} {p' : Nat}
  (hp' : p' ≤ all.length) (ht : ∀ q, tn rs q → ((D q ∨ q = i) ↔ q < p')) (hrel : Rel w0 T θ' (cB dF.al (Nat.lor dm (Nat.pow 2 i)) (eV P N arr all e0 s0 rs p').aw (eV P N arr all e0 s0 rs p').s) w') (hext : Ext s0 θ θ')
  (hfree : ∀ x ∈ dF.al, ¬ (D x.1 ∨ x.1 = i) → θ' x.2.1 = none) (hnone : ∀ x ∈ dF.al, bit (eV P N arr all e0 s0 rs p').aw x.1 = false → bQ x.2.1 (eV P N arr all e0 s0 rs p').s = .no) (hn : (j6 (pw P N arr all (eD all [])) s0.n).nat ≤ (eV P N arr all e0 s0 rs p').s.n.nat) :
  gT P N arr w0 T all e0 s0 rs dF θ0 (fun j => D j ∨ j = i) (a.put o.dst x) w' θ' (Nat.lor dm (Nat.pow 2 i)) p' := by
 obtain ⟨h1, h2, h3, h4⟩ := I.put C ho hr hd hle hx
 refine ⟨hp', ht, fun j => ?_, hrel, fun r hr => (hext r hr).trans (I.ext r hr), Th.le_trans I.le hle, hfree, hnone, hn, fun j o' r' t a1 a2 a3 a4 a5 => h1 j o' r' t a1 a2 a3 a4 a5, fun t a1 a2 v a3 a4 => h2 t a1 (fun j o' b1 b2 => a2 j o' b1 b2) v a3 a4, fun j hj k hk => ?_, fun j hj => ?_, h3, h4⟩
 ·rw [gR, Bool.or_eq_true, I.mask, kI, decide_eq_true_eq]
  exact ⟨fun h => h.imp id fun h => h.symm, fun h => h.imp id fun h => h.symm⟩
 ·rcases hj with hj | rfl
  ·exact .inl (I.closed j hj k hk)
  ·exact .inl (ha k hk)
 ·rcases hj with hj | rfl
  ·exact I.lt j hj
  ·exact (List.getElem?_eq_some_iff.1 ho).1
theorem tO (C : Cx P F N arr all e0 s0 rs dF) {i : Nat} {r : Rec} (hr : rs[i]? = some r) (hk : ∀ q ob, r.k ≠ .alloc q ob) : ∀ x ∈ dF.al, x.1 ≠ i := fun x hx e => by
 obtain ⟨_, _, r', h1, h2⟩ := C.made hx
 rw [e, hr] at h1
 obtain rfl := oI h1
 exact hk _ _ h2
theorem gT.same (C : Cx P F N arr all e0 s0 rs dF) (I : gT P N arr w0 T all e0 s0 rs dF θ0 D a w θ dm p) {i : Nat} {o : Oper} {r : Rec} (ho : all[i]? = some o) (hr : rs[i]? = some r) (hi : ¬ D i) (ha : ∀ j, tc all j i → D j) {db : Option df} (hd : ma N o.dst = some db) (hk : ∀ q ob, r.k ≠ .alloc q ob) (hk' : ∀ b b', r.k ≠ .mL b b')
  {θ' : Th} {w' : World} {x : Value} (hx : Rv θ' r.v x) (hp : fK w0 T θ (cB dF.al dm (eV P N arr all e0 s0 rs p).aw (eV P N arr all e0 s0 rs p).s) θ' (cB dF.al dm (eV P N arr all e0 s0 rs p).aw (eV P N arr all e0 s0 rs p).s) w') :
  gT P N arr w0 T all e0 s0 rs dF θ0 (fun j => D j ∨ j = i) (a.put o.dst x) w' θ' (Nat.lor dm (Nat.pow 2 i)) p := by
 have hext : ∀ r : df, r.nat < (eV P N arr all e0 s0 rs p).s.n.nat → θ' r = θ r := fun r hr => hp.ext r (by rw [gZ]; exact hr)
 have hcnt := lV (pw P N arr all (eD all [])) s0.n
 refine I.next C ho hr hi ha hd hp.le hx I.hp (fun q hq => ?_) ?_ (fun r hr => hext r (by have := I.n; omega)) (fun x hx hD => ?_) I.gone I.n
 ·have : q ≠ i := fun e => by
   subst e
   obtain ⟨r', b, b', h1, h2⟩ := hq
   rw [hr] at h1
   obtain rfl := oI h1
   exact hk' _ _ h2
  exact ⟨fun h => (I.turns q hq).1 (h.resolve_right this), fun h => .inl ((I.turns q hq).2 h)⟩
 ·rw [jx (m' := dm) fun x hx => by
   rw [gR, kI, decide_eq_false (fun e => tO C hr hk x hx e.symm), Bool.or_false]]
  exact hp.rel
 ·rw [hext _ (Nat.lt_of_lt_of_le (C.made hx).2.1 I.n)]
  exact I.free x hx fun h => hD (.inl h)
theorem gT.guard (C : Cx P F N arr all e0 s0 rs dF) (I : gT P N arr w0 T all e0 s0 rs dF θ0 D a w θ dm p) {i : Nat} {o : Oper} {r : Rec} (ho : all[i]? = some o) (hr : rs[i]? = some r) (hi : ¬ D i) (ha : ∀ j, tc all j i → D j) {gb : Option (df × Bool)} {b : Bool} (hg : lC N arr o.guard = some gb) (hb : iA gb r.e = some b) : Region.wanted o (yielded arr a.tmps) = b := by
 unfold Region.wanted
 cases hog : o.guard with
 | none =>
  rw [hog] at hg
  obtain rfl := oI hg
  exact (oI hb)
 | some q =>
  obtain ⟨j, want⟩ := q
  rw [hog] at hg
  simp only [lC] at hg
  split at hg
  ·rename_i d hd
   cases hlt : Nat.blt d N with
   | false => rw [hlt] at hg; cases hg
   | true =>
    rw [hlt] at hg
    have hlt : d < N := nB hlt
    have hlt2 : d < 2 ^ 20 := Nat.lt_of_lt_of_le hlt C.hN
    obtain rfl := oI hg
    have hb : (match Tr.get V.no (Ci.slot d) r.e with
     | .b x => some (bif want then x else !x)
     | .ix _ => some false
     | _ => none) = some b := hb
    have hy : yielded arr a.tmps j = (match a.tmps[d]? with
     | some (.bool b) => some b
     | _ => none) := by
     unfold yielded
     rw [show ((arr[j]?).bind (·.dst)) = some d from hd]
     rfl
    show (yielded arr a.tmps j == some want) = b
    rw [hy]
    have sl := fun v => I.slot C ho hr hi ha hlt2 (.inr ⟨j, want, hog, hd⟩) (v := v)
    split at hb
    ·rename_i x hx
     obtain ⟨y, h1, h2⟩ := sl _ hx nofun
     have h2 : y = .bool x := h2
     subst h2
     rw [h1]
     obtain rfl := oI hb
     cases want <;> cases x <;> rfl
    ·rename_i xs hx
     obtain ⟨y, h1, ys, h2, _⟩ := sl _ hx nofun
     subst h2
     rw [h1]
     obtain rfl := oI hb
     rfl
    ·cases hb
  ·cases hg
theorem gT.rx (C : Cx P F N arr all e0 s0 rs dF) (I : gT P N arr w0 T all e0 s0 rs dF θ0 D a w θ dm p) {i : Nat} {o : Oper} {r : Rec} (ho : all[i]? = some o) (hr : rs[i]? = some r) (hi : ¬ D i) (ha : ∀ j, tc all j i → D j) : ∀ x ∈ o.op.operands, RX θ r.e a.eval x := fun x hx v hv hn => by
 cases x with
 | tmp t =>
  simp only [cX] at hv
  cases hb : Nat.blt t 0x100000 with
  | false => rw [hb] at hv; exact absurd hv.symm hn
  | true =>
   rw [hb] at hv
   have hb := nB hb
   obtain ⟨y, h1, h2⟩ := I.slot C ho hr hi ha (t := t) (by omega) (.inl (by simpa using hx)) hv hn
   show Rv θ v (a.tmps.getD t undef)
   rw [Array.getD_eq_getD_getElem?, h1]
   exact h2
 | const c =>
  have hv : fh c = v := hv
  subst hv
  exact lU hn
 | global g => exact absurd hv.symm hn
 | func f =>
  have hv : V.f (.func f) [] [] = v := hv
  subst hv
  exact ⟨[], [], rfl, rfl, rfl⟩
theorem kX {t : Nat} {K : Nat → CO} (h : fD (uy P t K) = 2) : ∃ n, fD (K n) = 2 := by
 unfold uy at h
 split at h
 ·exact ⟨_, h⟩
 ·cases h
theorem xC {t : Nat} {K : List V → CO} (h : fD (vu P t K) = 2) : ∃ n, fD (K n) = 2 := by
 unfold vu at h
 split at h
 ·split at h
  ·rename_i z _
   cases hb : (fO (z.cells.toList.map dQ) _ && sY (z.cells.toList.map dQ)) with
   | true => rw [hb] at h; exact ⟨_, h⟩
   | false => rw [hb] at h; cases h
  ·cases h
 ·cases h
theorem xD {t i : Nat} {K : Field → Nat → CO} (h : fD (gx P t i K) = 2) : ∃ f n, fD (K f n) = 2 := by
 unfold gx at h
 split at h
 ·split at h
  ·rename_i f _
   obtain ⟨n, h⟩ := kX h
   cases hb : Nat.beq n 0 with
   | true => rw [hb] at h; cases h
   | false => rw [hb] at h; exact ⟨f, n, h⟩
  ·cases h
 ·cases h
theorem uC {t : Nat} {K : nF → CO} (h : fD (mz P t K) = 2) : ∃ q, fD (K q) = 2 := by
 unfold mz at h
 split at h
 ·split at h
  ·exact ⟨_, h⟩
  ·exact ⟨_, h⟩
  ·cases h
 ·cases h
theorem BE {t : Nat} {K : V → CO} (h : fD (AH P t K) = 2) : ∃ n, fD (K n) = 2 := by
 unfold AH at h
 split at h
 ·split at h
  ·rename_i z _
   cases hb : sD (fh z) with
   | true => rw [hb] at h; exact ⟨_, h⟩
   | false => rw [hb] at h; cases h
  ·cases h
 ·cases h
theorem BF {b : Builtin} {args : List Operand} {tys : List Nat} (h : fD (jc P b args tys) = 2) : False := by
 unfold jc at h
 split at h
 ·unfold Ar at h
  repeat' split at h
  all_goals cases h
 ·split at h <;> cases h
 ·unfold Au pK at h
  split at h
  ·rename_i t' _
   generalize Ax P _ = b at h
   cases b with
   | false => cases h
   | true =>
    simp only [cdT] at h
    split at h
    ·rename_i i _
     generalize Nat.ble i.bytes _ = b at h
     cases b with
     | false => cases h
     | true =>
      simp only [cdT] at h
      obtain ⟨n, h⟩ := xC h
      cases h
    ·cases h
  ·cases h
 ·split at h
  ·obtain ⟨n, h⟩ := kX h; cases h
  ·cases h
 ·split at h
  ·obtain ⟨n, h⟩ := xC h; cases h
  ·cases h
 ·cases h
 ·cases h
 ·cases h
theorem zn {op : Op} {e : Env} {q : df} {v : V} {s' : St} {ρ : Operand → Value} {dst : Option Tmp} {ty : TypeId} {pos : String} {af : Array Edge} {g : Option (Nat × Bool)} (hc : fD (ft P op) = 2) (h : eO (ft P op) F e ⟨q, .lf⟩ = .ok v s') (hx : ∀ x ∈ op.operands, RX θ e ρ x) : ∃ mk, v = mk q ∧ jM P θ w (bQ q s') mk ((execOp ρ ⟨dst, op, ty, pos, af, g⟩).run P w) := by
 have hno := gE h
 have gs : ∀ o : O, bQ q (⟨q.next, Tr.set O.no q o (St.m ⟨q, .lf⟩)⟩ : St) = o := fun o => jB o ⟨q, .lf⟩
 cases op with
 | alloc t =>
  obtain ⟨inf, z, hi, hz, hl, hcc, hk⟩ := kV (P := P) (show vu P t .new = ft P (.alloc t) from rfl) hno
  rw [← hk] at h
  have h : pD (z.cells.toList.map dQ) F e ⟨q, .lf⟩ = .ok v s' := h
  unfold pD fG at h
  cases h
  rw [gs]
  exact ⟨_, rfl, Bo hi hz hcc⟩
 | box t x =>
  obtain ⟨h1, h2, h⟩ := iW (show vD (cX x) F e ⟨q, .lf⟩ = .ok v s' from h)
  unfold fG at h
  cases h
  rw [gs]
  exact ⟨_, rfl, Bs (hx x (by simp [Op.operands])) h1 h2⟩
 | buildSlice t n ps =>
  simp only [ft] at h
  split at h
  ·rename_i el hu
   obtain ⟨inf, z, hi, hz, hlen, hcc, hk⟩ := kV (P := P) rfl (gE h)
   rw [← hk] at h
   split at h
   ·rename_i l hp
    cases hb : Nat.ble (n * (z.cells.toList.map dQ).length) 0x1000000 with
    | false => rw [hb] at h; exact bO h
    | true =>
     rw [hb] at h
     have hn := nB hb
     have hsz : z.cells.size = inf.size := by rw [← hlen]; simp
     rw [hlen] at hp hn
     obtain ⟨rz1, rz2⟩ := fy.rep (θ := θ) (jm hcc) hcc n
     obtain ⟨cs, ys, h1, h2, h3, h4⟩ := pv hp (show kO l e (pV (z.cells.toList.map dQ) n) (fun cs => fG (.cells cs) (⟨q, .lf⟩ : St) fun r s => .ok (.sl r 0 n n true) s) = .ok v s' from h) (fun p hp => hx p.2 (by simp only [Op.operands, List.mem_toArray, List.mem_map]; exact ⟨p, hp, rfl⟩)) rz1 rz2
     unfold fG at h1
     cases h1
     rw [gs]
     exact ⟨_, rfl, Br hu hi hz hsz hn h2 h3 h4⟩
   ·exact bO h
  ·exact bO h
 | makeMap t r =>
  cases r with
  | none =>
   have h : pE F e ⟨q, .lf⟩ = .ok v s' := h
   unfold pE fG at h
   cases h
   rw [gs]
   exact ⟨_, rfl, Bq⟩
  | some r => exact bO h
 | makeSlice t l c =>
  simp only [ft] at h
  split at h
  ·rename_i el hu
   split at h
   ·rename_i inf hi
    obtain ⟨inf', z, hi', hz, hl, hcc, hk⟩ := kV (P := P) rfl (gE h)
    rw [hi] at hi'
    obtain rfl := oI hi'
    rw [← hk] at h
    obtain ⟨kl, l', e1, h1⟩ := fV (show vC inf.bytes (z.cells.toList.map dQ) (cX l) (cX c) F e ⟨q, .lf⟩ = .ok v s' from h)
    clear h
    obtain ⟨kc, c', e2, h2⟩ := fV h1
    clear h1
    obtain ⟨l', rfl, h3⟩ := jt h2
    clear h2
    obtain ⟨c', rfl, h4⟩ := jt h3
    clear h3
    obtain ⟨hb, h⟩ := dC h4
    clear h4
    simp only [Bool.and_eq_true] at hb
    obtain ⟨⟨hb1, hb2⟩, hb3⟩ := hb
    have hb1 := nB hb1
    have hb2 : inf.bytes * c' ≤ 0x100000 := nB hb2
    have hb3 := nB hb3
    unfold fG at h
    cases h
    rw [gs]
    exact ⟨_, rfl, Bp hu hi hz hl hcc (hx l (by simp [Op.operands]) _ e1 nofun) (hx c (by simp [Op.operands]) _ e2 nofun) hb1 hb2 hb3⟩
   ·exact bO h
  ·exact bO h
 | build t ps =>
  simp only [ft, qE] at hc
  split at hc
  ·rename_i pl z hpl
   split at hc
   ·generalize sY _ = b at hc
    cases b <;> cases hc
   ·cases hc
  ·cases hc
 | load t x =>
  simp only [ft] at hc
  generalize fN P t = b at hc
  generalize jf P t = b' at hc
  cases b with
  | true => cases hc
  | false => cases b' with
   | true => obtain ⟨n, hc⟩ := kX hc; cases hc
   | false => cases hc
 | store t x y => obtain ⟨n, hc⟩ := kX (show fD (uy P t fun n => .st (cX x) n (cX y)) = 2 from hc); cases hc
 | unOp op t x => cases op <;> cases hc
 | convert t d x =>
  simp only [ft] at hc
  repeat' split at hc
  all_goals cases hc
 | makeInterface t x =>
  simp only [ft] at hc
  repeat' split at hc
  all_goals cases hc
 | slice t x lo hi mx =>
  simp only [ft, qD] at hc
  split at hc
  ·split at hc <;> cases hc
  ·obtain ⟨n, hc⟩ := kX hc
   split at hc <;> cases hc
  ·cases hc
 | fieldAddr t x i => obtain ⟨f, n, hc⟩ := xD (show fD (gx P t i fun f _ => .EE (cX x) f.offset) = 2 from hc); cases hc
 | field t x i =>
  obtain ⟨f, n, hc⟩ := xD (show fD (gx P t i fun f n => bif fN P f.type then .Af (cX x) f.offset else bif jf P f.type then .Ae (cX x) f.offset n else .no) = 2 from hc)
  generalize fN P f.type = b at hc
  generalize jf P f.type = b' at hc
  cases b <;> cases b' <;> cases hc
 | indexAddr t x i =>
  simp only [ft] at hc
  split at hc
  ·obtain ⟨n, hc⟩ := kX hc; cases hc
  ·obtain ⟨n, hc⟩ := kX hc; cases hc
  ·cases hc
 | index t x i =>
  simp only [ft] at hc
  split at hc
  ·cases hc
  ·obtain ⟨n, hc⟩ := kX hc
   generalize (fN P _ || jf P _) = b at hc
   cases b <;> cases hc
  ·cases hc
 | lookup t x i ok =>
  obtain ⟨q, hc⟩ := uC (show fD (mz P t fun q => AH P (rO P t) fun z => .EC q z (cX x) (cX i) ok) = 2 from hc)
  obtain ⟨z, hc⟩ := BE hc
  cases hc
 | mapUpdate t m k x => obtain ⟨q, hc⟩ := uC (show fD (mz P t fun q => .CT q (cX m) (cX k) (cX x)) = 2 from hc); cases hc
 | insert t m k x => obtain ⟨q, hc⟩ := uC (show fD (mz P t fun q => .CT q (cX m) (cX k) (cX x)) = 2 from hc); cases hc
 | call c =>
  obtain ⟨callee, args, tys⟩ := c
  cases callee with
  | value f => cases f <;> cases hc
  | invoke r m => cases hc
  | builtin b => exact (BF hc).elim
 | range t x =>
  simp only [ft] at hc
  split at hc <;> cases hc
 | next x str => cases str <;> cases hc
 | _ => cases hc
end Ci
namespace Ci
open Go
variable {P : Program} {F : Fs} {N : Nat} {arr : Array Oper} {w0 : World} {T : Nat → Prop} {Q : Exit → Act → World → Prop}
variable {all : List Oper} {e0 : Env} {s0 : St} {rs : List Rec} {dF : DS} {D : Nat → Prop} {a : Act} {w : World} {θ θ0 : Th} {dm p : Nat}
theorem ny.eq : ∀ {al : AL} {x y : Nat × df × O}, ny al → x ∈ al → y ∈ al → x.2.1 = y.2.1 → x = y
 | z :: al, x, y, h, hx, hy, e => by
  unfold ny at h
  rw [List.map_cons, List.nodup_cons] at h
  rcases List.mem_cons.1 hx with h1 | h1 <;> rcases List.mem_cons.1 hy with h2 | h2
  ·rw [h1, h2]
  ·subst h1; exact absurd (List.mem_map.2 ⟨y, h2, e.symm⟩) h.1
  ·subst h2; exact absurd (List.mem_map.2 ⟨x, h1, e⟩) h.1
  ·exact ny.eq h.2 h1 h2 e
theorem yI {c : CO} {e : Env} {q : df} {v : V} {s' : St} (hc : fD c = 2) (h : eO c F e ⟨q, .lf⟩ = .ok v s') : bQ q s' ≠ .no := by
 have gs : ∀ o : O, bQ q (⟨q.next, Tr.set O.no q o (St.m ⟨q, .lf⟩)⟩ : St) = o := fun o => jB o ⟨q, .lf⟩
 cases c with
 | new cs =>
  have h : pD cs F e ⟨q, .lf⟩ = .ok v s' := h
  unfold pD fG at h
  cases h
  rw [gs]; exact nofun
 | box x =>
  obtain ⟨_, _, h⟩ := iW (show vD x F e ⟨q, .lf⟩ = .ok v s' from h)
  unfold fG at h
  cases h
  rw [gs]; exact nofun
 | Fq =>
  have h : pE F e ⟨q, .lf⟩ = .ok v s' := h
  unfold pE fG at h
  cases h
  rw [gs]; exact nofun
 | Fp b z l c =>
  obtain ⟨kl, l', e1, h1⟩ := fV (show vC b z l c F e ⟨q, .lf⟩ = .ok v s' from h)
  clear h
  obtain ⟨kc, c', e2, h2⟩ := fV h1
  clear h1
  obtain ⟨l', rfl, h3⟩ := jt h2
  clear h2
  obtain ⟨c', rfl, h4⟩ := jt h3
  clear h3
  obtain ⟨hb, h⟩ := dC h4
  unfold fG at h
  cases h
  rw [gs]; exact nofun
 | FB sz len z ps =>
  have key : ∀ (ps : List (Nat × Nat × X)) (cs : List V), kO ps e cs (fun cs => fG (.cells cs) (⟨q, .lf⟩ : St) fun r s => .ok (.sl r 0 len len true) s) = .ok v s' → bQ q s' ≠ .no := fun ps => by
   induction ps with
   | nil =>
    intro cs h
    have h : fG (.cells cs) (⟨q, .lf⟩ : St) (fun r s => R.ok (.sl r 0 len len true) s) = .ok v s' := h
    unfold fG at h
    cases h
    rw [gs]; exact nofun
   | cons p ps ih =>
    intro cs h
    obtain ⟨_, _, h⟩ := iW (show uz cg (eP p.2.2 e) _ = .ok v s' from h)
    obtain ⟨_, h⟩ := dC h
    obtain ⟨cs', _, h⟩ := jr (K := fun cs => kO ps e cs (fun cs => fG (.cells cs) (⟨q, .lf⟩ : St) fun r s => .ok (.sl r 0 len len true) s)) h
    exact ih cs' h
  exact key ps z h
 | _ => cases hc
section
theorem Cx.len (C : Cx P F N arr all e0 s0 rs dF) : rs.length = all.length := C.runs.len.1
theorem Cx.EU (C : Cx P F N arr all e0 s0 rs dF) {i : Nat} {o : Oper} (ho : all[i]? = some o) : ∃ r, rs[i]? = some r := by
 have hlt := (List.getElem?_eq_some_iff.1 ho).1
 exact ⟨rs[i]'(by rw [C.len]; exact hlt), List.getElem?_eq_getElem _⟩
theorem Cx.live (C : Cx P F N arr all e0 s0 rs dF) {x : Nat × df × O} (hx : x ∈ dF.al) : x.2.2 ≠ .no := by
 obtain ⟨_, _, r, h1, h2⟩ := C.made hx
 have hlt := (List.getElem?_eq_some_iff.1 h1).1
 rw [C.len] at hlt
 obtain ⟨di, d1, h3, _⟩ := C.at (List.getElem?_eq_getElem hlt) h1
 obtain ⟨gb, db, _, _, _, _, _, _, hk⟩ := h3
 unfold lE at hk
 rw [h2] at hk
 obtain ⟨_, hc, ⟨s', h4, h5⟩, hq, _⟩ := hk
 rw [← h5]
 exact yI hc h4
theorem Cx.uG (C : Cx P F N arr all e0 s0 rs dF) {m n : Nat} (hmn : m ≤ n) (hn : n ≤ all.length) (h : ∀ q, tn rs q → m ≤ q → q < n → False) : eV P N arr all e0 s0 rs n = eV P N arr all e0 s0 rs m := by
 have e1 : rs.take n = rs.take m ++ (rs.take n).drop m := by
  conv => lhs; rw [← List.take_append_drop m (rs.take n)]
  rw [List.take_take, Nat.min_eq_left hmn]
 show iE _ (rs.take n) = iE _ (rs.take m)
 rw [e1, nO]
 refine oB fun q hq => ?_
 obtain ⟨r, b, b', h1, h2⟩ := hq
 rw [List.getElem?_drop] at h1
 obtain ⟨h3, h4⟩ := lF.1 ⟨r, b, b', h1, h2⟩
 exact h _ h3 (by omega) h4
theorem Cx.behind (C : Cx P F N arr all e0 s0 rs dF) {i q : Nat} (hi : tn rs i) (hq : tn rs q) (h : i < q) : tc all i q := by
 obtain ⟨r, b, b', h1, h2⟩ := hq
 have hlt := (List.getElem?_eq_some_iff.1 h1).1
 rw [C.len] at hlt
 obtain ⟨di, d1, h3, h4, _⟩ := C.at (List.getElem?_eq_getElem hlt) h1
 obtain ⟨gb, db, _, _, _, _, _, _, hk⟩ := h3
 unfold lE at hk
 rw [h2] at hk
 obtain ⟨_, hw, hb, _⟩ := hk
 refine gC (hw i ?_)
 rw [hb, h4]
 exact (C.wd q i (by omega)).2 ⟨hi, h⟩
theorem gT.Em (C : Cx P F N arr all e0 s0 rs dF) (I : gT P N arr w0 T all e0 s0 rs dF θ0 D a w θ dm p) {m : Nat} (h : bit (eV P N arr all e0 s0 rs p).aw m = true) : D m := by
 obtain ⟨q, h1, h2, h3⟩ := (C.aw p m I.hp).1 h
 exact I.closed q ((I.turns q h1).2 h2) m (gC h3)
theorem gT.sub (C : Cx P F N arr all e0 s0 rs dF) (I : gT P N arr w0 T all e0 s0 rs dF θ0 D a w θ dm p) {i : Nat} (ha : ∀ j, tc all j i → D j) : Sub (cB dF.al (cH (eD all []) i) (eV P N arr all e0 s0 rs p).aw (eV P N arr all e0 s0 rs p).s) (cB dF.al dm (eV P N arr all e0 s0 rs p).aw (eV P N arr all e0 s0 rs p).s) :=
 BH C.nd (fun x hx hb => (I.mask _).2 (ha _ (gC hb))) I.gone
theorem gT.load (C : Cx P F N arr all e0 s0 rs dF) (I : gT P N arr w0 T all e0 s0 rs dF θ0 D a w θ dm p) {i : Nat} {o : Oper} {r : Rec} (ho : all[i]? = some o) (hr : rs[i]? = some r) (hi : ¬ D i) (ha : ∀ j, tc all j i → D j) (hc : fD (ft P o.op) = 1) (hld : ⟨ft P o.op, r.e, r.v, cH (eD all []) i, i⟩ ∈ dF.ld) :
  eO (ft P o.op) F r.e (cB dF.al (cH (eD all []) i) (eV P N arr all e0 s0 rs p).aw (eV P N arr all e0 s0 rs p).s) = .ok r.v (cB dF.al (cH (eD all []) i) (eV P N arr all e0 s0 rs p).aw (eV P N arr all e0 s0 rs p).s) := by
 have h := C.FN _ (C.mem p I.hp) _ hld
 unfold yM at h
 have h1 : Nat.beq (Nat.lor (Nat.land (cH (eD all []) i) dF.st.wd) (eV P N arr all e0 s0 rs p).wd) (eV P N arr all e0 s0 rs p).wd = true := BG fun m hm => by
  rw [zh, Bool.and_eq_true] at hm
  have ht := (C.wall m).1 hm.2
  exact (C.wd p m I.hp).2 ⟨ht, (I.turns m ht).1 (ha m (gC hm.1))⟩
 have h2 : bit (eV P N arr all e0 s0 rs p).aw i = false := by
  cases hb : bit (eV P N arr all e0 s0 rs p).aw i with
  | false => rfl
  | true => exact absurd (I.Em C hb) hi
 simp only [h1, h2] at h
 simp only [Bool.not_false, Bool.and_self, cdT] at h
 cases hs : eO (ft P o.op) F r.e (cB dF.al (cH (eD all []) i) (eV P N arr all e0 s0 rs p).aw (eV P N arr all e0 s0 rs p).s) with
 | no ww => rw [hs] at h; cases h
 | ok v s' =>
  rw [hs] at h
  have h : wz 200 v r.v = true := h
  rw [uB 200 h, xd hc hs]
theorem gT.step (C : Cx P F N arr all e0 s0 rs dF) (I : gT P N arr w0 T all e0 s0 rs dF θ0 D a w θ dm p) {ro : Option Nat} {i : Nat} {o : Oper} (ho : all[i]? = some o) (hi : ¬ D i) (ha : ∀ j, tc all j i → D j) {next : Act → World → Prop}
  (hk : ∀ a' w' θ' dm' p', gT P N arr w0 T all e0 s0 rs dF θ0 (fun j => D j ∨ j = i) a' w' θ' dm' p' → next a' w') :
  if Region.wanted o (yielded arr a.tmps) then o.wpIn (Fn ro) 0 P a w next Q else (∀ f, o.about P w a.eval = some f → (Fn ro).fn f) ∧ next (a.put o.dst undef) w := by
 obtain ⟨r, hr⟩ := C.EU ho
 obtain ⟨di, d1, ⟨gb, db, hg, hd, hi1, hre, hi2, he1, hkk⟩, hst, hst1, ⟨nn, hal, hal'⟩, hal1, hld1⟩ := C.at ho hr
 obtain ⟨dst, op, ty, pos, af, g⟩ := o
 have hx := I.rx C ho hr hi ha
 have hS := I.sub C ha
 have hSn : (cB dF.al (cH (eD all []) i) (eV P N arr all e0 s0 rs p).aw (eV P N arr all e0 s0 rs p).s).n = (cB dF.al dm (eV P N arr all e0 s0 rs p).aw (eV P N arr all e0 s0 rs p).s).n := by rw [gZ, gZ]
 unfold lE at hkk
 split at hkk
 ·rename_i hrk
  obtain ⟨hb, hv, _⟩ := hkk
  rw [← hre] at hb
  rw [I.guard C ho hr hi ha hg hb, if_neg (by simp)]
  refine ⟨fun f _ => Fn.fn, ?_⟩
  exact hk _ _ _ _ _ (I.same C ho hr hi ha hd (by rw [hrk]; exact nofun) (by rw [hrk]; exact nofun) (by rw [hv]; exact tf) I.rel.post)
 ·rename_i hrk
  obtain ⟨hb, hc, ⟨s, s', hs⟩, _⟩ := hkk
  rw [← hre] at hb hs
  rw [I.guard C ho hr hi ha hg hb, if_pos rfl]
  refine pk (lq (gE hs)) (Al C.hF ((wW hc _ _ _ hs).2 _) hx I.rel) fun θ' x w' hv hp => ?_
  exact hk _ _ _ _ _ (I.same C ho hr hi ha hd (by rw [hrk]; exact nofun) (by rw [hrk]; exact nofun) hv hp)
 ·rename_i hrk
  obtain ⟨hb, hc, _, _, hld, _⟩ := hkk
  rw [← hre] at hb hld
  rw [I.guard C ho hr hi ha hg hb, if_pos rfl]
  have hs := I.load C ho hr hi ha hc (hld1 _ (by rw [hld]; exact List.mem_cons_self ..))
  refine pk (lq (gE hs)) (Al C.hF hs hx (I.rel.part hS hSn)) fun θ' x w' hv hp => ?_
  refine hk _ _ _ _ _ (I.same C ho hr hi ha hd (by rw [hrk]; exact nofun) (by rw [hrk]; exact nofun) hv (I.rel.merge hS hSn hp hSn.symm (fun _ _ _ => rfl) fun q hq => ?_))
  rcases hq with hq | hq
  ·by_cases h1 : bQ q (cB dF.al (cH (eD all []) i) (eV P N arr all e0 s0 rs p).aw (eV P N arr all e0 s0 rs p).s) = .no
   ·rw [hq, h1]
   ·exact absurd hq (hS.live h1)
  ·exact (hS q hq).symm
 ·rename_i q ob hrk
  obtain ⟨hb, hc, ⟨s', hs, hgb⟩, hq, _, hal2, _⟩ := hkk
  rw [← hre] at hb hs
  rw [I.guard C ho hr hi ha hg hb, if_pos rfl]
  have hmem : (i, q, ob) ∈ dF.al := hal1 _ (by rw [hal2]; exact List.mem_cons_self ..)
  obtain ⟨hm1, hm2, _⟩ := C.made hmem
  obtain ⟨mk, hv, X, ob', hrun, hro, hvv⟩ := zn (w := w) (dst := dst) (ty := ty) (pos := pos) (af := af) (g := g) hc hs hx
  rw [hgb] at hro
  have hθ : θ q = Option.none := I.free _ hmem hi
  have haw : bit (eV P N arr all e0 s0 rs p).aw i = false := by
   cases hb : bit (eV P N arr all e0 s0 rs p).aw i with
   | false => rfl
   | true => exact absurd (I.Em C hb) hi
  have hself : ∀ x ∈ dF.al, x.1 = i → x.2.1 = q := fun x hx e1 => by
   obtain ⟨_, _, r', h1, h2⟩ := C.made hx
   rw [e1, hr] at h1
   obtain rfl := oI h1
   rw [hrk] at h2
   injection h2 with h2 h3
   exact h2.symm
  obtain ⟨hle, hrel⟩ := I.rel.at (s' := cB dF.al (Nat.lor dm (Nat.pow 2 i)) (eV P N arr all e0 s0 rs p).aw (eV P N arr all e0 s0 rs p).s) hθ (by rw [gZ]; exact Nat.lt_of_lt_of_le hm2 I.n) hro (by rw [gZ, gZ]) (by
   rw [fm C.nd hmem]
   show (bif bit (Nat.lor dm (Nat.pow 2 i)) i && !bit (eV P N arr all e0 s0 rs p).aw i then ob else _) = ob
   rw [gR, kI, haw, decide_eq_true rfl, Bool.or_true]; rfl) fun r' hr' => by
   by_cases hp : ∃ x ∈ dF.al, x.2.1 = r'
   ·obtain ⟨x, hx, rfl⟩ := hp
    rw [fm C.nd hx, fm C.nd hx, gR, kI, decide_eq_false (fun e1 => hr' (hself x hx e1.symm)), Bool.or_false]
   ·rw [fa fun x hx e1 => hp ⟨x, hx, e1⟩, fa fun x hx e1 => hp ⟨x, hx, e1⟩]
  have hv' : Rv (θ.iL q ⟨w.heap.size, 0, 0⟩) r.v X := by rw [hv]; exact hvv _ _ (Th.eN ..)
  have hne : ∀ q', tn rs q' → q' ≠ i := fun q' ⟨r', b, b', h1, h2⟩ e1 => by
   subst e1
   rw [hr] at h1
   obtain rfl := oI h1
   rw [hrk] at h2; cases h2
  refine ⟨fun f _ => Fn.fn, ?_⟩
  rw [Oper.semAt_eq _ _ _ (lq (gE hs)), hrun]
  refine hk _ _ _ _ _ (I.next C ho hr hi ha hd hle hv' I.hp (fun q' hq' => ⟨fun h => (I.turns q' hq').1 (h.resolve_right (hne q' hq')), fun h => .inl ((I.turns q' hq').2 h)⟩) hrel (fun r' hr' => Th.iw θ _ fun e1 => by subst e1; exact absurd hr' (Nat.not_lt_of_le hm1)) (fun x hx hD => ?_) I.gone I.n)
  rw [Th.iw θ _ fun e1 => hD (.inr (by
   have := C.nd.eq hx hmem e1.symm
   rw [this]))]
  exact I.free x hx fun h => hD (.inl h)
 ·rename_i b b' hrk
  obtain ⟨hb, hw, hbe, ⟨s2, hs, hb'⟩, hd1, _⟩ := hkk
  rw [← hre] at hb hs
  rw [I.guard C ho hr hi ha hg hb, if_pos rfl]
  have hti : tn rs i := ⟨r, b, b', hr, hrk⟩
  have hlt : i < all.length := (List.getElem?_eq_some_iff.1 ho).1
  have hA : ∀ q, tn rs q → q < i → D q := fun q hq h => ha q (C.behind hq hti h)
  have hB : ∀ q, tn rs q → i ≤ q → ¬ D q := fun q hq h hD => by
   rcases Nat.eq_or_lt_of_le h with rfl | h
   ·exact hi hD
   ·exact hi (I.closed q hD i (C.behind hti hq h))
  have hsp : eV P N arr all e0 s0 rs i = eV P N arr all e0 s0 rs p := by
   rcases Nat.le_total p i with hpi | hpi
   ·exact C.uG hpi (by omega) fun q hq h1 h2 => by
     have := (I.turns q hq).1 (hA q hq h2); omega
   ·exact (C.uG hpi I.hp fun q hq h1 h2 => hB q hq h1 ((I.turns q hq).2 h2)).symm
  rw [hbe, hst, hsp] at hs hb'
  have hst2 : eV P N arr all e0 s0 rs (i + 1) = ⟨s2, Nat.lor (eV P N arr all e0 s0 rs p).wd (Nat.pow 2 i), Nat.lor (eV P N arr all e0 s0 rs p).aw (cH (eD all []) i)⟩ := by rw [← hst1, hd1, hb']
  have hs1 : cB di.al (cH (eD all []) i) (eV P N arr all e0 s0 rs p).aw (eV P N arr all e0 s0 rs p).s = cB dF.al (cH (eD all []) i) (eV P N arr all e0 s0 rs p).aw (eV P N arr all e0 s0 rs p).s := by
   rw [hal, qQ]
   intro x hx
   cases hb : bit (cH (eD all []) i) x.1 with
   | false => rfl
   | true =>
    have h1 := C.wX.lt (gC hb)
    have h2 := hal' x hx
    omega
  rw [hs1] at hs
  refine pk (lq (gE hs)) (Al C.hF hs hx (I.rel.part hS hSn)) fun θ' x w' hv hp => ?_
  have hnn : (cB dF.al (cH (eD all []) i) (eV P N arr all e0 s0 rs p).aw (eV P N arr all e0 s0 rs p).s).n = (eV P N arr all e0 s0 rs p).s.n := gZ ..
  have hcnt := lV (pw P N arr all (eD all [])) s0.n
  have hexti : ∀ r : df, r.nat < (j6 (pw P N arr all (eD all [])) s0.n).nat → θ' r = θ r := fun r hr => hp.ext r (by rw [hnn]; exact Nat.lt_of_lt_of_le hr I.n)
  -- what was not handed in is not there
  have hgone : ∀ x ∈ dF.al, bit (Nat.lor (eV P N arr all e0 s0 rs p).aw (cH (eD all []) i)) x.1 = false → bQ x.2.1 s2 = .no := fun x hx hb => by
   rw [gR, Bool.or_eq_false_iff] at hb
   have hno : bQ x.2.1 (cB dF.al (cH (eD all []) i) (eV P N arr all e0 s0 rs p).aw (eV P N arr all e0 s0 rs p).s) = .no := by
    rw [fm C.nd hx, hb.2]
    exact I.gone x hx hb.1
   apply Classical.byContradiction
   intro hl
   obtain ⟨pl, ob, h1, _, _⟩ := hp.rel.mem _ hl
   have h2 := h1
   rw [hexti _ (C.made hx).2.1] at h2
   by_cases hD : D x.1
   ·have hlw : bQ x.2.1 (cB dF.al dm (eV P N arr all e0 s0 rs p).aw (eV P N arr all e0 s0 rs p).s) ≠ .no := by
     rw [fm C.nd hx, hb.1, (I.mask _).2 hD]
     exact C.live hx
    have h3 := (I.rel.new _ _ hlw h2).2
    rcases (hp.rel.new _ _ hl h1).1 with ⟨r', pl', c1, c2, c3⟩ | h4
    ·have := I.rel.inj _ _ _ _ (hS.live c1) hlw c2 h2 c3
     rw [this] at c1
     exact c1 hno
    ·omega
   ·rw [I.free x hx hD] at h2; cases h2
  have hmm : ∀ x ∈ dF.al, bit (Nat.lor dm (Nat.pow 2 i)) x.1 = bit dm x.1 := fun x hx => by
   rw [gR, kI, decide_eq_false (fun e => tO C hr (by rw [hrk]; exact nofun) x hx e.symm), Bool.or_false]
  have hpost : fK w0 T θ (cB dF.al dm (eV P N arr all e0 s0 rs p).aw (eV P N arr all e0 s0 rs p).s) θ' (cB dF.al (Nat.lor dm (Nat.pow 2 i)) (eV P N arr all e0 s0 rs (i + 1)).aw (eV P N arr all e0 s0 rs (i + 1)).s) w' := by
   rw [hst2, jx (m' := dm) hmm]
   refine I.rel.merge hS hSn hp (gZ ..) (fun r' h1 h2 => ?_) fun r' h1 => ?_
   ·by_cases hq : ∃ x ∈ dF.al, x.2.1 = r'
    ·obtain ⟨x, hx, rfl⟩ := hq
     rw [fm C.nd hx] at h1 h2 ⊢
     rw [fm C.nd hx]
     cases haw : bit (eV P N arr all e0 s0 rs p).aw x.1 with
     | true => rw [haw] at h1 h2; simp only [Bool.not_true, Bool.and_false, cdF] at h1 h2; exact absurd h2 h1
     | false =>
      rw [haw] at h1 h2
      have hg := I.gone x hx haw
      cases hdm : bit dm x.1 with
      | false => rw [hdm] at h1; exact absurd hg h1
      | true =>
       cases han : bit (cH (eD all []) i) x.1 with
       | true => rw [han] at h2; exact absurd h2 (C.live hx)
       | false => rw [gR, haw, han]; rfl
    ·have n1 : ∀ x ∈ dF.al, x.2.1 ≠ r' := fun x hx e1 => hq ⟨x, hx, e1⟩
     rw [fa n1] at h1 h2
     exact absurd h2 h1
   ·by_cases hq : ∃ x ∈ dF.al, x.2.1 = r'
    ·obtain ⟨x, hx, rfl⟩ := hq
     rw [fm C.nd hx] at h1 ⊢
     rw [fm C.nd hx] at h1
     rw [gR]
     cases hdm : bit dm x.1 with
     | false => rfl
     | true =>
      cases haw : bit (eV P N arr all e0 s0 rs p).aw x.1 with
      | true => rfl
      | false =>
       cases han : bit (cH (eD all []) i) x.1 with
       | true => rfl
       | false =>
        rw [hdm, haw, han] at h1
        rcases h1 with h1 | h1
        ·exact absurd h1 (C.live hx)
        ·exact absurd (I.gone x hx haw) h1
    ·exact fa fun x hx e1 => hq ⟨x, hx, e1⟩
  refine hk _ _ _ _ _ (I.next C ho hr hi ha hd hp.le hv (p' := i + 1) hlt (fun q hq => ⟨fun h => ?_, fun h => ?_⟩) hpost.rel (fun r hr => hexti r (by omega)) (fun x hx hD => ?_) (fun x hx hb => ?_) ?_)
  ·rcases h with h | rfl
   ·exact Nat.lt_of_not_le fun hle => hB q hq (by omega) h
   ·omega
  ·by_cases e1 : q = i
   ·exact .inr e1
   ·exact .inl (hA q hq (by omega))
  ·rw [hexti _ (C.made hx).2.1]
   exact I.free x hx fun h => hD (.inl h)
  ·rw [hst2] at hb ⊢
   exact hgone x hx hb
  ·rw [hst2]
   have := hp.n
   rw [hnn] at this
   exact Nat.le_trans I.n this
end
end Ci
namespace Ci
open Go
variable {P : Program} {F : Fs} {N : Nat} {arr : Array Oper} {w0 : World} {T : Nat → Prop} {Q : Exit → Act → World → Prop}
variable {all : List Oper} {e0 : Env} {s0 s : St} {rs : List Rec} {dF : DS} {D : Nat → Prop} {a : Act} {w : World} {θ θ0 : Th} {dm p : Nat}
theorem qP : ∀ {al : AL} {x : Nat}, cB al 0 x s = s
 | [], _ => rfl
 | p :: al, x => by
  have e1 : cB (p :: al) 0 x s = bif bit 0 p.1 && !bit x p.1 then fx p.2.1 p.2.2 (cB al 0 x s) else cB al 0 x s := rfl
  rw [e1, iq]
  exact qP
theorem Rel.Dg {n : df} (h : Rel w0 T θ s w) (hn : s.n.nat ≤ n.nat) : Rel w0 T θ ⟨n, s.m⟩ w :=
 ⟨h.os, h.tape, h.output, h.size, h.frame, fun r pl hr => Nat.lt_of_lt_of_le (h.num r pl hr) hn, h.new, h.inj, h.mem⟩
theorem Rel.drew (h : Rel w0 T θ s w) : Rel w0 T θ s { w with drawn := w.drawn + 1 } := ⟨h.os, h.tape, h.output, h.size, h.frame, h.num, h.new, h.inj, h.mem⟩
theorem gT.start (C : Cx P F N arr all e0 s0 rs dF) (hE : Ev N θ e0 a) (hr : Rel w0 T θ s0 w) : gT P N arr w0 T all e0 s0 rs dF θ (fun _ => False) a w θ 0 0 := by
 have hcnt := lV (pw P N arr all (eD all [])) s0.n
 refine ⟨Nat.zero_le _, fun q _ => ⟨False.elim, fun h => absurd h (Nat.not_lt_zero _)⟩, fun i => ⟨fun h => (by rw [iq] at h; cases h), False.elim⟩, ?_, fun _ _ => rfl, θ.le_refl, fun x hx _ => ?_, fun x hx _ => ?_, Nat.le_refl _, fun _ _ _ _ _ _ h => h.elim, fun t ht _ v hv hn => hE.has t v ht hv hn, fun _ h => h.elim, fun _ h => h.elim, hE.size, hE.defers⟩
 ·rw [qP]
  exact hr.Dg hcnt
 ·cases hx' : θ x.2.1 with
  | none => rfl
  | some pl => have := hr.num _ _ hx'; have := (C.made hx).1; omega
 ·apply Classical.byContradiction
  intro hl
  obtain ⟨pl, ob, h1, _⟩ := hr.mem x.2.1 hl
  have := hr.num _ _ h1; have := (C.made hx).1; omega
theorem iu.mk {M : List Nat} {i : Nat} {d d' : DS} {l : List Oper} (h : iu P F N arr M i d l rs d') : Tr.get V.no rE d'.e = Tr.get V.no rE d.e := by
 induction h with
 | nil h => rfl
 | cons h hr ih =>
  obtain ⟨gb, db, hg, hd, _, he, _, he1, _⟩ := h
  rw [ih, he1]
  exact yQ hd
theorem gT.fin (C : Cx P F N arr all e0 s0 rs dF) (I : gT P N arr w0 T all e0 s0 rs dF θ0 D a w θ dm p) (hD : ∀ i, i < all.length → D i) : Ev N θ dF.e a ∧ fK w0 T θ0 s0 θ (cB dF.al (Nat.sub (Nat.pow 2 dF.i) 1) dF.st.aw dF.st.s) w := by
 have hst : eV P N arr all e0 s0 rs p = dF.st := by
  rw [← C.uG I.hp (Nat.le_refl _) fun q hq h1 h2 => by have := (I.turns q hq).1 (hD q h2); omega]
  show iE _ (rs.take all.length) = _
  rw [← C.len, List.take_length]
  exact C.runs.eV.symm
 have hn : dF.i = all.length := by rw [C.runs.len.2.2, Nat.zero_add]
 have hrel := I.rel
 have hIn := I.n
 have hcnt := lV (pw P N arr all (eD all [])) s0.n
 rw [hst] at hrel hIn
 rw [jx (m' := Nat.sub (Nat.pow 2 dF.i) 1) fun x hx => ?_] at hrel
 ·refine ⟨⟨I.size, (by unfold zr; rw [C.runs.mk]; exact I.defers), fun t v ht hv hn => ?_⟩, I.ext, by rw [gZ]; omega, I.le, hrel⟩
  rcases C.runs.env C.hN all.length dF.e (.inr ⟨rfl, rfl⟩) t ht with ⟨m, o, r, h1, h2, h3, h4, h5⟩ | ⟨h1, h2⟩
  ·rw [hv] at h5
   subst h5
   exact I.done m o r t h2 h4 (hD m h1) h3 hn
  ·rw [hv] at h2
   exact I.vM t ht (fun j o hj _ hd => h1 j o (List.getElem?_eq_some_iff.1 hj).1 hj hd) v h2.symm hn
 ·obtain ⟨_, _, r, h1, _⟩ := C.made hx
  have hlt := (List.getElem?_eq_some_iff.1 h1).1
  rw [C.len] at hlt
  rw [zg, (I.mask _).2 (hD _ hlt), hn]
  exact (decide_eq_true hlt).symm
theorem count_set (l : List Bool) : ∀ i, l[i]? = some false → (l.set i true).count false + 1 = l.count false := by
 induction l with
 | nil => intro i h; simp at h
 | cons b l ih =>
  intro i h
  cases i with
  | zero =>
   have hb : b = false := by simpa using h
   subst hb
   simp
  | succ i =>
   have := ih i (by simpa using h)
   rw [List.set_cons_succ, List.count_cons, List.count_cons, ← this]
   omega
theorem xy {ro : Option Nat} (C : Cx P F N arr all e0 s0 rs dF) (hq : ∀ θ a w, Ev N θ dF.e a → fK w0 T θ0 s0 θ (cB dF.al (Nat.sub (Nat.pow 2 dF.i) 1) dF.st.aw dF.st.s) w → Q .normal a w) : ∀ (fuel : Nat) (listed : Array Bool) (D : Nat → Prop) (a : Act) (w : World) (θ : Th) (dm p : Nat), listed.size = arr.size → listed.toList.count false ≤ fuel → (∀ i, D i ↔ listed[i]? = some true) → gT P N arr w0 T all e0 s0 rs dF θ0 D a w θ dm p → wpAnyIn (Fn ro) 0 P .any arr Q fuel listed a w := by
 have hlen : arr.size = all.length := by rw [← C.hA]; simp
 have hget : ∀ i, arr[i]? = all[i]? := fun i => by rw [← C.hA, Array.getElem?_toList]
 have fin : ∀ (listed : Array Bool) (D : Nat → Prop) (a : Act) (w : World) (θ : Th) (dm p : Nat), listed.size = arr.size → (∀ i, D i ↔ listed[i]? = some true) → gT P N arr w0 T all e0 s0 rs dF θ0 D a w θ dm p → Region.ready .any arr listed = [] → Q .normal a w := fun listed D a w θ dm p hsz hD I hr => by
  have hall : ∀ n i, i < n → i < all.length → D i := fun n => by
   induction n with
   | zero => intro i h; omega
   | succ n ih =>
    intro i hi hlt
    apply Classical.byContradiction
    intro hnd
    have hi' : i < arr.size := by omega
    obtain ⟨o, ho⟩ : ∃ o, all[i]? = some o := ⟨all[i], List.getElem?_eq_getElem hlt⟩
    have hmem : i ∈ Region.ready .any arr listed := by
     unfold Region.ready
     rw [List.mem_filter]
     refine ⟨List.mem_range.2 hi', ?_⟩
     rw [hget i, ho]
     have h1 : listed.getD i true = false := by
      rw [Array.getD_eq_getD_getElem?]
      have : listed[i]? = some listed[i] := Array.getElem?_eq_getElem _
      rw [this]
      have : listed[i]? ≠ some true := fun e => hnd ((hD i).2 e)
      rw [Array.getElem?_eq_getElem (by omega)] at this
      cases hb : listed[i] with
      | false => rfl
      | true => exact absurd (by rw [hb]) this
     simp only [h1, Option.map_some, Option.getD_some, Bool.not_false, Bool.true_and]
     rw [Array.all_eq_true_iff_forall_mem]
     intro ed hed
     cases hb : Region.binds .any ed with
     | false => rfl
     | true =>
      have hbd : ux o ed.on := ⟨ed, by simpa using hed, hb, rfl⟩
      have hlt' := C.wX.back i o ho _ hbd
      have := (hD ed.on).1 (ih ed.on (by omega) (by omega))
      rw [Array.getD_eq_getD_getElem?, this]
      rfl
    rw [hr] at hmem
    cases hmem
  obtain ⟨h1, h2⟩ := I.fin C fun i hi => hall (i + 1) i (by omega) hi
  exact hq _ _ _ h1 h2
 intro fuel
 induction fuel with
 | zero =>
  intro listed D a w θ dm p hsz hc hD I
  have hr : Region.ready .any arr listed = [] := by
   apply List.eq_nil_iff_forall_not_mem.2
   intro i hi
   unfold Region.ready at hi
   rw [List.mem_filter, Bool.and_eq_true] at hi
   obtain ⟨h1, h2, _⟩ := hi
   have h1 := List.mem_range.1 h1
   have h3 : listed[i]? = some listed[i] := Array.getElem?_eq_getElem _
   rw [Array.getD_eq_getD_getElem?, h3] at h2
   have h4 : listed[i] = false := by simpa using h2
   have : false ∈ listed.toList := by
    rw [← h4]; exact Array.getElem_mem_toList _
   have := List.count_pos_iff.2 this
   omega
  exact ⟨hr, fin listed D a w θ dm p hsz hD I hr⟩
 | succ fuel ih =>
  intro listed D a w θ dm p hsz hc hD I
  refine ⟨fin listed D a w θ dm p hsz hD I, fun i hi => ?_⟩
  unfold Region.ready at hi
  rw [List.mem_filter, Bool.and_eq_true] at hi
  obtain ⟨h1, h2, h3⟩ := hi
  have h1 := List.mem_range.1 h1
  obtain ⟨o, ho⟩ : ∃ o, all[i]? = some o := ⟨all[i]'(by omega), List.getElem?_eq_getElem _⟩
  have hf : listed[i]? = some false := by
   have h4 : listed[i]? = some listed[i] := Array.getElem?_eq_getElem _
   rw [Array.getD_eq_getD_getElem?, h4] at h2
   rw [h4]
   have : listed[i] = false := by simpa using h2
   rw [this]
  have hnd : ¬ D i := fun h => by rw [(hD i).1 h] at hf; cases hf
  rw [hget i, ho] at h3
  simp only [Option.map_some, Option.getD_some] at h3
  rw [Array.all_eq_true_iff_forall_mem] at h3
  have hb : ∀ j, ux o j → D j := fun j ⟨ed, hm, hbb, he⟩ => by
   have := h3 ed (by simpa using hm)
   rw [hbb, he] at this
   simp only [Bool.not_true, Bool.false_or] at this
   rw [hD]
   rw [Array.getD_eq_getD_getElem?] at this
   cases hl : listed[j]? with
   | none => rw [hl] at this; cases this
   | some b => rw [hl] at this; simpa using this
  have ha : ∀ j, tc all j i → D j := fun j hj => by
   cases hj with
   | Ca h hb' => rw [ho] at h; obtain rfl := oI h; exact hb _ hb'
   | E7 h hb' hr => rw [ho] at h; obtain rfl := oI h; exact I.closed _ (hb _ hb') _ hr
  have hst := I.step (Q := Q) (ro := ro) C ho hnd ha (next := wpAnyIn (Fn ro) 0 P .any arr Q fuel (listed.setIfInBounds i true)) fun a' w' θ' dm' p' I' => ih _ _ a' w' θ' dm' p' (by simp [hsz]) (by
   have e1 : (listed.setIfInBounds i true).toList = listed.toList.set i true := by simp
   rw [e1]
   have := count_set listed.toList i (by simpa using hf)
   omega) (fun j => by
   by_cases e1 : j = i
   ·subst e1
    rw [Array.getElem?_setIfInBounds_self_of_lt (by omega)]
    simp
   ·rw [Array.getElem?_setIfInBounds_ne (fun e2 => e1 e2.symm), hD]
    simp [e1]) I'
  unfold wpOpIn
  rw [hget i, ho]
  simp only
  cases hw : Region.wanted o (yielded arr a.tmps) with
  | true => rw [hw, if_pos rfl] at hst; rw [if_pos rfl]; exact hst
  | false => rw [hw, if_neg (by simp)] at hst; rw [if_neg (by simp)]; exact hst
theorem zM {ro : Option Nat} {y : Option YS} {id : Nat} {ops : Array Oper} {x : Ex} {e e' : Env} {s s' : St} (hF : ph P F) (hN : N ≤ 2 ^ 20) (h : lX (za P N id ops) y F e s = .ok x e' s') (hE : Ev N θ e a) (hr : Rel w0 T θ s w) (hk : ∀ θ1 a1 w1, Ev N θ1 e' a1 → fK w0 T θ s θ1 s' w1 → x = .nx → Q .normal a1 w1) : (Code.region id ops true).wpIn (Fn ro) 0 P Q a w := by
 unfold za at h
 simp only at h
 cases hm : P.follows .mixedOrders with
 | false => rw [hm] at h; cases h
 | true =>
  rw [hm, Bool.true_and] at h
  cases hp : nV ops.toList ops (eD ops.toList []) ops.toList 0 with
  | false => rw [hp] at h; cases h
  | true =>
   rw [hp] at h
   have h' : (RC.rec (fun w => .no (id :: w)) .ok (zN (pw P N ops ops.toList (eD ops.toList [])) F e s fun e s => .ok .nx e s) : RC) = .ok x e' s' := h
   cases hg : zN (pw P N ops ops.toList (eD ops.toList [])) F e s fun e s => .ok .nx e s with
   | no ww => rw [hg] at h'; cases h'
   | ok x2 e2 s2 =>
    rw [hg] at h'
    cases h'
    unfold zN at hg
    obtain ⟨rs, dF, h1, h2⟩ := rf (M := eD ops.toList []) ops.toList (eD ops.toList []) 0 _ hg rfl fun j => by rw [Nat.zero_add]
    have h2 : (bif nw (fun st => nw (fun l => yM F dF.al dF.st.wd l st) dF.ld) (dF.st :: dF.sl) then (RC.ok .nx dF.e (cB dF.al (Nat.sub (Nat.pow 2 dF.i) 1) dF.st.aw dF.st.s) : RC) else .no [3002]) = .ok x e' s' := h2
    cases hc : nw (fun st => nw (fun l => yM F dF.al dF.st.wd l st) dF.ld) (dF.st :: dF.sl) with
    | false => rw [hc] at h2; cases h2
    | true =>
     rw [hc] at h2
     cases h2
     have C : Cx P F N ops ops.toList e s rs dF := ⟨hF, hN, rfl, zP hp, h1, fun st hst x hx => ka.1 (ka.1 hc st hst) x hx⟩
     refine wpIn_region_any hm (xy C (fun θ1 a1 w1 hE1 hp1 => hk θ1 a1 w1 hE1 hp1 rfl) ops.size _ _ a _ θ 0 0 (by simp) (by simp [List.count_replicate]) (fun i => ?_) (gT.start C hE hr.drew))
     constructor
     ·exact False.elim
     ·intro h0
      rw [Array.getElem?_replicate] at h0
      split at h0 <;> simp at h0
end Ci
namespace Ci
open Go
variable {P : Program} {w0 : World} {T : Nat → Prop} {θ : Th} {s s' : St} {w : World} {e e' : Env} {F : Fs} {v : V} {N : Nat} {a : Act} {Q : Exit → Act → World → Prop}
theorem yT {st : Nat} {ls : LoopState} {p : Option Code} {x : Ex} (h : ub st = some x) (hs : zp st ls p) : ls ≠ .busy ∧ ((x = .nx ∧ p = none) ∨ (x = .rt ∧ p = some .ret) ∨ ∃ id, x = .ex id ∧ p = some (.exit id)) := by
 rcases hs with ⟨rfl, rfl, rfl⟩ | ⟨rfl, _⟩ | ⟨rfl, rfl, rfl⟩ | ⟨id, rfl, rfl, rfl⟩
 ·cases h; exact ⟨nofun, .inl ⟨rfl, rfl⟩⟩
 ·cases h
 ·cases h; exact ⟨nofun, .inr (.inl ⟨rfl, rfl⟩)⟩
 ·rw [Nat.add_comm] at h
  cases h; exact ⟨nofun, .inr (.inr ⟨id, rfl, rfl⟩)⟩
theorem yH {o : O} {d : RC} {K : Code → Code → Nat → Nat → Env → Nat → RC} {x : Ex} {m : List Nat} (h : kL (.no m) o K = .ok x e' s') : ∃ A B p N e st, o = .loop A B p N e st ∧ K A B p N e st = .ok x e' s' := by
 unfold kL at h
 split at h
 ·exact ⟨_, _, _, _, _, _, rfl, h⟩
 ·cases h
theorem zJ {yy : YS} {g : Operand} {ps : Array Tmp} {A B : Code} {x : Ex} (hy : CV P yy) (hF : ph P F) (hN : N ≤ 2 ^ 20) (h : lX (cC P N (.rangeFunc g ps A B)) (some yy) F e s = .ok x e' s') (hE : Ev N θ e a) (hr : Rel w0 T θ s w)
  (hk : ∀ θ1 a1 w1, Ev N θ1 e' a1 → fK w0 T θ s θ1 s' w1 → Q (u5 x) a1 w1) : (Code.rangeFunc g ps A B).wpIn Fence.wide 0 P Q a w := by
 simp only [cC] at h
 split at h
 ·rename_i p hps
  cases hp : Nat.blt p N with
  | false => rw [hp] at h; cases h
  | true =>
   rw [hp] at h
   have hp : p < N := nB hp
   have h : yt (cX g) p N A B (some yy) F e s = .ok x e' s' := h
   unfold yt at h
   simp only at h
   split at h
   ·rename_i gf xs1 bs hg
    cases hh : yy.has gf with
    | false => rw [hh] at h; cases h
    | true =>
     rw [hh] at h
     simp only [cdT] at h
     split at h
     ·rename_i hmk
      obtain ⟨ys, zs, e1, e2, e3⟩ := hE.rx g _ hg nofun
      unfold fG at h
      simp only at h
      have hdf : a.defers = [] := by
       rcases hE.defers with hd | ⟨q, pl, hd, _⟩
       ·exact hd.2
       ·rw [hmk] at hd; cases hd
      refine wpIn_rangeFunc fun fn _ => ?_
      have hp1 := hr.alloc (o := .CU) (ob := .deferred (some [])) (a := 0) (c := 0) rfl
      have hE1 := hE.le hp1.le
      have hp2 := hp1.rel.alloc (o := .loop A B p N e 0) (ob := .loop { state := .ready, pending := none, fn, tmps := a.tmps, params := ps, assign := A, body := B, defers := w.heap.size }) (a := 0) (c := 0) ⟨_, rfl, rfl, rfl, Array.ext' hps, hp, hN, hmk, hE1.size, hE1.has, .inl ⟨rfl, rfl, rfl⟩⟩
      have hD : (θ.iL s.n ⟨w.heap.size, 0, 0⟩) s.n = some ⟨w.heap.size, 0, 0⟩ := Th.eN ..
      generalize hθ1 : θ.iL s.n ⟨w.heap.size, 0, 0⟩ = θ1 at hp1 hp2 hE1 hD
      generalize hs1 : (⟨s.n.next, Tr.set O.no s.n .CU s.m⟩ : St) = s1 at hp1 hp2
      generalize hw1 : ({ w with heap := w.heap.push (.deferred (some [])) } : World) = w1 at hp1 hp2
      have hsz : w1.heap.size = w.heap.size + 1 := by rw [← hw1]; simp
      have hq : (θ1.iL s1.n ⟨w1.heap.size, 0, 0⟩) s1.n = some ⟨w1.heap.size, 0, 0⟩ := Th.eN ..
      generalize hθ2 : θ1.iL s1.n ⟨w1.heap.size, 0, 0⟩ = θ2 at hp2 hq
      generalize hs2 : (⟨s1.n.next, Tr.set O.no s1.n (.loop A B p N e 0) s1.m⟩ : St) = s2 at hp2
      generalize hw2 : ({ w1 with heap := w1.heap.push (.loop { state := .ready, pending := none, fn, tmps := a.tmps, params := ps, assign := A, body := B, defers := w.heap.size }) } : World) = w2 at hp2
      have hp12 := hp1.trans hp2
      have h : (R.rec .no (fun _ s3 => kL (.no [4001]) (bQ s1.n s3) fun _ _ _ _ _ st => Option.rec (.no [4002]) (fun x => .ok x (Tr.set V.no rE (.p s.n 0) e) (fx s1.n .qV s3)) (ub st)) (F gf (j9 xs1 (.yl s1.n :: bs)) s2) : RC) = .ok x e' s' := by
       rw [← hs2, ← hs1]; exact h
      cases hcall : F gf (j9 xs1 (.yl s1.n :: bs)) s2 with
      | no ww => rw [hcall] at h; cases h
      | ok v s3 =>
       rw [hcall] at h
       have h : kL (.no [4001]) (bQ s1.n s3) (fun _ _ _ _ _ st => Option.rec (.no [4002]) (fun x => .ok x (Tr.set V.no rE (.p s.n 0) e) (fx s1.n .qV s3)) (ub st) : Code → Code → Nat → Nat → Env → Nat → RC) = .ok x e' s' := h
       obtain ⟨A3, B3, p3, M3, e3', st, hg3, h⟩ := yH (d := .no []) h
       cases hx : ub st with
       | none => rw [hx] at h; cases h
       | some x3 =>
        rw [hx] at h
        cases h
        rw [gX] at hcall
        have hl : s1.n = s1.n := rfl
        have hvs : fy θ2 (xs1 ++ .yl s1.n :: bs) (ys ++ .func (.yield w1.heap.size) #[] #[] :: zs) :=
         (e2.le hp12.le).app ⟨_, _, rfl, ⟨_, hq, rfl⟩, e3.le hp12.le⟩
        have hends := hF w0 T gf _ s2 v s3 θ2 w2 _ hcall hvs hp2.rel
        rw [hy.2 gf hh] at hends
        rcases hends with ⟨_, _, _, h0, _⟩ | ⟨_, _, h0, _⟩ | ⟨f1, args1, w3, h0, hcalls⟩
        ·cases h0
        ·cases h0
        ·cases h0
         refine ⟨w1.heap.size, [{ target := .collected w.heap.size, args := #[] }], w2, { target := .fn (.func gf) zs.toArray, args := ys.toArray ++ #[.func (.yield w1.heap.size) #[] #[]] }, w2, gf, (ys ++ .func (.yield w1.heap.size) #[] #[] :: zs).toArray, w2, ?_, ?_, fun _ _ => trivial, ?_, nofun, callsIn_wide.2 (Calls.mono hcalls fun en w3 hx3 => ?_)⟩
         ·rw [show Fence.wide.round = none from rfl, run_enterLoop_outer, hsz, ← hw2, ← hw1]
          rfl
         ·have e6 : (#[Operand.const (.func (.yield w1.heap.size) #[] #[])] : Array Operand).map a.eval = #[.func (.yield w1.heap.size) #[] #[]] := by
           apply Array.ext'
           simp
           rfl
          simp only [rangeCall, resolve, e1, Deferred.ofValue, e6]
          rfl
         ·have := hy.2 gf hh ((ys.toArray ++ #[.func (.yield w1.heap.size) #[] #[]]) ++ zs.toArray) w2
          simpa [invoke] using this
         ·obtain ⟨θ3, y3, rfl, hv3, hp3⟩ := hx3
          have hq3 := hp3.le _ _ hq
          obtain ⟨rec3, l1, l2, l3, l4, l5, lN, l6, l7, l8, l9⟩ := hp3.rel.sx hg3 hq3
          obtain ⟨k1, k2⟩ := yT hx l9
          have hr4 := hp3.rel.putObj (o := .qV) (ob := .loop { rec3 with state := .exhausted }) (by rw [hg3]; exact nofun) hq3 trivial
          have hpost : fK w0 T θ s θ3 (fx s1.n .qV s3) (w3.putObj w1.heap.size (.loop { rec3 with state := .exhausted })) := hp12.trans (hp3.trans (hr4.rp (s := s3) rfl))
          have hE4 : Ev N θ3 (Tr.set V.no rE (.p s.n 0) e) { a with defers := [{ target := .collected w.heap.size, args := #[] }] ++ a.defers } := by
           refine ⟨hE.size, .inr ⟨s.n, ⟨w.heap.size, 0, 0⟩, dv .., hp3.le _ _ (hp2.le _ _ hD), by rw [hdf]; rfl⟩, fun t u ht hu hn => ?_⟩
           rw [dw rE (slot t) e fun e0 => po t e0.symm] at hu
           obtain ⟨x, h1, h2⟩ := hE.has t u ht hu hn
           exact ⟨x, h1, h2.le hpost.le⟩
          have hfin := hk _ _ _ hE4 hpost
          refine ⟨_, _, run_endLoop l1 k1, ?_⟩
          rcases k2 with ⟨rfl, k2⟩ | ⟨rfl, k2⟩ | ⟨id, rfl, k2⟩
          ·rw [k2] at hfin ⊢; exact hfin
          ·rw [k2] at hfin ⊢; exact wpIn_ret hfin
          ·rw [k2] at hfin ⊢; exact wpIn_exit hfin
     ·cases h
   ·cases h
 ·cases h
theorem jo {y : Option YS} {ro : Option Nat} (hY : ∀ yy, y = some yy → CV P yy ∧ ro = none) (hF : ph P F) (hN : N ≤ 2 ^ 20) : ∀ (c : Code) (x : Ex) (e e' : Env) (s s' : St) (θ : Th) (a : Act) (w : World) (Q : Exit → Act → World → Prop), lX (cC P N c) y F e s = .ok x e' s' → Ev N θ e a → Rel w0 T θ s w →
  (∀ θ1 a1 w1, Ev N θ1 e' a1 → fK w0 T θ s θ1 s' w1 → Q (u5 x) a1 w1) → c.wpIn (Fn ro) 0 P Q a w
 | .skip, x, e, e', s, s', θ, a, w, Q, h, hE, hr, hk => by cases h; exact wpIn_skip (hk θ a w hE hr.post)
 | .label _, x, e, e', s, s', θ, a, w, Q, h, hE, hr, hk => by cases h; exact wpIn_label (hk θ a w hE hr.post)
 | .exit id, x, e, e', s, s', θ, a, w, Q, h, hE, hr, hk => by cases h; exact wpIn_exit (hk θ a w hE hr.post)
 | .ret, x, e, e', s, s', θ, a, w, Q, h, hE, hr, hk => by cases h; exact wpIn_ret (hk θ a w hE hr.post)
 | .seq c d, x, e, e', s, s', θ, a, w, Q, h, hE, hr, hk => by
  obtain ⟨z, e1, s1, h1, h2⟩ := yo (show (RC.rec .no (yq (lX (cC P N d) y F)) (lX (cC P N c) y F e s) : RC) = .ok x e' s' from h)
  refine wpIn_seq (jo hY hF hN c z e e1 s s1 θ a w _ h1 hE hr fun θ1 a1 w1 hE1 hp1 => ?_)
  rcases vK h2 with ⟨rfl, h3⟩ | ⟨hy, rfl, rfl, rfl⟩
  ·exact jo hY hF hN d x e1 e' s1 s' θ1 a1 w1 Q h3 hE1 hp1.rel fun θ2 a2 w2 hE2 hp2 => hk θ2 a2 w2 hE2 (hp1.trans hp2)
  ·exact then_ok (fun e0 => absurd e0 hy) fun _ => hk θ1 a1 w1 hE1 hp1
 | .cond c t f, x, e, e', s, s', θ, a, w, Q, h, hE, hr, hk => by
  have h' : sV (.no [1002]) (eP (cX c) e) (fun b => bif b then lX (cC P N t) y F e s else lX (cC P N f) y F e s) = .ok x e' s' := h
  unfold sV at h'
  split at h'
  ·rename_i b hb
   refine wpIn_cond_split (t := b) (hE.rx c _ hb nofun) (fun ht => ?_) fun hf => ?_
   ·subst ht; exact jo hY hF hN t x e e' s s' θ a w Q h' hE hr hk
   ·subst hf; exact jo hY hF hN f x e e' s s' θ a w Q h' hE hr hk
  ·cases h'
 | .block id c, x, e, e', s, s', θ, a, w, Q, h, hE, hr, hk => by
  obtain ⟨z, e1, s1, h1, h2⟩ := yo (show (RC.rec .no (fun x e s => Ex.rec (.ok .nx e s) (fun j => .ok (bif Nat.beq id j then .nx else .ex j) e s) (.ok .rt e s) x) (lX (cC P N c) y F e s) : RC) = .ok x e' s' from h)
  refine wpIn_block (jo hY hF hN c z e e1 s s1 θ a w _ h1 hE hr fun θ1 a1 w1 hE1 hp1 => ?_)
  cases z with
  | nx => cases h2; exact hk θ1 a1 w1 hE1 hp1
  | rt => cases h2; exact hk θ1 a1 w1 hE1 hp1
  | ex j =>
   cases hj : Nat.beq id j with
   | true =>
    have h2 : RC.ok (bif Nat.beq id j then .nx else .ex j) e1 s1 = .ok x e' s' := h2
    rw [hj] at h2
    cases h2
    obtain rfl := nE hj
    show Exit.inBlock id Q (.exit id) a1 w1
    simp only [Exit.inBlock, if_true]
    exact hk θ1 a1 w1 hE1 hp1
   | false =>
    have h2 : RC.ok (bif Nat.beq id j then .nx else .ex j) e1 s1 = .ok x e' s' := h2
    rw [hj] at h2
    cases h2
    have hne := Nat.ne_of_beq_eq_false hj
    show Exit.inBlock id Q (.exit j) a1 w1
    simp only [Exit.inBlock]
    first
     | (rw [if_neg (fun e0 => hne e0.symm)]; exact hk θ1 a1 w1 hE1 hp1)
     | (rw [if_neg hne]; exact hk θ1 a1 w1 hE1 hp1)
 | .loop c, x, e, e', s, s', θ, a, w, Q, h, hE, hr, hk => by
  have key : ∀ n e s θ a w, uU n (lX (cC P N c)) y F e s = .ok x e' s' → Ev N θ e a → Rel w0 T θ s w → (∀ θ1 a1 w1, Ev N θ1 e' a1 → fK w0 T θ s θ1 s' w1 → Q (u5 x) a1 w1) → Code.roundsIn (Fn ro) 0 P c Q n a w := fun n => by
   induction n with
   | zero => intro e s θ a w h; cases h
   | succ n ih =>
    intro e s θ a w h hE hr hk
    obtain ⟨z, e1, s1, h1, h2⟩ := yo (show (RC.rec .no (yq (uU n (lX (cC P N c)) y F)) (lX (cC P N c) y F e s) : RC) = .ok x e' s' from h)
    refine jo hY hF hN c z e e1 s s1 θ a w _ h1 hE hr fun θ1 a1 w1 hE1 hp1 => ?_
    rcases vK h2 with ⟨rfl, h3⟩ | ⟨hy, rfl, rfl, rfl⟩
    ·exact ih e1 s1 θ1 a1 w1 h3 hE1 hp1.rel fun θ2 a2 w2 hE2 hp2 => hk θ2 a2 w2 hE2 (hp1.trans hp2)
    ·exact then_ok (fun e0 => absurd e0 hy) fun _ => hk θ1 a1 w1 hE1 hp1
  exact wpIn_loop_rounds 5000 (key 5000 e s θ a w h hE hr hk)
 | .region id ops true, x, e, e', s, s', θ, a, w, Q, h, hE, hr, hk => zM hF hN h hE hr fun θ1 a1 w1 hE1 hp1 hx => by subst hx; exact hk θ1 a1 w1 hE1 hp1
 | .region id ops false, x, e, e', s, s', θ, a, w, Q, h, hE, hr, hk => by
  have h' : (RC.rec (fun w => .no (id :: w)) .ok (tM (ops.toList.map (cG P N ops)) y F e s fun e s => .ok .nx e s) : RC) = .ok x e' s' := h
  cases hg : tM (ops.toList.map (cG P N ops)) y F e s fun e s => .ok .nx e s with
  | no ww => rw [hg] at h'; cases h'
  | ok x2 e2 s2 =>
   rw [hg] at h'
   cases h'
   refine wpIn_region_list (sm hY hF hN ops.toList e s _ θ a w hg hE hr fun e1 s1 θ1 a1 w1 h1 hE1 hp1 => ?_)
   cases h1
   exact hk θ1 a1 w1 hE1 hp1
 | .rangeFunc g ps A B, x, e, e', s, s', θ, a, w, Q, h, hE, hr, hk => by
  cases y with
  | none =>
   exfalso
   revert h
   simp only [cC]
   split
   ·simp only [Bool.cond_eq_ite]
    split <;> intro h <;> cases h
   ·intro h; cases h
  | some yy =>
   obtain ⟨hy, rfl⟩ := hY yy rfl
   exact zJ hy hF hN h hE hr hk
 | .scope _, x, e, e', s, s', θ, a, w, Q, h, hE, hr, hk => by cases h
 | .goto _, x, e, e', s, s', θ, a, w, Q, h, hE, hr, hk => by cases h
 | .refuse _, x, e, e', s, s', θ, a, w, Q, h, hE, hr, hk => by cases h
end Ci
namespace Ci
open Go
variable {P : Program} {w0 : World} {T : Nat → Prop} {θ : Th} {s s' : St} {w : World} {e e' : Env} {F : Fs} {v : V} {N : Nat} {a : Act} {Q : Exit → Act → World → Prop}
def yn (tmps : Array Value) : ResultVar → Sem Value
 | .tmp t => pure (tmps.getD t undef)
 | .cell b t => do loadVar t (← asAddr (tmps.getD b undef))
theorem uT (fn : Func) (tmps : Array Value) : results fn tmps = (do
  let vs ← fn.results.mapM (yn tmps)
  pure (if h : vs.size = 1 then vs[0] else .tuple vs)) := by
 unfold results yn
 rfl
theorem Ev.at (hE : Ev N θ e a) {t : Nat} (ht : t < 2 ^ 20) {u : V} (hu : Tr.get V.no (slot t) e = u) (hn : u ≠ .no) : Rv θ u (a.tmps.getD t undef) := by
 obtain ⟨x, h1, h2⟩ := hE.has t u ht hu hn
 rw [Array.getD_eq_getD_getElem?, h1]
 exact h2
theorem zK {r : ResultVar} {K : V → R} (h : BP (cR P N r) e s K = .ok v s') (hN : N ≤ 2 ^ 20) (hE : Ev N θ e a) (hr : Rel w0 T θ s w) : ∃ u x, K u = .ok v s' ∧ Rv θ u x ∧ (yn a.tmps r).run P w = .ok x w := by
 cases r with
 | tmp t =>
  simp only [cR] at h
  cases hb : Nat.blt t N with
  | false => rw [hb] at h; cases h
  | true =>
   rw [hb] at h
   have hb : t < N := nB hb
   obtain ⟨hn, h⟩ := ql (show rH cg (Tr.get V.no (slot t) e) K = .ok v s' from h)
   exact ⟨_, _, h, hE.at (Nat.lt_of_lt_of_le hb hN) rfl hn, rfl⟩
 | cell t ty =>
  simp only [cR] at h
  cases hb : Nat.blt t N with
  | false => rw [hb] at h; cases h
  | true =>
   rw [hb] at h
   have hb : t < N := nB hb
   simp only [cdT] at h
   split at h
   ·rename_i inf hi
    cases hb2 : (fN P ty || jf P ty) with
    | false => rw [hb2] at h; cases h
    | true =>
     rw [hb2] at h
     obtain ⟨q, off, hq, h⟩ := jL (show sU cg (Tr.get V.no (slot t) e) (fun r off => iC cg (bQ r s) fun cs _ => rH cg (jq cs off inf.size (fN P ty)) K) = .ok v s' from h)
     obtain ⟨cs, mk, h, hm⟩ := eW h
     obtain ⟨hn, h⟩ := ql h
     obtain ⟨pl, hp, hX⟩ := hE.at (Nat.lt_of_lt_of_le hb hN) hq nofun
     obtain ⟨hl, hd, ys, tl, ct, L⟩ := hr.tS hp hm
     cases ho : fN P ty with
     | true =>
      rw [ho] at h hn
      have hnv : qU off cs ≠ .no := hn
      obtain ⟨y, hy, h4⟩ := L.vs.get (lJ rfl hnv)
      refine ⟨_, y, h, h4, ?_⟩
      show (do loadVar ty (← asAddr (a.tmps.getD t undef)) : Sem Value).run P w = _
      rw [hX, ao (show (asAddr (.pointer (some ⟨pl.b, pl.a + off, Option.none⟩))).run P w = .ok ⟨pl.b, pl.a + off, Option.none⟩ w from rfl)]
      simp [loadVar, oc ho, L.cell hy]
     | false =>
      rw [ho] at h hn hb2
      have ha : jf P ty = true := by simpa using hb2
      unfold jq at h hn
      simp only [cdF] at h hn
      cases hb3 : fO (pA inf.size (gF off cs)) inf.size with
      | false => rw [hb3] at hn; exact absurd rfl hn
      | true =>
       rw [hb3] at h
       rw [fj, kY] at hb3 h
       have hlen := gM hb3
       rw [List.length_take, List.length_drop] at hlen
       have h1' : off + inf.size ≤ cs.length ∨ inf.size = 0 := by omega
       refine ⟨_, .agg ((ys.drop off).take inf.size).toArray, h, ⟨_, rfl, (L.vs.drop off).take inf.size, ?_⟩, ?_⟩
       ·have := L.one
        rw [List.all_eq_true] at this ⊢
        exact fun x hx => this x (List.mem_of_mem_drop (List.mem_of_mem_take hx))
       ·have hload : (loadCells ⟨pl.b, pl.a + off, none⟩ inf.size).run P w = .ok ((ys.drop off).take inf.size).toArray w := by
         rcases h1' with h1' | h0
         ·exact L.load h1'
         ·simp [loadCells, loadCellsFrom, h0]
        show (do loadVar ty (← asAddr (a.tmps.getD t undef)) : Sem Value).run P w = _
        rw [hX, ao (show (asAddr (.pointer (some ⟨pl.b, pl.a + off, Option.none⟩))).run P w = .ok ⟨pl.b, pl.a + off, Option.none⟩ w from rfl)]
        simp [loadVar, od ha, bH hi, hload]
   ·cases h
theorem vJ : ∀ (rs : List ResultVar) (K : List V → R), tF (rs.map (cR P N)) e s K = .ok v s' → N ≤ 2 ^ 20 → Ev N θ e a → Rel w0 T θ s w → ∃ us xs, K us = .ok v s' ∧ fy θ us xs ∧ (rs.mapM (yn a.tmps)).run P w = .ok xs w
 | [], K, h, hN, hE, hr => ⟨[], [], h, rfl, rfl⟩
 | r :: rs, K, h, hN, hE, hr => by
  have h' : BP (cR P N r) e s (fun v => tF (rs.map (cR P N)) e s fun vs => K (v :: vs)) = .ok v s' := h
  obtain ⟨u, x, h1, h2, h3⟩ := zK h' hN hE hr
  obtain ⟨us, xs, h4, h5, h6⟩ := vJ rs _ h1 hN hE hr
  refine ⟨u :: us, x :: xs, h4, ⟨x, xs, rfl, h2, h5⟩, ?_⟩
  rw [List.mapM_cons, ao h3, ao h6]
  rfl
theorem zB {us : List V} {xs : List Value} (h : fy θ us xs) : Rv θ (xE us) (if h : xs.toArray.size = 1 then xs.toArray[0] else .tuple xs.toArray) := by
 have hl := h.length
 unfold xE
 split
 ·rename_i u
  obtain ⟨x, zs, rfl, h1, h2⟩ := h
  cases h2
  simpa using h1
 ·rename_i hne
  have : xs.toArray.size ≠ 1 := fun e1 => by
   rw [List.size_toArray] at e1
   rw [e1] at hl
   obtain ⟨u, rfl⟩ := List.length_eq_one_iff.1 hl
   exact hne u rfl
  rw [dif_neg this]
  exact ⟨xs, by simp, h⟩
theorem wc : ∀ (l : List Nat) (vs : List V), (∀ t ∈ l, t < 2 ^ 20) → ∀ t v, t < 2 ^ 20 → Tr.get V.no (slot t) (iZ (l.map slot) vs) = v → v ≠ .no → ∃ j : Nat, l[j]? = some t ∧ vs[j]? = some v
 | [], vs, _, t, v, ht, h, hn => by
  have : (V.no : V) = v := by
   rw [← h]
   show V.no = Tr.get V.no (slot t) .lf
   cases slot t <;> rfl
  exact absurd this.symm hn
 | d :: l, vs, hl, t, v, ht, h, hn => by
  have h' : Tr.get V.no (slot t) (Tr.set V.no (slot d) (tX vs) (iZ (l.map slot) (ib vs))) = v := h
  by_cases e1 : d = t
  ·subst e1
   rw [dv] at h'
   have := qo h' hn
   cases vs with
   | nil => cases this
   | cons x xs => exact ⟨0, rfl, by simpa using this⟩
  ·rw [dw _ _ _ fun e2 => e1 (mO (hl d (List.mem_cons_self ..)) ht e2)] at h'
   obtain ⟨j, h1, h2⟩ := wc l (ib vs) (fun t ht => hl t (List.mem_cons_of_mem _ ht)) t v ht h' hn
   refine ⟨j + 1, by simpa using h1, ?_⟩
   rw [pB] at h2
   cases vs with
   | nil => simp at h2
   | cons x xs => simpa using h2
theorem yX : ∀ (l : List Nat) (vs : List V), Tr.get V.no rE (iZ (l.map slot) vs) = .no
 | [], vs => rfl
 | d :: l, vs => by
  show Tr.get V.no rE (Tr.set V.no (slot d) (tX vs) (iZ (l.map slot) (ib vs))) = .no
  rw [dw _ _ _ (po d)]
  exact yX l (ib vs)
theorem pU {fn : Func} {s1 : St} (hN : N ≤ 2 ^ 20) (hE : Ev N θ e a) (hr : Rel w0 T θ s w) (h : tF (fn.results.toList.map (cR P N)) e s (fun vs => .ok (xE vs) s) = .ok v s1) : s = s1 ∧ ∃ x, (results fn a.tmps).run P w = .ok x w ∧ Rv θ v x := by
 obtain ⟨us, xs, h1, h2, h3⟩ := vJ fn.results.toList _ h hN hE hr
 cases h1
 refine ⟨rfl, _, ?_, zB h2⟩
 rw [uT]
 have h4 : (fn.results.mapM (yn a.tmps)).run P w = .ok xs.toArray w := by
  rw [Array.mapM_eq_mapM_toList, map_eq_pure_bind, ao h3]
  rfl
 rw [ao h4]
 rfl
theorem Ak {fn : Func} {R : Ending → World → Prop} (hN : N ≤ 2 ^ 20) (hE : Ev N θ e a) (hr : Rel w0 T θ s w) (h : va (fn.results.toList.map (cR P N)) e s = .ok v s') (hR : ∀ x w', Rv θ v x → fK w0 T θ s θ s' w' → R (.returned x) w') : LeavesInM Fence.wide 0 P fn a.tmps R a.defers .returning w := by
 unfold va at h
 split at h
 ·rename_i hm
  have hd : a.defers = [] := by
   rcases hE.defers with hd | ⟨q, pl, hd, _⟩
   ·exact hd.2
   ·rw [hm] at hd; cases hd
  rw [hd]
  obtain ⟨rfl, x, h1, h2⟩ := pU hN hE hr h
  exact ⟨x, h1, hR x w h2 hr.post⟩
 ·rename_i D off hm
  rcases hE.defers with hd | ⟨q, pl, hd, hq, hds⟩
  ·rw [hm] at hd; cases hd.1
  ·rw [hm] at hd
   cases hd
   split at h
   ·rename_i hg
    obtain ⟨pl', ob, h1, h2, h3⟩ := hr.mem D (by rw [hg]; exact nofun)
    rw [hq] at h1
    obtain rfl := oI h1
    rw [hg] at h3
    have h3 : ob = .deferred (some []) := h3
    subst h3
    have hr' := hr.putObj (o := .qV) (ob := .deferred none) (by rw [hg]; exact nofun) hq trivial
    obtain ⟨rfl, x, k1, k2⟩ := pU hN hE hr' h
    rw [hds]
    exact ⟨nofun, .inl ⟨pl.b, _, rfl, run_takeDeferred h2, x, k1, hR x _ k2 (hr'.rp (s := s) rfl)⟩⟩
   ·cases h
 ·cases h
theorem iJ {f : Nat} (h : xg P f = true) (args : Array Value) (w : World) : (callFunc f args).run P w = .ok (.enter f args) w := by
 unfold xg at h
 split at h
 ·rename_i fn hf
  rw [Bool.and_eq_true] at h
  have hnm : (fn.name == "runtime.NumGoroutine") = false := by simpa using h.1
  unfold callFunc
  have h1 : (program).run P w = .ok P w := rfl
  rw [ao h1, hf]
  have hb : fn.body.isNone = false := by
   cases hb : fn.body with
   | none => rw [hb] at h; cases h.2
   | some b => rfl
  simp only [hnm, hb]
  rfl
 ·cases h
theorem BB (hF : ph P F) : CV P (zt P F) := by
 refine ⟨fun A N e s x e' s' h l w0 T θ a w Q hE hr hk => ?_, fun f h args w => iJ h args w⟩
 have h : (bif Nat.ble N 0x100000 then lX (cC P N A) none F e s else .no [4010]) = .ok x e' s' := h
 cases hN : Nat.ble N 0x100000 with
 | false => rw [hN] at h; cases h
 | true =>
  rw [hN] at h
  exact jo (y := none) (ro := some l) nofun hF (nB hN) A x e e' s s' θ a w Q h hE hr hk
theorem ya {f : Nat} {fn : Func} {c : CF} {vs : List V} {args : List Value} (hF : ph P F) (hf : P.funcs[f]? = some fn) (hc : cF P fn = some c) (h : yb c (some (zt P F)) F vs s = .ok v s') (hv : fy θ vs args) (hr : Rel w0 T θ s w) : Ends P w0 T θ s v s' ((callFunc f args.toArray).run P w) := by
 unfold cF at hc
 cases hnm : fn.name == "runtime.NumGoroutine" with
 | true => rw [hnm] at hc; cases hc
 | false =>
  rw [hnm] at hc
  simp only [cdF] at hc
  split at hc
  ·rename_i b hb
   cases hbd : (Nat.ble (fn.params.size + fn.nfree) fn.ntmps && Nat.ble fn.ntmps 0x100000) with
   | false => rw [hbd] at hc; cases hc
   | true =>
    rw [hbd] at hc
    obtain rfl := oI hc
    rw [Bool.and_eq_true] at hbd
    have hk := nB hbd.1
    have hN : fn.ntmps ≤ 2 ^ 20 := nB hbd.2
    have hrun : (callFunc f args.toArray).run P w = .ok (.enter f args.toArray) w := by
     unfold callFunc
     have h1 : (program).run P w = .ok P w := rfl
     rw [ao h1, hf]
     simp only [hnm, hb, Option.isNone_some]
     rfl
    have h' : (bif fO vs (fn.params.size + fn.nfree) then (RC.rec .no (fun x e s => Ex.rec (va (fn.results.toList.map (cR P fn.ntmps)) e s) (fun _ => .no [1003]) (va (fn.results.toList.map (cR P fn.ntmps)) e s) x) (lX (cC P fn.ntmps b) (some (zt P F)) F (iZ ((List.range (fn.params.size + fn.nfree)).map slot) vs) s) : R) else .no [1004]) = .ok v s' := h
    cases hlen : fO vs (fn.params.size + fn.nfree) with
    | false => rw [hlen] at h'; cases h'
    | true =>
     rw [hlen] at h'
     simp only [cdT] at h'
     have hlen := gM hlen
     have hal := hv.length
     cases hrc : lX (cC P fn.ntmps b) (some (zt P F)) F (iZ ((List.range (fn.params.size + fn.nfree)).map slot) vs) s with
     | no ww => rw [hrc] at h'; cases h'
     | ok x e1 s1 =>
      rw [hrc] at h'
      have hend : va (fn.results.toList.map (cR P fn.ntmps)) e1 s1 = .ok v s' ∧ (x = .nx ∨ x = .rt) := by
       cases x with
       | nx => exact ⟨h', .inl rfl⟩
       | rt => exact ⟨h', .inr rfl⟩
       | ex j => cases h'
      refine .inr (.inr ⟨f, _, w, hrun, callsIn_wide.1 (callsIn_of_wp_marks (F := Fence.wide) (n := 0) hf hb trivial ?_)⟩)
      have hE0 : Ev fn.ntmps θ (iZ ((List.range (fn.params.size + fn.nfree)).map slot) vs) { tmps := args.toArray ++ Array.replicate (fn.ntmps - args.toArray.size) undef, defers := [] } := by
       refine ⟨by simp; omega, .inl ⟨yX _ _, rfl⟩, fun t u ht hu hn => ?_⟩
       obtain ⟨j, h1, h2⟩ := wc (List.range (fn.params.size + fn.nfree)) vs (fun t ht => by have := List.mem_range.1 ht; omega) t u ht hu hn
       obtain ⟨y, h3, h4⟩ := hv.get h2
       have hj := (List.getElem?_eq_some_iff.1 h1).1
       have : j = t := by
        have := (List.getElem?_eq_some_iff.1 h1).2
        simpa using this
       subst this
       refine ⟨y, ?_, h4⟩
       have hlt := (List.getElem?_eq_some_iff.1 h3).1
       rw [Array.getElem?_append_left (by simpa using hlt)]
       simpa using h3
      refine jo (y := some (zt P F)) (ro := none) (fun yy e0 => by cases e0; exact ⟨BB hF, rfl⟩) hF hN b x _ _ _ _ θ _ w _ hrc hE0 hr fun θ1 a1 w1 hE1 hp1 => ?_
      have hL := Ak (fn := fn) (R := fun en w' => ∃ θ' x, en = .returned x ∧ Rv θ' v x ∧ fK w0 T θ s θ' s' w') hN hE1 hp1.rel hend.1 fun y w' h1 h2 => ⟨θ1, y, rfl, h1, hp1.trans h2⟩
      rcases hend.2 with rfl | rfl
      ·exact hL
      ·exact hL
  ·cases hc
def CN (P : Program) (sp : Nat → Option (List V → St → R)) : Prop := ∀ f g, sp f = some g → ∀ w0 T vs s v s' θ w args, g vs s = .ok v s' → fy θ vs args → Rel w0 T θ s w → Ends P w0 T θ s v s' ((callFunc f args.toArray).run P w)
theorem Bc {r : R} {f : Nat} (h : (R.rec (fun w => .no (f :: w)) .ok r : R) = .ok v s') : r = .ok v s' := by
 cases r with
 | no w => cases h
 | ok u s1 => exact h
theorem vH {sp : Nat → Option (List V → St → R)} (hs : CN P sp) : ∀ n, ph P (zI sp (u1 P) (zt P) n)
 | 0, w0, T, f, vs, s, v, s', θ, w, args, h, hv, hr => by cases h
 | n + 1, w0, T, f, vs, s, v, s', θ, w, args, h, hv, hr => by
  have h' : (Option.rec (Option.rec (.no [1006, f]) (fun c => R.rec (fun w => .no (f :: w)) .ok (yb c (some (zt P (zI sp (u1 P) (zt P) n))) (zI sp (u1 P) (zt P) n) vs s)) (u1 P f)) (fun g => R.rec (fun w => .no (f :: w)) .ok (g vs s)) (sp f) : R) = .ok v s' := h
  cases hsp : sp f with
  | some g =>
   rw [hsp] at h'
   exact hs f g hsp w0 T vs s v s' θ w args (Bc h') hv hr
  | none =>
   rw [hsp] at h'
   cases hg : u1 P f with
   | none => rw [hg] at h'; cases h'
   | some c =>
    rw [hg] at h'
    unfold u1 at hg
    cases hf : P.funcs[f]? with
    | none => rw [hf] at hg; cases hg
    | some fn =>
     rw [hf] at hg
     exact ya (vH hs n) hf hg (Bc h') hv hr
end Ci
namespace Ci
open Go
variable {P : Program} {w0 : World} {T : Nat → Prop} {θ : Th} {s s' : St} {w : World} {v : V}
theorem Rel.grow {w' : World} (h : Rel w0 T θ s w) (e1 : w'.os = w.os) (e2 : w'.tape = w.tape) (e3 : w'.output = w.output) (e4 : w.heap.size ≤ w'.heap.size) (e5 : ∀ k, k < w.heap.size → w'.heap[k]? = w.heap[k]?) : Rel w0 T θ s w' :=
 ⟨e1.trans h.os, e2.trans h.tape, e3.trans h.output, Nat.le_trans h.size e4, fun k hk ht => (e5 k (Nat.lt_of_lt_of_le hk h.size)).trans (h.frame k hk ht), h.num, fun r pl hr hp => let ⟨a, b⟩ := h.new r pl hr hp; ⟨a, Nat.lt_of_lt_of_le b e4⟩, h.inj, fun r hr => let ⟨pl, ob, a, b, c⟩ := h.mem r hr; ⟨pl, ob, a, (e5 _ (h.new r pl hr a).2).trans b, c⟩⟩
theorem sG (r : df) : bQ r ⟨.e, .lf⟩ = .no := by cases r <;> rfl
theorem Rel.init (w : World) : Rel w (fun _ => False) (fun _ => none) ⟨.e, .lf⟩ w :=
 ⟨rfl, rfl, rfl, Nat.le_refl _, fun _ _ _ => rfl, nofun, fun r pl hr _ => absurd (sG r) hr, fun r _ _ _ hr _ _ _ _ => absurd (sG r) hr, fun r hr => absurd (sG r) hr⟩
theorem xf {r : R} (h : isTrue r = true) : ∃ s', r = .ok (.b true) s' := by
 cases r with
 | no w => cases h
 | ok v s =>
  unfold isTrue at h
  simp only at h
  split at h
  ·subst h; exact ⟨s, rfl⟩
  ·cases h
theorem xn {sp : Nat → Option (List V → St → R)} {n f : Nat} (hs : CN P sp) (hf : xg P f = true) (h : isTrue (C9 sp P n f) = true) : Eng.Pure P [] f #[] (.bool true) := by
 intro w Z hS
 obtain ⟨s', h⟩ := xf h
 have := vH hs n w (fun _ => False) f [] ⟨.e, .lf⟩ (.b true) s' (fun _ => none) w [] h rfl (Rel.init w)
 rw [iJ hf] at this
 rcases this with ⟨_, _, _, h0, _⟩ | ⟨_, _, h0, _⟩ | ⟨f1, args1, w1, h0, hc⟩
 ·cases h0
 ·cases h0
 ·cases h0
  refine hc.mono fun en w' ⟨θ', x, e1, e2, hp⟩ => ?_
  have e2 : x = .bool true := e2
  subst e2
  exact ⟨e1, hp.rel.os, hp.rel.tape, hp.rel.output, hp.rel.size, fun k hk _ => hp.rel.frame k hk id, [], by simp [Eng.keys], by simp [Eng.keys], by simp, trivial, by simp⟩
noncomputable def vX (n x : Nat) : List V → V := List.rec (.s 0 0) (fun v r ih => mG .no v fun m y => match r with
 | [] => .s m y
 | _ => mG .no ih fun k z => .s (Nat.add m (Nat.add n k)) (Nat.add y (Nat.mul (Nat.add x (Nat.mul z (fq n))) (fq m))))
noncomputable def uK (vs : List V) (s : St) : R := match vs with
 | [.sl r off len cap known, .s n x] => bif Nat.ble len cap || !known then iC cg (bQ r s) fun cs _ => jO len (gF off cs) fun xs => mG cg (vX n x xs) fun m z => bif Nat.ble m 0x100000 && Nat.ble len 0x100000 then .ok (.s m z) s else cg else cg
 | _ => cg
theorem sT {x : V} {K : Nat → Nat → V} {m z : Nat} (h : mG V.no x K = V.s m z) : ∃ n c, x = .s n c ∧ K n c = V.s m z := by
 unfold mG at h
 cases x <;> first | (cases h; done) | exact ⟨_, _, rfl, h⟩
theorem tU {n x : Nat} (hx : x < 256 ^ n) : ∀ {cs : List V} {ys : List Value} {m z : Nat}, vX n x cs = .s m z → fy θ cs ys → ∃ bs : List ByteArray, ys = bs.map Value.string ∧ z < 256 ^ m ∧ bytesOf m z = Lib.join (bs.map (·.data.toList)) (bytesOf n x)
 | [], ys, m, z, h, hv => by
  cases hv
  cases h
  exact ⟨[], rfl, by decide, rfl⟩
 | [c], ys, m, z, h, ⟨y, zs, h1, h2, h3⟩ => by
  cases h3
  obtain ⟨m', y', rfl, h⟩ := sT (show mG V.no c (fun m y => V.s m y) = V.s m z from h)
  cases h
  obtain ⟨k1, rfl⟩ := h2
  refine ⟨[cZ m z], h1, k1, ?_⟩
  rw [List.map_cons, List.map_nil, Lib.join_one, dt]
 | c :: d :: cs, ys, m, z, h, ⟨y, zs, h1, h2, h3⟩ => by
  obtain ⟨m', y', rfl, h⟩ := sT (show mG V.no c (fun m y => mG V.no (vX n x (d :: cs)) fun k z => V.s (Nat.add m (Nat.add n k)) (Nat.add y (Nat.mul (Nat.add x (Nat.mul z (fq n))) (fq m)))) = V.s m z from h)
  obtain ⟨k', z', h5, h⟩ := sT h
  have h5 : vX n x (d :: cs) = V.s k' z' := h5
  obtain ⟨bs, rfl, k2, k3⟩ := tU hx h5 h3
  obtain ⟨k1, rfl⟩ := h2
  cases h
  cases bs with
  | nil => obtain ⟨y, zs, h, _⟩ := h3; cases h
  | cons b bs =>
   refine ⟨cZ m' y' :: b :: bs, by rw [h1]; rfl, ?_, ?_⟩
   ·show y' + (x + z' * 256 ^ n) * 256 ^ m' < 256 ^ (m' + (n + k'))
    have e1 : x + z' * 256 ^ n < 256 ^ (n + k') := by
     rw [Nat.pow_add]
     have := Nat.mul_le_mul_right (256 ^ n) (show z' + 1 ≤ 256 ^ k' from k2)
     rw [Nat.add_mul, Nat.one_mul, Nat.mul_comm (256 ^ k')] at this
     omega
    rw [Nat.pow_add]
    have := Nat.mul_le_mul_right (256 ^ m') (show x + z' * 256 ^ n + 1 ≤ 256 ^ (n + k') from e1)
    rw [Nat.add_mul, Nat.one_mul, Nat.mul_comm (256 ^ (n + k'))] at this
    omega
   ·show bytesOf (m' + (n + k')) (y' + (x + z' * 256 ^ n) * 256 ^ m') = _
    rw [jv _ _ _ _ k1, jv _ _ _ _ hx, k3, List.map_cons, List.map_cons, Lib.join_cons, Lib.join_cons, dt]
    simp [Lib.joinTail]
theorem wF {ρ : Go.Shelf.Ren} (L : Go.Proofs.Lays.n156 P ρ) (X : Go.Proofs.Builder.Extra P ρ) (hf : xg P (ρ.f 156) = true) (w0 : World) (T : Nat → Prop) (vs : List V) (s : St) (v : V) (s' : St) (θ : Th) (w : World) (args : List Value) (h : uK vs s = .ok v s') (hv : fy θ vs args) (hr : Rel w0 T θ s w) : Ends P w0 T θ s v s' ((callFunc (ρ.f 156) args.toArray).run P w) := by
 unfold uK at h
 split at h
 ·rename_i r off len cap known n x
  obtain ⟨hb, h⟩ := dC h
  obtain ⟨cs, mk, h, hm⟩ := eW h
  obtain ⟨hlen, h⟩ := ia h
  obtain ⟨m, z, hj, h⟩ := qI h
  obtain ⟨hsm, h⟩ := dC h
  cases h
  obtain ⟨X1, zs, rfl, h1, h2⟩ := hv
  obtain ⟨X2, zs, rfl, h3, h4⟩ := h2
  cases h4
  obtain ⟨pl, hp, rfl, hcap⟩ := h1
  obtain ⟨hx, rfl⟩ := h3
  obtain ⟨hl, hd, ys, tl, ct, Li⟩ := hr.tS hp hm
  rw [fj] at hj hlen
  have hvs := (Li.vs.drop off).take len
  obtain ⟨bs, e1, e2, e3⟩ := tU hx hj hvs
  rw [Bool.and_eq_true] at hsm
  have hm1 := nB hsm.1
  have hm2 := nB hsm.2
  have hyl := Li.vs.length
  rw [List.length_drop] at hlen
  have hbl : bs.length = len := by
   have := congrArg List.length e1
   rw [List.length_map, List.length_take, List.length_drop] at this
   omega
  refine .inr (.inr ⟨_, _, w, iJ hf _ _, ?_⟩)
  have hcells : ∀ (j : Nat) b, bs[j]? = some b → w.cell? ⟨pl.b, pl.a + off + j, none⟩ = some (.string b) := fun j b hb => by
   rw [Nat.add_assoc]
   refine Li.cell ?_
   have : ((ys.drop off).take len)[j]? = some (.string b) := by rw [e1, List.getElem?_map, hb]; rfl
   have hj := (List.getElem?_eq_some_iff.1 hb).1
   rw [List.getElem?_take_of_lt (by omega), List.getElem?_drop] at this
   exact this
  have hpb : pl.b < w.heap.size := (Array.getElem?_eq_some_iff.1 Li.heap).1
  have hle : bs.length ≤ (bif known then cap else pl.c - cap) := by
   rw [hbl]
   cases known with
   | true => simp only [Bool.not_true, Bool.or_false] at hb; exact nB hb
   | false => have := hcap rfl; simp only [cdF]; omega
  have hbn : (Lib.join (bs.map (·.data.toList)) (cZ n x).data.toList).length = m := by
   rw [dt, ← e3, gg]
  have := Go.Proofs.Any.strings_Join L X pl.b (pl.a + off) _ bs (cZ n x) w hcells hpb (by omega) hle (by rw [hbn]; omega)
  rw [hbl] at this
  refine this.mono fun en w' ⟨he, hw⟩ => ⟨θ, _, he, ⟨e2, ?_⟩, (hr.grow hw.os hw.tape hw.output hw.size hw.block).rp rfl⟩
  rw [dt, ← e3]
  rfl
 ·cases h
end Ci