/- A general engine for walks through Go programs in the given model: no statement of the program stands here; what is shown holds without conditions. -/
import Derived.Test.YtkpjjncdicgkkaaGreatDoorE2
import Derived.Test.YtkpjjncdicgkkaaGreatDoorE1
import Derived.Below
import Derived.Carry
import Derived.ChangeSame
import Derived.ChangeVars
import Derived.ChangeOld
import Derived.ChangeMaps5
import Derived.SizedLaws
import Derived.JoinedOf
import Derived.RowKit
import Derived.RowKitTokens
import Derived.LaidLaws
import Derived.LaidHandle
import Derived.Handed
import Derived.OpenShut
import Derived.SevenTiedAt
import Derived.Stop.Joined
import Derived.ChangeArms
import Derived.Laws.Strings

set_option linter.unusedVariables false
set_option linter.unusedSimpArgs false
set_option linter.unusedSectionVars false
namespace Eng
open Go
def iT (bs : List Nat) : Array Value := (bs.map fun b => Value.map (some b)).toArray
def ke {V : Type} (e n : Nat) (kk : IntKind) (f : V → Value) (S : Nat × List Nat) (ms : List (aS V)) : Pr := fun w =>
 ((S.1 :: S.2).Nodup ∧ S.2.length = n ∧ ms.length = n) ∧ w.heap[S.1]? = some (.cells (iT S.2) e (0, 0)) ∧ ∀ (i b : Nat) (m : aS V), S.2[i]? = some b → ms[i]? = some m → w.heap[b]? = some (.map (eo kk f m) m.c)
theorem Sat.CX {w0 w w' : World} {T : cD} {H : bw} {G Φ : List Pr} {b : Nat} {p q : Pr} (h : Sat w0 T H (p :: G) Φ w) (hbF : ∀ F, Loc F p w → b ∈ F)
  (ho : w'.os = w.os) (ht : w'.tape = w.tape) (hp : w'.output = w.output) (hs : w'.heap.size = w.heap.size) (hk : ∀ k, k ≠ b → w'.heap[k]? = w.heap[k]?) (hq : ∀ F, Loc F p w → Loc F q w') :
  Sat w0 T H (q :: G) Φ w' := by
 obtain ⟨Fs, ow⟩ := h.own
 cases Fs with
 | nil => exact ow.g.elim
 | cons F Fs =>
  have hbm := hbF F ow.g.1
  have hnd := ow.nd
  rw [List.flatten_cons] at hnd
  have hp2 : (keys H ++ (F ++ Fs.flatten)).Perm (F ++ (keys H ++ Fs.flatten)) := by
   rw [← List.append_assoc, ← List.append_assoc]
   exact List.perm_append_comm.append_right _
  have hdis := (List.nodup_append.1 (hp2.nodup_iff.1 hnd)).2.2
  have hm := ow.dG b (by rw [List.flatten_cons]; simp [hbm])
  refine ⟨ho.trans h.os, ht.trans h.tape, hp.trans h.output, by rw [hs]; exact h.size, fun k hk0 hT => ?_, F :: Fs, ow.nd, fun k hkm => by rw [hs]; exact ow.dG k hkm, fun p hpm => ?_, ⟨hq F ow.g.1, ?_⟩, fun φ hφ => ?_⟩
  ·rw [hk k (fun e => ?_)]
   ·exact h.frame k hk0 hT
   ·subst e; rcases hm.1 with h1 | h1
    ·exact hT h1
    ·omega
  ·have hkm : p.1 ∈ keys H := by rw [keys, List.mem_map]; exact ⟨p, hpm, rfl⟩
   rw [hk p.1 (fun e => hdis b hbm p.1 (List.mem_append_left _ hkm) e.symm)]
   exact ow.has p hpm
  ·exact ow.g.2.mono (by rw [hs]; exact Nat.le_refl _) fun k hkm => hk k (fun e => hdis b hbm k (List.mem_append_right _ hkm) e.symm)
  ·obtain ⟨F', hl, hn, ha⟩ := ow.ro φ hφ
   refine ⟨F', hl.mono (by rw [hs]; exact Nat.le_refl _) fun k hkF => hk k (fun e => by subst e; exact hn k hkF (by rw [List.flatten_cons]; simp [hbm])), hn, ha⟩
section
variable {V : Type} {e n : Nat} {kk : IntKind} {f : V → Value} {S : Nat × List Nat} {ms : List (aS V)} {w w' : World} {F : List Nat}
theorem ke.mem (h : Loc F (ke e n kk f S ms) w) : ∀ b ∈ S.1 :: S.2, b ∈ F := by
 obtain ⟨⟨hnd, hl1, hl2⟩, hc, hms⟩ := h.now
 intro b hb
 apply Classical.byContradiction
 intro hn
 have key : ∀ o : Obj, w.heap[b]? ≠ none → ({ w with heap := w.heap.setIfInBounds b o } : World).heap[b]? = some o ∧ ke e n kk f S ms { w with heap := w.heap.setIfInBounds b o } := fun o hne => by
  refine ⟨?_, h.stays _ fun k hk => ?_⟩
  ·show (w.heap.setIfInBounds b o)[b]? = some o
   rw [Array.getElem?_setIfInBounds_self_of_lt]
   apply Classical.byContradiction
   intro hh
   exact hne (Array.getElem?_eq_none (by omega))
  ·show (w.heap.setIfInBounds b o)[k]? = w.heap[k]?
   rw [Array.getElem?_setIfInBounds_ne]
   intro e; subst e; exact hn hk
 rcases List.mem_cons.1 hb with rfl | hb
 ·obtain ⟨h1, h2⟩ := key (.map #[] 0) (by rw [hc]; simp)
  have := h2.2.1
  rw [h1] at this; cases this
 ·obtain ⟨i, hi, he⟩ := List.getElem_of_mem hb
  have hbi : S.2[i]? = some b := by rw [List.getElem?_eq_getElem hi, he]
  have hmi : ms[i]? = some ms[i] := List.getElem?_eq_getElem (by omega)
  obtain ⟨h1, h2⟩ := key (.cells #[] 0) (by rw [hms i b _ hbi hmi]; simp)
  have := h2.2.2 i b _ hbi hmi
  rw [h1] at this; cases this
theorem ke.set (h : Loc F (ke e n kk f S ms) w) {i b : Nat} {m' : aS V} (hb : S.2[i]? = some b) (hs : w'.heap.size = w.heap.size) (h1 : w'.heap[b]? = some (.map (eo kk f m') m'.c)) (hk : ∀ k, k ≠ b → w'.heap[k]? = w.heap[k]?) : Loc F (ke e n kk f S (ms.set i m')) w' := by
 obtain ⟨⟨hnd, hl1, hl2⟩, hc, hms⟩ := h.now
 have hmem := ke.mem h
 have hnd' := List.nodup_cons.1 hnd
 have hbm : b ∈ S.2 := List.mem_of_getElem? hb
 have all : ∀ w'' : World, (∀ k ∈ F, w''.heap[k]? = w'.heap[k]?) → ke e n kk f S (ms.set i m') w'' := fun w'' hw => by
  refine ⟨⟨hnd, hl1, by rw [List.length_set]; exact hl2⟩, ?_, fun j c m hj hm => ?_⟩
  ·rw [hw _ (hmem _ (List.mem_cons_self ..)), hk S.1 (fun (e : S.1 = b) => hnd'.1 (by rw [e]; exact hbm))]; exact hc
  ·rw [hw _ (hmem _ (List.mem_cons_of_mem _ (List.mem_of_getElem? hj)))]
   by_cases e : j = i
   ·subst e
    obtain rfl := oI (hj.symm.trans hb)
    rw [List.getElem?_set_self'] at hm
    cases hmj : ms[j]? with
    | none => rw [hmj] at hm; cases hm
    | some m0 => rw [hmj] at hm; obtain rfl := oI hm; exact h1
   ·rw [List.getElem?_set_ne (by omega)] at hm
    have hcb : c ≠ b := fun ec => by
     subst ec
     have h2 := (List.getElem?_eq_some_iff.1 hj)
     have h3 := (List.getElem?_eq_some_iff.1 hb)
     exact e ((List.getElem_inj hnd'.2).1 (h2.2.trans h3.2.symm))
    rw [hk c hcb]
    exact hms j c m hj hm
 exact ⟨all w' fun _ _ => rfl, fun k hk' => by rw [hs]; exact h.lt k hk', all⟩
theorem ke.at (h : ke e n kk f S ms w) {i : Int} {m : aS V} (hm : cI n ms i = some m) : S.2[i.toNat]? = some (S.2.getD i.toNat 0) ∧ w.heap[S.2.getD i.toNat 0]? = some (.map (eo kk f m) m.c) := by
 obtain ⟨⟨hnd, hl1, hl2⟩, hc, hms⟩ := h
 obtain ⟨h1, h2⟩ := bg hm
 have hlt : i.toNat < S.2.length := by rw [hl1, ← hl2]; exact (List.getElem?_eq_some_iff.1 h2).1
 have hb : S.2[i.toNat]? = some (S.2.getD i.toNat 0) := by simp [List.getD, hlt]
 exact ⟨hb, hms _ _ _ hb h2⟩
end
section
variable {P : Program} {ρ : Operand → Value} {w : World} {dst : Option Tmp} {ty : TypeId} {pos : String} {af : Array Edge} {g : Option (Nat × Bool)} {t : TypeId} {x y : Operand}
theorem mo {α : Type} {k : IntKind} {i : Int} {b o n e sz : Nat} {xs : List α} {u : α} (ht : P.underlying t = some (.array n e)) (hi : (P.info? e).map (·.size) = some sz) (hx : ρ x = .pointer (some ⟨b, o, none⟩)) (hy : ρ y = .int k i) (h : cI n xs i = some u) :
  (execOp ρ ⟨dst, .indexAddr t x y, ty, pos, af, g⟩).run P w = .ok (.value (.pointer (some ⟨b, o + i.toNat * sz, none⟩))) w := by
 obtain ⟨inf, hi', rfl⟩ := Option.map_eq_some_iff.1 hi
 have h := (bg h).1
 have ea : Addr.add ⟨b, o, none⟩ (i.toNat * inf.size) = ⟨b, o + i.toNat * inf.size, none⟩ := by
  unfold Addr.add; split
  ·rename_i h0; simp [h0]
  ·rfl
 simp [execOp, hx, hy, Instr.indexAt, asIntOf, Instr.sureAddr, fo ht, h, bH hi', ea]
end
section
variable {P : Program} {N : Nat} {ops : Array Oper} {Q : Exit → Act → World → Prop} {ty : TypeId} {pos : String} {af : Array Edge} {g : Option (Nat × Bool)} {t kt et : TypeId} {x y : Operand} {l : List Oper} {L L' : Env} {w0 : World} {T : cD} {H H' : bw} {V : Type} {G G' Φ : List Pr} {e n : Nat} {kk : IntKind} {f : V → Value} {S : Nat × List Nat} {ms : List (aS V)} {m : aS V} {b : Nat} {i k : Int} {z v : V} {dst : Option Tmp} {ok : Bool} {o : Oper}
theorem Sat.FJ {w : World} {p : Pr} {j : Nat} (hS : Sat w0 T H G Φ w) (hG : G[j]? = some p) : p w := (hS.jU (iG hG)).yv
theorem WL.wy {p : Pr} {v : Value} (j : Nat) (hG : G[j]? = some p) (hr : ∀ w, p w → (execOp (cE L) o).run P w = .ok (.value v) w)
  (hk : (o.op.operands.all (known L) && !cA o.op) = true) (hg : cu ops L o = some true) (hp : dV N o v L = some L') (h : WL P N ops Q l L' (Sat w0 T H G Φ)) : WL P N ops Q (o :: l) L (Sat w0 T H G Φ) := fun a w hh hS => by
 unfold wpList
 rw [cM hh hg, if_pos rfl]
 refine .inl ?_
 unfold Oper.wp
 rw [hh.exec hk, hr w (hS.FJ hG)]
 exact h _ w (hh.dV hp) hS
theorem oC {ρ : Operand → Value} {w : World} (h : ke e n kk f S ms w) (ha : ∀ w, (isAgg t).run P w = .ok false w) (hx : ρ x = .pointer (some ⟨S.1, 0 + i.toNat * 1, none⟩)) (hm : cI n ms i = some m) :
  (execOp ρ ⟨dst, .load t x, ty, pos, af, g⟩).run P w = .ok (.value (.map (some (S.2.getD i.toNat 0)))) w := by
 have hc := cell_of (a := ⟨S.1, 0 + i.toNat * 1, none⟩) (v := .map (some (S.2.getD i.toNat 0))) h.2.1 rfl rfl (by
  show (iT S.2)[0 + i.toNat * 1]? = _
  rw [iT, List.getElem?_toArray, Nat.zero_add, Nat.mul_one, List.getElem?_map, (h.at hm).1]; rfl)
 generalize (⟨S.1, 0 + i.toNat * 1, none⟩ : Addr) = A at hc hx
 generalize S.2.getD i.toNat 0 = q at hc ⊢
 simp [execOp, hx, Instr.loadAt, Instr.sureAddr, loadVar, ha, hc]
theorem uR {ρ : Operand → Value} {w : World} (h : ke e n kk f S ms w) (ha : ∀ w, (isAgg t).run P w = .ok true w) (hs : (P.info? t).map (·.size) = some n) (hx : ρ x = .pointer (some ⟨S.1, 0, none⟩)) :
  (execOp ρ ⟨dst, .load t x, ty, pos, af, g⟩).run P w = .ok (.value (.agg (iT S.2))) w := by
 obtain ⟨inf, hi, he⟩ := Option.map_eq_some_iff.1 hs
 have hl : (S.2.map fun b => Value.map (some b)).length = n := by rw [List.length_map]; exact h.1.2.1
 have hload : (loadCells ⟨S.1, 0, none⟩ n).run P w = .ok (iT S.2) w := by
  rw [← hl]
  refine run_loadCells_list w _ _ fun q v hq => ?_
  rw [dy]
  refine cell_of (a := ⟨S.1, 0 + q, none⟩) h.2.1 rfl rfl ?_
  show (iT S.2)[0 + q]? = _
  rw [iT, List.getElem?_toArray, Nat.zero_add]; exact hq
 simp [execOp, hx, Instr.loadAt, Instr.sureAddr, loadVar, ha, bH hi, he, hload]
theorem uP {ρ : Operand → Value} {w : World} {k : IntKind} {e' : Nat} (h : ke e n kk f S ms w) (ht : P.underlying t = some (.array n e')) (hs : (P.info? e').map (·.size) = some 1) (ha : ∀ w, (isAgg e').run P w = .ok false w) (hx : ρ x = .agg (iT S.2)) (hy : ρ y = .int k i) (hm : cI n ms i = some m) :
  (execOp ρ ⟨dst, .index t x y, ty, pos, af, g⟩).run P w = .ok (.value (.map (some (S.2.getD i.toNat 0)))) w := by
 obtain ⟨inf, hi, he⟩ := Option.map_eq_some_iff.1 hs
 have hb := (bg hm).1
 have hc : (iT S.2)[i.toNat]? = some (.map (some (S.2.getD i.toNat 0))) := by
  rw [iT, List.getElem?_toArray, List.getElem?_map, (h.at hm).1]; rfl
 have hc' : (iT S.2)[i.toNat * inf.size]? = some (.map (some (S.2.getD i.toNat 0))) := by rw [he, Nat.mul_one]; exact hc
 simp [execOp, hx, hy, Instr.index, asIntOf, fo ht, hb, bH hi, part, ha, hc', he, hc]
theorem WL.B7 {u : Operand} (j : Nat) (v : V) (ht : P.underlying t = some (.map kt et)) (hk : P.underlying kt = some (.int kk)) (hkn : (known L x && (known L y && known L u)) = true) (hx : cE L x = .map (some (S.2.getD i.toNat 0))) (hy : cE L y = .int kk k) (hu : cE L u = f v) (hG : G[j]? = some (ke e n kk f S ms)) (hG' : G.eraseIdx j = G') (hm : cI n ms i = some m)
  (hg : cu ops L ⟨none, .mapUpdate t x y u, ty, pos, af, g⟩ = some true) (h : WL P N ops Q l L (Sat w0 T H (ke e n kk f S (ms.set i.toNat (m.set k v)) :: G') Φ)) :
  WL P N ops Q (⟨none, .mapUpdate t x y u, ty, pos, af, g⟩ :: l) L (Sat w0 T H G Φ) := fun a w hh hS => by
 subst hG'
 simp only [Bool.and_eq_true] at hkn
 unfold wpList
 rw [cM hh hg, if_pos rfl]
 refine .inl ?_
 unfold Oper.wp
 rw [hh.exec (by simp [Op.operands, cA, hkn])]
 have hS1 := hS.jU (iG hG)
 obtain ⟨hbi, hb⟩ := hS1.yv.at hm
 have : (execOp (cE L) ⟨none, .mapUpdate t x y u, ty, pos, af, g⟩).run P w = .ok .skip { w with heap := w.heap.setIfInBounds (S.2.getD i.toNat 0) (.map (eo kk f (m.set k v)) (m.set k v).c) } := by
  simp only [execOp, hx, hy, hu]
  rw [Sem.ao (pM (f := f) (v := v) ht hk hb)]; rfl
 rw [this]
 have hlt := (Array.getElem?_eq_some_iff.1 hb).1
 have hne : ∀ q, q ≠ S.2.getD i.toNat 0 → (w.heap.setIfInBounds (S.2.getD i.toNat 0) (.map (eo kk f (m.set k v)) (m.set k v).c))[q]? = w.heap[q]? := fun q hq => Array.getElem?_setIfInBounds_ne (Ne.symm hq)
 have hself : (w.heap.setIfInBounds (S.2.getD i.toNat 0) (.map (eo kk f (m.set k v)) (m.set k v).c))[S.2.getD i.toNat 0]? = some (.map (eo kk f (m.set k v)) (m.set k v).c) := Array.getElem?_setIfInBounds_self_of_lt hlt
 refine h a _ hh (hS1.CX (b := S.2.getD i.toNat 0) (fun F hF => ke.mem hF _ (List.mem_cons_of_mem _ (List.mem_of_getElem? hbi))) rfl rfl rfl (by simp) hne fun F hF => ke.set hF hbi (by simp) hself hne)
theorem uQ {ρ : Operand → Value} {w : World} (z : V) (h : ke e n kk f S ms w) (ht : P.underlying t = some (.map kt et)) (hk : P.underlying kt = some (.int kk)) (hz : ∀ w, (zeroValue et).run P w = .ok (f z) w) (hx : ρ x = .map (some (S.2.getD i.toNat 0))) (hy : ρ y = .int kk k) (hm : cI n ms i = some m) :
  (execOp ρ ⟨dst, .lookup t x y ok, ty, pos, af, g⟩).run P w = .ok (.value (cond ok (.tuple #[f ((m.get k).getD z), .bool (m.get k).isSome]) (f ((m.get k).getD z)))) w := by
 simp only [execOp, hx, hy]
 rw [Sem.ao (pO (f := f) (z := z) ok ht hk hz (h.at hm).2)]; rfl
theorem uO {ρ : Operand → Value} {w : World} (h : ke e n kk f S ms w) (ho : o.op = .call { callee := .builtin .len, args := #[x], argTypes := #[t] }) (ht : P.underlying t = some (.map kt et)) (hx : ρ x = .map (some (S.2.getD i.toNat 0))) (hm : cI n ms i = some m) :
  (execOp ρ o).run P w = .ok (.value (.int .i64 m.len)) w := by
 have hb := (h.at hm).2
 generalize S.2.getD i.toNat 0 = q at hx hb
 simp [execOp, ho, hx, resolve, invoke, go_sem, pN ht hb]
end
end Eng
namespace Eng
open Go
def kK (n : Nat) (bs : List Nat) : Array Value := ((bs.map fun b => Value.map (some b)) ++ List.replicate (n - bs.length) (Value.map none)).toArray
def pj (e n : Nat) (S : Nat × List Nat) : Pr := fun w =>
 ((S.1 :: S.2).Nodup ∧ S.2.length ≤ n) ∧ w.heap[S.1]? = some (.cells (kK n S.2) e (0, 0)) ∧ ∀ b ∈ S.2, w.heap[b]? = some (.map #[] 0)
theorem Loc.xc {F : List Nat} {p : Pr} {w : World} {b : Nat} {o : Obj} (h : Loc F p w) (hp : ∀ w, p w → w.heap[b]? = some o) : b ∈ F := by
 apply Classical.byContradiction
 intro hn
 obtain ⟨o', ho'⟩ : ∃ o', o' ≠ o := by
  by_cases e : o = .map #[] 0
  ·exact ⟨.map #[] 1, by rw [e]; simp⟩
  ·exact ⟨.map #[] 0, fun h => e h.symm⟩
 let w' : World := { w with heap := w.heap.setIfInBounds b o' }
 have h1 : p w' := h.stays w' fun k hk => by
  have hne : b ≠ k := fun e => hn (e ▸ hk)
  show (w.heap.setIfInBounds b _)[k]? = w.heap[k]?
  rw [Array.getElem?_setIfInBounds_ne hne]
 have hlt : b < w.heap.size := (Array.getElem?_eq_some_iff.1 (hp w h.now)).1
 have h2 : w'.heap[b]? = some o' := by
  show (w.heap.setIfInBounds b o')[b]? = _
  rw [Array.getElem?_setIfInBounds_self_of_lt hlt]
 exact ho' (oI ((hp w' h1).symm.trans h2)).symm
theorem Sat.Dr {w0 w : World} {T : cD} {H : bw} {G Φ : List Pr} {p q : Pr} (h : Sat w0 T H (p :: q :: G) Φ w) : Sat w0 T H ((fun w => p w ∧ q w) :: G) Φ w := by
 obtain ⟨Fs, o⟩ := h.own
 match Fs, o with
 | F1 :: F2 :: Fs, o =>
  have e : ((F1 ++ F2) :: Fs).flatten = (F1 :: F2 :: Fs).flatten := by simp
  obtain ⟨l1, l2, gr⟩ := o.g
  exact ⟨h.os, h.tape, h.output, h.size, h.frame, (F1 ++ F2) :: Fs, e ▸ o.nd, e ▸ o.dG, o.has, ⟨⟨⟨l1.now, l2.now⟩, fun k hk => (List.mem_append.1 hk).elim (l1.lt k) (l2.lt k), fun w' hw' => ⟨l1.stays w' fun k hk => hw' k (List.mem_append_left _ hk), l2.stays w' fun k hk => hw' k (List.mem_append_right _ hk)⟩⟩, gr⟩, e ▸ o.ro⟩
 | [_], o => exact o.g.2.elim
 | [], o => exact o.g.elim
theorem pj.other {w0 w : World} {T : cD} {H : bw} {G Φ : List Pr} {e n : Nat} {S : Nat × List Nat} {b' : Nat} (h : Sat w0 T H (pj e n S :: G) Φ w) (hb : b' ∈ keys H) : b' ∉ S.1 :: S.2 := by
 obtain ⟨Fs, o⟩ := h.own
 cases Fs with
 | nil => exact o.g.elim
 | cons F Fs =>
  intro hm
  have hF : b' ∈ F := by
   rcases List.mem_cons.1 hm with rfl | hm
   ·exact o.g.1.xc (fun w h => h.2.1)
   ·exact o.g.1.xc (fun w h => h.2.2 _ hm)
  have hnd := o.nd
  rw [List.flatten_cons, List.nodup_append] at hnd
  exact hnd.2.2 b' hb b' (List.mem_append_left _ hF) rfl
section
variable {P : Program} {fn : Func} {R : Ending → World → Prop} {kk' : List KI} {N : Nat} {ops : Array Oper} {Q : Exit → Act → World → Prop} {ty : TypeId} {pos : String} {af : Array Edge} {g : Option (Nat × Bool)} {t : TypeId} {x y : Operand} {l : List Oper} {L : Env} {w0 : World} {T : cD} {H H' : bw} {V : Type} {G Φ : List Pr} {e n : Nat} {kk : IntKind} {f : V → Value} {S : Nat × List Nat} {b : Nat}
theorem WP.yS {cs : Array Value} (j : Nat) (hj : H[j]? = some (b, .cells cs e (0, 0))) (hcs : cs.toList = List.replicate n (Value.map none)) (hH : H.eraseIdx j = H') (h : WP P fn R N kk' L (Sat w0 T H' (pj e n (b, []) :: G) Φ)) : WP P fn R N kk' L (Sat w0 T H G Φ) := fun a w hh hS => h a w hh (by
 subst hH
 have h1 := Sat.pack (H1 := [(b, .cells cs e (0, 0))]) (hS.perm (fQ hj))
 have hcs' : cs = kK n [] := by
  apply Array.toList_inj.1
  rw [hcs]; simp [kK]
 have all : ∀ w, HG [(b, .cells cs e (0, 0))] w → pj e n (b, []) w := fun w hw => ⟨⟨by simp, Nat.zero_le _⟩, by rw [← hcs']; exact hw.2 _ (List.mem_singleton.2 rfl), fun b hb => by cases hb⟩
 exact h1.Dk fun F hF => ⟨all w hF.now, hF.lt, fun w' hw' => all w' (hF.stays w' hw')⟩)
theorem WP.Ah (kk : IntKind) (f : V → Value) (hn : S.2.length = n) (h : WP P fn R N kk' L (Sat w0 T H (ke e n kk f S (List.replicate n (aS.nil : aS V)) :: G) Φ)) : WP P fn R N kk' L (Sat w0 T H (pj e n S :: G) Φ) := fun a w hh hS => h a w hh (by
 have all : ∀ w, pj e n S w → ke e n kk f S (List.replicate n (aS.nil : aS V)) w := fun w hw => by
  refine ⟨⟨hw.1.1, hn, by simp⟩, ?_, fun i b m hb hm => ?_⟩
  ·rw [hw.2.1]; simp [kK, iT, hn]
  ·rw [List.getElem?_replicate] at hm
   split at hm
   ·obtain rfl := oI hm
    exact hw.2.2 b (List.mem_of_getElem? hb)
   ·cases hm
 exact hS.Dk fun F hF => ⟨all w hF.now, hF.lt, fun w' hw' => all w' (hF.stays w' hw')⟩)
theorem WL.Ag {b' : Nat} {i : Int} (j : Nat) (hsz : ∀ w, (Go.sizeOf t).run P w = .ok 1 w) (hk : known L x = true) (hk' : known L y = true) (hx : cE L x = .pointer (some ⟨S.1, 0 + i.toNat * 1, none⟩)) (hy : cE L y = .map (some b')) (hi : i.toNat = S.2.length) (hin : S.2.length < n)
  (hj : H[j]? = some (b', .map #[] 0)) (hH : H.eraseIdx j = H') (hg : cu ops L ⟨none, .store t x y, ty, pos, af, g⟩ = some true)
  (h : WL P N ops Q l L (Sat w0 T H' (pj e n (S.1, S.2 ++ [b']) :: G) Φ)) : WL P N ops Q (⟨none, .store t x y, ty, pos, af, g⟩ :: l) L (Sat w0 T H (pj e n S :: G) Φ) := fun a w hh hS => by
 subst hH
 unfold wpList
 rw [cM hh hg, if_pos rfl]
 refine .inl ?_
 unfold Oper.wp
 rw [hh.exec (by simp [Op.operands, cA, hk, hk'])]
 have hoth := pj.other hS (b' := b') (by rw [keys, List.mem_map]; exact ⟨_, List.mem_of_getElem? hj, rfl⟩)
 have hP := hS.yv
 have hlen : (kK n S.2).size = n := by simp [kK]; omega
 have hlt : i.toNat < (kK n S.2).size := by rw [hlen]; omega
 have hcell := cell_of (a := ⟨S.1, 0 + i.toNat * 1, none⟩) (v := (kK n S.2)[i.toNat]) hP.2.1 rfl rfl (by
  show (kK n S.2)[0 + i.toNat * 1]? = _
  rw [Nat.zero_add, Nat.mul_one]; exact Array.getElem?_eq_getElem hlt)
 have hf : w.frozen? ⟨S.1, 0 + i.toNat * 1, none⟩ = false := by
  rw [lO hP.2.1 rfl]; simp [Nat.blt]; rfl
 have hrun : (execOp (cE L) ⟨none, .store t x y, ty, pos, af, g⟩).run P w = .ok .skip (w.setCell ⟨S.1, 0 + i.toNat * 1, none⟩ (.map (some b'))) := by
  have e0 : Addr.add ⟨S.1, 0 + i.toNat * 1, none⟩ 0 = ⟨S.1, 0 + i.toNat * 1, none⟩ := rfl
  generalize (⟨S.1, 0 + i.toNat * 1, none⟩ : Addr) = A at hx hcell hf e0 ⊢
  have hcl : Value.cells (.map (some b')) = #[.map (some b')] := rfl
  have hone' : Value.oneCell' (.map (some b')) = true := rfl
  simp [execOp, hx, hy, Instr.storeAt, Instr.sureAddr, storeVar, hsz, hcl, storeCells, e0, run_store P w A (.map (some b')) .plain hone', hcell, hf]
 rw [hrun]
 refine h a _ hh ?_
 have h1 := (Sat.pack (H1 := [(b', .map #[] 0)]) (hS.perm (fQ hj))).Dr
 have hsame := heap_setCell_same (w := w) (a := ⟨S.1, 0 + i.toNat * 1, none⟩) (v := .map (some b')) hP.2.1 rfl rfl
 have hother : ∀ k, k ≠ S.1 → (w.setCell ⟨S.1, 0 + i.toNat * 1, none⟩ (.map (some b'))).heap[k]? = w.heap[k]? := heap_setCell_other rfl
 have hcs : (kK n S.2).setIfInBounds (0 + i.toNat * 1) (.map (some b')) = kK n (S.2 ++ [b']) := by
  apply Array.ext_getElem?
  intro q
  rw [Nat.zero_add, Nat.mul_one, hi]
  simp only [kK, List.setIfInBounds_toArray, List.getElem?_toArray]
  congr 1
  rw [List.set_append_right _ _ (by simp)]
  simp only [List.length_map, Nat.sub_self, List.map_append, List.map_cons, List.map_nil, List.append_assoc]
  congr 1
  rw [show n - S.2.length = (n - (S.2 ++ [b']).length) + 1 by rw [List.length_append]; simp; omega, List.replicate_succ, List.set_cons_zero]
  rfl
 refine h1.CX (b := S.1) (fun F hF => hF.xc (fun w h => h.2.2.1)) rfl rfl rfl (by simp) hother fun F hF => ?_
 have m1 : S.1 ∈ F := hF.xc (fun w h => h.2.2.1)
 have m2 : ∀ c ∈ S.2, c ∈ F := fun c hc => hF.xc (fun w h => h.2.2.2 c hc)
 have m3 : b' ∈ F := hF.xc (fun w h => h.1.2 _ (List.mem_singleton.2 rfl))
 have hnd := List.nodup_cons.1 hP.1.1
 have hb1 : b' ≠ S.1 := fun e => hoth (e ▸ List.mem_cons_self ..)
 have hb2 : b' ∉ S.2 := fun e => hoth (List.mem_cons_of_mem _ e)
 have all : ∀ w'' : World, (∀ k ∈ F, w''.heap[k]? = (w.setCell ⟨S.1, 0 + i.toNat * 1, none⟩ (.map (some b'))).heap[k]?) → pj e n (S.1, S.2 ++ [b']) w'' := fun w'' hw => by
  refine ⟨⟨?_, by rw [List.length_append]; simp; omega⟩, ?_, fun c hc => ?_⟩
  ·rw [List.nodup_cons, List.nodup_append]
   refine ⟨fun hm => ?_, hnd.2, by simp, fun p hp q hq e => ?_⟩
   ·rcases List.mem_append.1 hm with hm | hm
    ·exact hnd.1 hm
    ·exact hb1 (List.mem_singleton.1 hm).symm
   ·rw [List.mem_singleton] at hq; subst hq; subst e; exact hb2 hp
  ·rw [hw _ m1]
   show (w.setCell _ _).heap[S.1]? = _
   rw [hsame, hcs]
  ·rcases List.mem_append.1 hc with hc | hc
   ·rw [hw _ (m2 c hc), hother c (fun e => hnd.1 (e ▸ hc))]
    exact hP.2.2 c hc
   ·obtain rfl := List.mem_singleton.1 hc
    rw [hw _ m3, hother _ hb1]
    exact hF.now.1.2 _ (List.mem_singleton.2 rfl)
 exact ⟨all _ fun _ _ => rfl, fun k hk => by
  have := hF.lt k hk
  simpa using this, all⟩
end
end Eng
namespace Eng
open Go
theorem bh {P : Program} {f : FuncId} {fn : Func} {c : Code} {args : List Value} {w w0 : World} {T : cD} {H : bw} {G Φ : List Pr} {R : Ending → World → Prop} {N : Nat} {L : Env} (hf : P.funcs[f]? = some fn)
  (hS : Sat w0 T H G Φ w) (h : WP P fn R N [.code c] L (Sat w0 T H G Φ)) (hb : fn.body = some c := by rfl) (hn : fn.ntmps = N := by rfl) (hl : Nat.ble args.length N = true := by rfl) (hL : iZ args 0 = L := by rfl) : Calls P f args.toArray w R :=
 gz hf hb hn (nB hl) hL hS h
theorem WP.dI {P : Program} {fn : Func} {N : Nat} {k : List KI} {L : Env} {w0 : World} {T : cD} {H : bw} {G F F' Γ : List Pr} {v : Value} (hs bs is : List Nat) (he : yk P fn L H hs = some (v, bs, bs) := by kernel_rfl) (hF : eY is F = F' := by kernel_rfl) (hH : G = [] := by rfl) (hp : mq k = true := by rfl) :
  WP P fn (fun e w' => e = .returned v ∧ Sat w0 T [] [] (F' ++ Γ) w') N (.code .ret :: k) L (Sat w0 T H G (F ++ Γ)) := by
 subst hH
 exact WP.ret hs bs v he (fun w hw => ⟨rfl, (hw.pick [] rfl).aQ is hF⟩) hp
theorem WP.lY {P : Program} {fn : Func} {N : Nat} {k : List KI} {L : Env} {w0 : World} {T : cD} {H : bw} {G Φ : List Pr} {v : Value} (hs bs : List Nat) (he : yk P fn L H hs = some (v, bs, bs) := by kernel_rfl) (hH : G = [] := by rfl) (hp : mq k = true := by rfl) :
  WP P fn (fun e w' => e = .returned v ∧ Sat w0 T [] [] Φ w') N (.code .ret :: k) L (Sat w0 T H G Φ) := by
 subst hH
 exact WP.ret hs bs v he (fun w hw => ⟨rfl, hw.pick [] rfl⟩) hp
end Eng
namespace Eng
open Go
def eQ (_ : Unit) (s : Option Addr) : List Value := [.pointer s]
def gi (_ : Unit) (_ : Option Addr) : Pr := fun _ => True
abbrev vI (n : Int) : Value := .int .i64 n
abbrev vU (n : Int) : Value := .int .u64 n
abbrev vT (n : Int) : Value := .int .u32 n
abbrev vE (n : Int) : Value := .int .u8 n
abbrev vB (b : Bool) : Value := .bool b
abbrev vP (b o : Nat) : Value := .pointer (some ⟨b, o, none⟩)
end Eng
namespace Eng
open Go Go.RowKit Go.ChangeShapes
def Arg (P : Program) (W : World) (t : TypeId) (v : Value) : Prop :=
 ∃ (H : Type) (enc : TypeId × Value → H) (base : Nat) (d : DataW H) (ps : List MemPlace),
  Value.okWide P W .any base t v ∧ DataW.Trod enc P W 0 (fun _ => true) true t v d ps ∧ (d.weights P t).all (· ≤ reachBytes) = true
theorem mM {H : Type} {enc : TypeId × Value → H} {P : Program} {W : World} {base : Nat} {sp : Nat → Bool} {held : Bool} : ∀ {ts : List TypeId} {vs : List Value} {ds : List (DataW H)} {ps : List MemPlace},
  DataW.TrodAll enc P W base sp held ts vs ds ps → vs.length = ts.length ∧ ds.length = ts.length ∧ ∀ (j : Nat) t v, ts[j]? = some t → vs[j]? = some v → ∃ d p, ds[j]? = some d ∧ DataW.Trod enc P W base sp held t v d p
 | [], vs, ds, ps, h => by
  obtain ⟨rfl, rfl, rfl⟩ := trodAll_nil h
  exact ⟨rfl, rfl, fun j t v ht => by simp at ht⟩
 | t :: ts, vs, ds, ps, h => by
  obtain ⟨v, vs', d, ds', p, q, rfl, rfl, rfl, h0, hr⟩ := trodAll_cons h
  obtain ⟨e1, e2, e3⟩ := mM hr
  refine ⟨by simp [e1], by simp [e2], fun j t' v' ht hv => ?_⟩
  cases j with
  | zero =>
   simp only [List.getElem?_cons_zero, Option.some.injEq] at ht hv
   subst ht; subst hv
   exact ⟨d, p, rfl, h0⟩
  | succ j =>
   simp only [List.getElem?_cons_succ] at ht hv ⊢
   exact e3 j t' v' ht hv
theorem mg {H : Type} {enc : TypeId × Value → H} {P : Program} (hl : laidOutB P = true) {W W' : World} (hb : Below W.heap.size W W') : ∀ {ts : List TypeId} {vs : List Value} {ds : List (DataW H)} {ps : List MemPlace},
  ts.all (fun t => P.readableRec t && decide (t < P.types.size)) = true → DataW.TrodAll enc P W 0 (fun _ => true) true ts vs ds ps →
  ∃ pa, DataW.TrodAll enc P W' 0 (fun b => decide (b < W.heap.size)) true ts vs ds pa
 | [], vs, ds, ps, _, h => by
  obtain ⟨rfl, rfl, rfl⟩ := trodAll_nil h
  exact ⟨[], trodAll_mk0⟩
 | t :: ts, vs, ds, ps, ht, h => by
  simp only [List.all_cons, Bool.and_eq_true, decide_eq_true_eq] at ht
  obtain ⟨v, vs', d, ds', p, q, rfl, rfl, rfl, h0, hr⟩ := trodAll_cons h
  obtain ⟨pa, hpa⟩ := mg hl hb ht.2 hr
  have hlt : ∀ x ∈ p, x.block < W.heap.size := by
   obtain ⟨m, hm⟩ := h0
   exact DataW.trod_lt m _ _ _ hm
  exact ⟨_, trodAll_cons_mk (Below.trod hl ht.1.1 ht.1.2 h0 hb hlt) hpa⟩
theorem Sat.below {w0 w : World} {Φ : List Pr} (h : Sat w0 ⟨[], fun _ => True⟩ [] [] Φ w) : Below w0.heap.size w0 w :=
 ⟨h.os, h.tape, h.output, h.size, fun k hk => h.frame k hk (by simp)⟩
theorem yJ {C : Checked} {os : Os} {f : FuncId} {fn : Func} {s : ChangeSpec} {X : World → Prop} (tb : TypeId)
  (hX : ∀ w w' : World, w.heap = w'.heap → X w → X w') (own : ownKnob C.prog.godebug = none) (started : os.Started) (noInit : C.prog.inits.idxOf? f = none) (hfn : C.prog.funcs[f]? = some fn)
  (hvars : s.vars = []) (hspec : ∀ (H : Type) (ds : List (DataW H)), ds.length = fn.params.size → s.fn H ds = { results := [.lit (.bool true)], args := ds })
  (hres : fn.resultTypes = #[tb]) (htb : C.prog.underlying tb = some .bool) (hl : laidOutB C.prog = true)
  (hts : fn.params.toList.all (fun t => C.prog.readableRec t && decide (t < C.prog.types.size)) = true)
  (H : Type) (enc : TypeId × Value → H)
  (witness : ∃ (w : World) (tape : Tape) (i : Input), w.os = os ∧ (w.forCall tape i).Shaped C.prog ∧ i.vars = [] ∧ Input.okWide C.prog (w.forCall tape i) .any w.heap.size f i ∧
   ((s.pre enc C.prog fn [] false (w.forCall tape i).memory i.args ∧ X (w.forCall tape i).memory) ∧ sizedMet enc C.prog fn (OpenSpec.ofChange s) false (w.forCall tape i).memory i.args) ∧ ({} : Assume).holds C.prog (lone (Frame.enter C.prog f i.args .normal) [] (w.forCall tape i)))
  (hc : ∀ (W : World) (args : Array Value), args.size = fn.params.size → (∀ (j : Nat) t v, fn.params[j]? = some t → args[j]? = some v → Arg C.prog W t v) → X W →
   Calls C.prog f args W fun e w' => e = .returned (.bool true) ∧ Below W.heap.size W w') :
  ReturnsInHanded {} C os f .any (fun w args => (s.pre enc C.prog fn [] false w args ∧ X w) ∧ sizedMet enc C.prog fn (OpenSpec.ofChange s) false w args)
   (s.post enc C.prog fn false true false false) := by
 refine returnsInHanded_of_change_and (X := fun w _ => X w) (fun w w' _ hh h => hX w w' hh h) own started noInit hfn witness ?_
 intro W base args ds gs before hval hW _ hz hx _
 have hW' := hW
 obtain ⟨p, q, hA, hV, rfl, hfz, hnd⟩ := hW
 rw [hvars] at hV
 obtain ⟨rfl, rfl⟩ := trodVars_none hV
 obtain ⟨e1, e2, e3⟩ := mM hA
 simp only [Array.length_toList] at e1 e2
 have harg : ∀ (j : Nat) t v, fn.params[j]? = some t → args[j]? = some v → Arg C.prog W t v := fun j t v ht hv => by
  have ht' : fn.params.toList[j]? = some t := by simpa using ht
  have hv' : args.toList[j]? = some v := by simpa using hv
  obtain ⟨d, p0, hd, h0⟩ := e3 j t v ht' hv'
  refine ⟨H, enc, base, d, p0, hval j t v ht hv, h0, List.all_eq_true.2 fun n hn => ?_⟩
  refine List.all_eq_true.1 hz n (DataW.weights_mem_each (j := j) (t := t) (d := d) ?_ ?_ n hn)
  ·rw [List.getElem?_append_left (by
    rcases Nat.lt_or_ge j fn.params.toList.length with h | h
    ·exact h
    ·rw [List.getElem?_eq_none h] at ht'; cases ht')]
   exact ht'
  ·simpa using hd
 refine (hc W args e1 harg hx).mono fun e W' ⟨he, bel⟩ => ?_
 subst he
 obtain ⟨pa, hpa⟩ := mg hl bel hts hA
 have es := hspec H (ds ++ []) (by simpa using e2)
 refine ⟨_, rfl, _, _, _, [], pa, [], hW', ?_, ?_, ?_, bel.frame _, fun h => by cases h⟩
 ·rw [es, hres]
  exact trodAll_mk1 (shut_bool htb true)
 ·rw [es]
  simpa using hpa
 ·rw [es, hvars]
  exact rfl
inductive FP where
 | bool
 | int (k : IntKind)
 | str
section
variable {H : Type} {enc : TypeId × Value → H} {P : Program} {w : World} {base : Nat} {sp : Nat → Bool} {held : Bool}
end
theorem Arg.int {P : Program} {W : World} {t : TypeId} {v : Value} {k : IntKind} (ht : P.underlying t = some (.int k)) (h : Arg P W t v) : ∃ n, v = .int k n ∧ (Lit.int k n).wf = true := by
 obtain ⟨H, enc, base, d, ps, h1, h2, h3⟩ := h
 obtain ⟨b, rfl, _, _, hw⟩ := open_int ht h1 h2
 exact ⟨b, rfl, hw⟩
theorem zl {args : Array Value} (h : args.size = 2) : ∃ a b, args = #[a, b] := by
 obtain ⟨l⟩ := args
 match l, h with
 | [a, b], _ => exact ⟨a, b, rfl⟩
theorem wf_i64 {n : Int} (h : (Lit.int .i64 n).wf = true) : -9223372036854775808 ≤ n ∧ n ≤ 9223372036854775807 := by
 simp [Lit.wf, IntKind.min, IntKind.max, IntKind.bits, IntKind.signed] at h; omega
theorem wf_u64 {n : Int} (h : (Lit.int .u64 n).wf = true) : 0 ≤ n ∧ n ≤ 18446744073709551615 := by
 simp [Lit.wf, IntKind.min, IntKind.max, IntKind.bits, IntKind.signed] at h; omega
theorem wf_u32 {n : Int} (h : (Lit.int .u32 n).wf = true) : 0 ≤ n ∧ n ≤ 4294967295 := by
 simp [Lit.wf, IntKind.min, IntKind.max, IntKind.bits, IntKind.signed] at h; omega
theorem zW {P : Program} {fn : Func} (h : fn.params.toList.all (fun t => !P.wantsStandIn t) = true) (j : Nat) (t : TypeId) (ht : fn.params[j]? = some t) : P.wantsStandIn t = false := by
 have hm : t ∈ fn.params.toList := List.mem_of_getElem? (i := j) (by simpa using ht)
 simpa using List.all_eq_true.1 h t hm
end Eng
namespace Eng
open Go Go.RowKit
def iO {α σ : Type} (P : Program) (W : World) (e : TypeId) (f : α → σ → List Value) (K : α → σ → Pr) (Φ : α → Prop) : Prop :=
 ∀ (H : Type) (enc : TypeId × Value → H) (fuel : Nat) (cs : List Value) (d : DataW H × List MemPlace), DataW.trod enc P W 0 (fun _ => true) true fuel e cs = some d → (d.1.weights P e).all (· ≤ reachBytes) = true → ∃ x s, cs = f x s ∧ K x s W ∧ Φ x
section
variable {P : Program} {W : World} {t e : TypeId} {α σ : Type}
theorem iO.int {k : IntKind} (ht : P.underlying t = some (.int k)) : iO P W t (pl (fun n : Int => [.int k n])) aA (fun n => (Lit.int k n).wf = true) := fun H enc fuel cs d h hw => by
 obtain ⟨m, rfl⟩ : ∃ m, fuel = m + 1 := by
  cases fuel with
  | zero => simp [DataW.trod] at h
  | succ m => exact ⟨m, rfl⟩
 obtain ⟨b, rfl, _, hb⟩ := DataW.trod_int ht h
 exact ⟨b, (), rfl, trivial, hb⟩
theorem iO.bool (ht : P.underlying t = some .bool) : iO P W t (pl (fun n : Bool => [.bool n])) aA (fun _ => True) := fun H enc fuel cs d h hw => by
 obtain ⟨m, rfl⟩ : ∃ m, fuel = m + 1 := by
  cases fuel with
  | zero => simp [DataW.trod] at h
  | succ m => exact ⟨m, rfl⟩
 obtain ⟨b, rfl, _⟩ := DataW.trod_bool ht h
 exact ⟨b, (), rfl, trivial, trivial⟩
def consecB (P : Program) (tot : Nat) : Nat → List Field → Bool
 | o, [] => Nat.beq o tot
 | o, f :: fs => Nat.beq f.offset o && consecB P tot (o + P.cellsOf f.type) fs
theorem qy {P : Program} {cs : List Value} : ∀ (fs : List Field) (o : Nat), consecB P cs.length o fs = true → (fs.map fun f => (cs.drop f.offset).take (P.cellsOf f.type)).flatten = cs.drop o
 | [], o, h => by
  have := nE h
  rw [this]; simp
 | f :: fs, o, h => by
  simp only [consecB, Bool.and_eq_true, Nat.beq_eq] at h
  rw [List.map_cons, List.flatten_cons, qy fs _ h.2, h.1]
  rw [← List.drop_drop, List.take_append_drop]
def fF {β : Type} (D : TypeId → β → Prop) : List TypeId → List β → Prop
 | [], [] => True
 | t :: ts, p :: ps => D t p ∧ fF D ts ps
 | _, _ => False
theorem fF.cons {β : Type} {D : TypeId → β → Prop} {t : TypeId} {ts : List TypeId} {ps : List β} (h : fF D (t :: ts) ps) : ∃ p ps', ps = p :: ps' ∧ D t p ∧ fF D ts ps' := by
 cases ps with
 | nil => exact h.elim
 | cons p ps => exact ⟨p, ps, rfl, h.1, h.2⟩
theorem fF.nil {β : Type} {D : TypeId → β → Prop} {ps : List β} (h : fF D [] ps) : ps = [] := by
 cases ps with
 | nil => rfl
 | cons p ps => exact h.elim
theorem fF.of {β : Type} {D : TypeId → β → Prop} : ∀ {ts : List TypeId} {ps : List β}, ps.length = ts.length → (∀ (i : Nat) t p, ts[i]? = some t → ps[i]? = some p → D t p) → fF D ts ps
 | [], [], _, _ => trivial
 | t :: ts, p :: ps, hl, h => ⟨h 0 t p rfl rfl, fF.of (by simpa using hl) fun i t' p' h1 h2 => h (i + 1) t' p' h1 h2⟩
 | [], _ :: _, hl, _ => by simp at hl
 | _ :: _, [], hl, _ => by simp at hl
def AD (P : Program) (W : World) (H : Type) (enc : TypeId × Value → H) (t : TypeId) (p : List Value) : Prop :=
 ∃ (fuel : Nat) (d : DataW H × List MemPlace), DataW.trod enc P W 0 (fun _ => true) true fuel t p = some d ∧ (d.1.weights P t).all (· ≤ reachBytes) = true
theorem iO.fields {fs : Array Field} (ts : List TypeId) (ht : P.underlying t = some (.struct fs)) (hts : fs.toList.map (·.type) = ts) (hc : consecB P (P.cellsOf t) 0 fs.toList = true) {H : Type} {enc : TypeId × Value → H} {fuel : Nat} {cs : List Value} {d : DataW H × List MemPlace}
  (h : DataW.trod enc P W 0 (fun _ => true) true fuel t cs = some d) (hw : (d.1.weights P t).all (· ≤ reachBytes) = true) : ∃ ps : List (List Value), fF (AD P W H enc) ts ps ∧ cs = ps.flatten := by
 obtain ⟨xs, n, rfl, rfl, hl, hxl, hel⟩ := DataW.trod_struct ht h
 refine ⟨fs.toList.map fun f => (cs.drop f.offset).take (P.cellsOf f.type), fF.of (by rw [List.length_map, ← hts, List.length_map]) fun i u p h1 h2 => ?_, ?_⟩
 ·rw [← hts, List.getElem?_map, Option.map_eq_some_iff] at h1
  obtain ⟨f, hf, rfl⟩ := h1
  rw [List.getElem?_map, hf, Option.map_some, Option.some.injEq] at h2
  subst h2
  have hf' : fs[i]? = some f := by rw [← Array.getElem?_toList]; exact hf
  have h3 := hel i f hf'
  have hlt : i < xs.length := by
   have := (Array.getElem?_eq_some_iff.1 hf').1
   omega
  rw [List.getElem?_eq_getElem hlt] at h3
  refine ⟨n, xs[i], h3, List.all_eq_true.2 fun q hq => ?_⟩
  simp only [DataW.weights, ht] at hw
  refine List.all_eq_true.1 hw q (DataW.weights_mem_each (j := i) (t := f.type) (d := xs[i].1) ?_ ?_ q hq)
  ·rw [List.getElem?_map, hf]; rfl
  ·rw [List.getElem?_map, List.getElem?_eq_getElem hlt]; rfl
 ·rw [qy fs.toList 0 (by rw [hl]; exact hc), List.drop_zero]
theorem oU {H : Type} {P : Program} {e : TypeId} : ∀ {l : List (DataW H)} {d : DataW H}, d ∈ l → ∀ n ∈ d.weights P e, n ∈ DataW.weightsAll P e l
 | [], _, h, _, _ => by cases h
 | x :: l, d, h, n, hn => by
  rw [DataW.weightsAll, List.mem_append]
  rw [List.mem_cons] at h
  rcases h with rfl | h
  ·exact .inl hn
  ·exact .inr (oU h n hn)
theorem rT {w : World} {a : Addr} {n : Nat} {cs : List Value} (h : w.cells? 0 a n = some cs) : cs.length = n ∧ ∀ j v, cs[j]? = some v → w.cell? (a.add j) = some v := by
 unfold World.cells? at h
 rw [if_pos (Nat.zero_le _)] at h
 have hl := mapM_some_length h
 rw [List.length_range] at hl
 refine ⟨hl, fun j v hv => ?_⟩
 have hj : j < n := by
  have := (List.getElem?_eq_some_iff.1 hv).1
  omega
 have := mapM_some_get h j j (by rw [List.getElem?_range hj])
 rw [this, hv]
theorem iO.mono {f : α → σ → List Value} {K : α → σ → Pr} {Φ Φ' : α → Prop} (hD : iO P W e f K Φ) (h : ∀ x, Φ x → Φ' x) : iO P W e f K Φ' := fun H enc fuel cs d h1 h2 => by
 obtain ⟨x, s, a, b, c⟩ := hD H enc fuel cs d h1 h2
 exact ⟨x, s, a, b, h x c⟩
theorem iO.slice {m by_ : Nat} {f : α → σ → List Value} {K : α → σ → Pr} {Φ : α → Prop} (dx : α) (ds : σ) (ht : P.underlying t = some (.slice e)) (hm : P.cellsOf e = m) (h0 : 0 < m) (hf : ∀ x s, (f x s).length = m) (hb : P.bytesOf e = by_) (hD : iO P W e f K Φ) :
  iO P W t (fun (xs : List α) (s : av σ) => [ae s xs.length]) (fun xs s => Row m f K s xs) (fun xs => (∀ x ∈ xs, Φ x) ∧ xs.length * by_ ≤ reachBytes) := fun H enc fuel cs d h hw => by
 subst hb
 rcases DataW.trod_slice ht h with ⟨rfl, rfl⟩ | ⟨a, len, cap, elems, rest, n, _, rfl, rfl, _, hl, hcm, hlen, hel, hsp, _⟩
 ·exact ⟨[], av.nil fun _ => ds, rfl, eU.empty fun _ => rfl, by simp, by simp⟩
 ·simp only [DataW.weights, ht, List.all_cons, List.all_append, Bool.and_eq_true, List.length_map, decide_eq_true_eq] at hw
  have each : ∀ i, i < len → ∃ cs' y, W.cells? 0 (a.add (i * m)) m = some cs' ∧ DataW.trod enc P W 0 (fun _ => true) true n e cs' = some y ∧ (y.1.weights P e).all (· ≤ reachBytes) = true := fun i hi => by
   have h1 := hel i hi
   rw [hm, List.getElem?_eq_getElem (by omega)] at h1
   obtain ⟨cs', h2, h3⟩ := Option.bind_eq_some_iff.1 h1
   refine ⟨cs', elems[i], h2, h3, List.all_eq_true.2 fun q hq => List.all_eq_true.1 hw.2.1 q (oU (d := elems[i].1) (List.mem_map.2 ⟨elems[i], List.getElem_mem _, rfl⟩) q hq)⟩
  have told : ∀ i : Nat, ∃ y : α × σ, i < len → ∃ cs', W.cells? 0 (a.add (i * m)) m = some cs' ∧ cs' = f y.1 y.2 ∧ K y.1 y.2 W ∧ Φ y.1 := fun i => by
   by_cases hi : i < len
   ·obtain ⟨cs', y, h1, h2, h3⟩ := each i hi
    obtain ⟨x, s, h4, h5, h6⟩ := hD H enc n cs' y h2 h3
    exact ⟨(x, s), fun _ => ⟨cs', h1, h4, h5, h6⟩⟩
   ·exact ⟨(dx, ds), fun h => absurd h hi⟩
  let g : Nat → α × σ := fun i => Classical.choose (told i)
  have hg : ∀ i, i < len → ∃ cs', W.cells? 0 (a.add (i * m)) m = some cs' ∧ cs' = f (g i).1 (g i).2 ∧ K (g i).1 (g i).2 W ∧ Φ (g i).1 := fun i hi => Classical.choose_spec (told i) hi
  have hget : ∀ i x, ((List.range len).map fun i => (g i).1)[i]? = some x → i < len ∧ x = (g i).1 := fun i x hx => by
   rw [List.getElem?_map, Option.map_eq_some_iff] at hx
   obtain ⟨j, hj, rfl⟩ := hx
   have hlt : i < len := by
    have := (List.getElem?_eq_some_iff.1 hj).1
    simpa using this
   rw [List.getElem?_range hlt] at hj
   obtain rfl := oI hj
   exact ⟨hlt, rfl⟩
  have hlx : ((List.range len).map fun i => (g i).1).length = len := by simp
  have hΦ : (∀ x ∈ (List.range len).map fun i => (g i).1, Φ x) ∧ ((List.range len).map fun i => (g i).1).length * P.bytesOf e ≤ reachBytes := by
   refine ⟨fun x hx => ?_, ?_⟩
   ·obtain ⟨i, hi, rfl⟩ := List.mem_map.1 hx
    obtain ⟨_, _, _, _, h6⟩ := hg i (List.mem_range.1 hi)
    exact h6
   ·rw [hlx]
    refine Nat.le_trans (Nat.mul_le_mul_right _ ?_) hw.1
    omega
  by_cases hc : cap = 0
  ·subst hc
   have hl0 : len = 0 := by omega
   subst hl0
   exact ⟨[], ⟨none, 0, fun _ => ds, some a⟩, rfl, eU.empty fun _ => rfl, by simp, by simp⟩
  ·obtain ⟨b, o, spot⟩ := a
   have hspot : spot = none := by
    have hs := hsp rfl
    have first : ∃ cs', W.cells? 0 (Addr.add ⟨b, o, spot⟩ (0 * m)) m = some cs' := by
     by_cases hl0 : 0 < len
     ·obtain ⟨cs', h1, _⟩ := hg 0 hl0
      exact ⟨cs', h1⟩
     ·have h1 := hs.2 0 (by omega)
      rw [hm, List.getElem?_eq_getElem (by omega)] at h1
      obtain ⟨cs', h2, _⟩ := Option.bind_eq_some_iff.1 h1
      rw [show len + 0 = 0 by omega] at h2
      exact ⟨cs', h2⟩
    obtain ⟨cs', h1⟩ := first
    obtain ⟨h2, h3⟩ := rT h1
    have h4 : ∃ v, cs'[0]? = some v := ⟨cs'[0]'(by omega), List.getElem?_eq_getElem (by omega)⟩
    obtain ⟨v, hv⟩ := h4
    have := World.cell?_spot (h3 0 v hv)
    simpa [Addr.add] using this
   subst hspot
   refine ⟨(List.range len).map fun i => (g i).1, ⟨some (b, o), cap, fun i => (g i).2, none⟩, (by show _ = [ae _ ((List.range len).map fun i => (g i).1).length]; rw [hlx]; rfl), ⟨(by rw [hlx]; exact hl), (fun h => by cases h), fun b' o' e' i x hx j v hv => ?_, fun i x hx => ?_⟩, hΦ⟩
   ·simp only [Option.some.injEq, Prod.mk.injEq] at e'
    obtain ⟨rfl, rfl⟩ := e'
    obtain ⟨hi, rfl⟩ := hget i x hx
    obtain ⟨cs', h1, h2, _⟩ := hg i hi
    obtain ⟨_, h3⟩ := rT h1
    have := h3 j v (by rw [h2]; exact hv)
    rwa [dy, dy] at this
   ·obtain ⟨hi, rfl⟩ := hget i x hx
    obtain ⟨_, _, _, h5, _⟩ := hg i hi
    exact h5
theorem Arg.sl {F : α → σ → List Value} {K : α → σ → Pr} {Φ : α → Prop} {v : Value} (ht : P.underlying t = some (.slice e)) (hD : iO P W t F K Φ) (h : Arg P W t v) : ∃ x s, [v] = F x s ∧ K x s W ∧ Φ x := by
 obtain ⟨H, enc, base, d, ps, h1, ⟨fuel, h2⟩, h3⟩ := h
 obtain ⟨x, s, h4, h5⟩ := hD H enc fuel _ _ h2 h3
 refine ⟨x, s, ?_, h5⟩
 rw [← h4]
 rcases DataW.trod_slice ht h2 with ⟨h6, _⟩ | ⟨a, len, cap, elems, rest, n, _, h6, _⟩
 all_goals
  rw [h6]
  cases v <;> simp_all [Value.cells, Value.okWide, Cell.okWide, Cell.ok]
end
def Up {α σ : Type} (K : α → σ → Pr) : Prop := ∀ x s (w w' : World), (∀ k, k < w.heap.size → w'.heap[k]? = w.heap[k]?) → K x s w → K x s w'
theorem Up.no {α : Type} : Up (aA : α → Unit → Pr) := fun _ _ _ _ _ _ => trivial
theorem Up.row {α σ : Type} {m : Nat} {f : α → σ → List Value} {K : α → σ → Pr} (hK : Up K) : Up (fun (xs : List α) (s : av σ) => Row m f K s xs) := fun xs A w w' h hR =>
 ⟨hR.le, hR.nil, fun b o hA i x hx j v hv => by
  have h1 := hR.cells b o hA i x hx j v hv
  rw [World.cell?_of_block (w := w) (h b (World.block_lt_of_cell? w _ h1))]
  exact h1, fun i x hx => hK x _ w w' h (hR.inner i x hx)⟩
theorem Sat.add {w : World} {Φ : List Pr} {φ : Pr} (h : Sat w ⟨[], fun _ => True⟩ [] [] Φ w) (hφ : φ w) (hu : ∀ w' : World, (∀ k, k < w.heap.size → w'.heap[k]? = w.heap[k]?) → φ w') : Sat w ⟨[], fun _ => True⟩ [] [] (φ :: Φ) w := by
 obtain ⟨Fs, o⟩ := h.own
 refine ⟨h.os, h.tape, h.output, h.size, h.frame, Fs, o.nd, o.dG, o.has, o.g, fun ψ hψ => ?_⟩
 rw [List.mem_cons] at hψ
 rcases hψ with rfl | hψ
 ·refine ⟨List.range w.heap.size, ⟨hφ, fun k hk => List.mem_range.1 hk, fun w' hw' => hu w' fun k hk => hw' k (List.mem_range.2 hk)⟩, fun k hk hk' => ?_, fun k _ => .inl trivial⟩
  have := (o.dG k hk').1
  rcases this with h1 | h1
  ·cases h1
  ·have := List.mem_range.1 hk; omega
 ·exact o.ro ψ hψ
end Eng
namespace Eng
open Go
theorem lA {n : Int} (h : -9223372036854775808 ≤ n ∧ n ≤ 9223372036854775807) : i64 n = n := by
 simp [i64, IntKind.wrap, IntKind.bits, IntKind.signed]; omega
theorem pz {n : Int} (h : 0 ≤ n ∧ n ≤ 18446744073709551615) : u64 n = n := by
 simp [u64, IntKind.wrap, IntKind.bits, IntKind.signed]; omega
end Eng