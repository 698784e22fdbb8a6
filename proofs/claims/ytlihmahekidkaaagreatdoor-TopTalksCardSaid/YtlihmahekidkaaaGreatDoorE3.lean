/- A general engine for walks through Go programs in the given model: no statement of the program stands here; what is shown holds without conditions. -/
import Derived.Test.YtlihmahekidkaaaGreatDoorE2
import Derived.Test.YtlihmahekidkaaaGreatDoorE1
import Derived.Below
import Derived.Carry
import Derived.ChangeSame
import Derived.ChangeVars
import Derived.ChangeOld
import Derived.ChangeMaps5
import Derived.SizedLaws
import Derived.JoinedOf
import Derived.RowKit
import Derived.RowKitTokens
import Derived.LaidLaws
import Derived.LaidHandle
import Derived.Handed
import Derived.OpenShut
import Derived.SevenTiedAt
import Derived.Stop.Joined
import Derived.Laws.Strings

set_option linter.unusedVariables false
set_option linter.unusedSimpArgs false
set_option linter.unusedSectionVars false
namespace Eng
open Go
end Eng
namespace Eng
open Go
end Eng
namespace Eng
open Go
theorem callsS {P : Program} {f : FuncId} {fn : Func} {c : Code} {args : List Value} {w w0 : World} {T : Zone} {H : Heap} {G Φ : List Pr} {R : Ending → World → Prop} {N : Nat} {L : Env} (hf : P.funcs[f]? = some fn)
  (hS : Sat w0 T H G Φ w) (h : WP P fn R N [.code c] L (Sat w0 T H G Φ)) (hb : fn.body = some c := by rfl) (hn : fn.ntmps = N := by rfl) (hl : Nat.ble args.length N = true := by rfl) (hL : envOf args 0 = L := by rfl) : Calls P f args.toArray w R :=
 calls_of hf hb hn (Nat.le_of_ble_eq_true hl) hL hS h
theorem WP.retF {P : Program} {fn : Func} {N : Nat} {k : List KI} {L : Env} {w0 : World} {T : Zone} {H : Heap} {G F F' Γ : List Pr} {v : Value} (hs bs is : List Nat) (he : retE P fn L H hs = some (v, bs, bs) := by kernel_rfl) (hF : pickL is F = F' := by kernel_rfl) (hH : G = [] := by rfl) (hp : plainK k = true := by rfl) :
  WP P fn (fun e w' => e = .returned v ∧ Sat w0 T [] [] (F' ++ Γ) w') N (.code .ret :: k) L (Sat w0 T H G (F ++ Γ)) := by
 subst hH
 exact WP.ret hs bs v he (fun w hw => ⟨rfl, (hw.pick [] rfl).lessF is hF⟩) hp
theorem WP.retQ {P : Program} {fn : Func} {N : Nat} {k : List KI} {L : Env} {w0 : World} {T : Zone} {H : Heap} {G Φ : List Pr} {v : Value} (hs bs : List Nat) (he : retE P fn L H hs = some (v, bs, bs) := by kernel_rfl) (hH : G = [] := by rfl) (hp : plainK k = true := by rfl) :
  WP P fn (fun e w' => e = .returned v ∧ Sat w0 T [] [] Φ w') N (.code .ret :: k) L (Sat w0 T H G Φ) := by
 subst hH
 exact WP.ret hs bs v he (fun w hw => ⟨rfl, hw.pick [] rfl⟩) hp
end Eng
namespace Eng
open Go Go.RowKit Go.ChangeShapes
def Arg (P : Program) (W : World) (t : TypeId) (v : Value) : Prop :=
 ∃ (H : Type) (enc : TypeId × Value → H) (base : Nat) (d : DataW H) (ps : List MemPlace),
  Value.okWide P W .any base t v ∧ DataW.Trod enc P W 0 (fun _ => true) true t v d ps ∧ (d.weights P t).all (· ≤ reachBytes) = true
theorem trodAll_each {H : Type} {enc : TypeId × Value → H} {P : Program} {W : World} {base : Nat} {sp : Nat → Bool} {held : Bool} : ∀ {ts : List TypeId} {vs : List Value} {ds : List (DataW H)} {ps : List MemPlace},
  DataW.TrodAll enc P W base sp held ts vs ds ps → vs.length = ts.length ∧ ds.length = ts.length ∧ ∀ (j : Nat) t v, ts[j]? = some t → vs[j]? = some v → ∃ d p, ds[j]? = some d ∧ DataW.Trod enc P W base sp held t v d p
 | [], vs, ds, ps, h => by
  obtain ⟨rfl, rfl, rfl⟩ := trodAll_nil h
  exact ⟨rfl, rfl, fun j t v ht => by simp at ht⟩
 | t :: ts, vs, ds, ps, h => by
  obtain ⟨v, vs', d, ds', p, q, rfl, rfl, rfl, h0, hr⟩ := trodAll_cons h
  obtain ⟨e1, e2, e3⟩ := trodAll_each hr
  refine ⟨by simp [e1], by simp [e2], fun j t' v' ht hv => ?_⟩
  cases j with
  | zero =>
   simp only [List.getElem?_cons_zero, Option.some.injEq] at ht hv
   subst ht; subst hv
   exact ⟨d, p, rfl, h0⟩
  | succ j =>
   simp only [List.getElem?_cons_succ] at ht hv ⊢
   exact e3 j t' v' ht hv
theorem trodAll_after {H : Type} {enc : TypeId × Value → H} {P : Program} (hl : laidOutB P = true) {W W' : World} (hb : Below W.heap.size W W') : ∀ {ts : List TypeId} {vs : List Value} {ds : List (DataW H)} {ps : List MemPlace},
  ts.all (fun t => P.readableRec t && decide (t < P.types.size)) = true → DataW.TrodAll enc P W 0 (fun _ => true) true ts vs ds ps →
  ∃ pa, DataW.TrodAll enc P W' 0 (fun b => decide (b < W.heap.size)) true ts vs ds pa
 | [], vs, ds, ps, _, h => by
  obtain ⟨rfl, rfl, rfl⟩ := trodAll_nil h
  exact ⟨[], trodAll_mk0⟩
 | t :: ts, vs, ds, ps, ht, h => by
  simp only [List.all_cons, Bool.and_eq_true, decide_eq_true_eq] at ht
  obtain ⟨v, vs', d, ds', p, q, rfl, rfl, rfl, h0, hr⟩ := trodAll_cons h
  obtain ⟨pa, hpa⟩ := trodAll_after hl hb ht.2 hr
  have hlt : ∀ x ∈ p, x.block < W.heap.size := by
   obtain ⟨m, hm⟩ := h0
   exact DataW.trod_lt m _ _ _ hm
  exact ⟨_, trodAll_cons_mk (Below.trod hl ht.1.1 ht.1.2 h0 hb hlt) hpa⟩
theorem Sat.below {w0 w : World} {Φ : List Pr} (h : Sat w0 ⟨[], fun _ => True⟩ [] [] Φ w) : Below w0.heap.size w0 w :=
 ⟨h.os, h.tape, h.output, h.size, fun k hk => h.frame k hk (by simp)⟩
theorem Sat.start {w : World} {φ : Pr} (hφ : ∃ F, Loc F φ w) : Sat w ⟨[], fun _ => True⟩ [] [] [φ] w := by
 obtain ⟨F, hF⟩ := hφ
 refine ⟨rfl, rfl, rfl, Nat.le_refl _, fun _ _ _ => rfl, [], by simp [keys], by simp [keys], by simp, trivial, fun ψ hψ => ?_⟩
 obtain rfl := List.mem_singleton.1 hψ
 exact ⟨F, hF, by simp [keys], fun k _ => .inl trivial⟩
theorem Loc.cellAt {w : World} {a : Addr} {v : Value} (h : w.cell? a = some v) : ∃ F, Loc F (fun w => w.cell? a = some v) w := by
 have hlt : a.block < w.heap.size := by
  apply Classical.byContradiction
  intro hn
  have : w.heap[a.block]? = none := Array.getElem?_eq_none (by omega)
  simp [World.cell?, this] at h
 refine ⟨[a.block], h, fun k hk => ?_, fun w' hk => ?_⟩
 ·obtain rfl := List.mem_singleton.1 hk
  exact hlt
 ·show w'.cell? a = some v
  rw [World.cell?_of_block (w := w) (hk a.block (by simp))]
  exact h
theorem lift_law {C : Checked} {os : Os} {f : FuncId} {fn : Func} {s : ChangeSpec} {X : World → Prop} (tb : TypeId)
  (hX : ∀ w w' : World, w.heap = w'.heap → X w → X w') (own : ownKnob C.prog.godebug = none) (started : os.Started) (noInit : C.prog.inits.idxOf? f = none) (hfn : C.prog.funcs[f]? = some fn)
  (hvars : s.vars = []) (hspec : ∀ (H : Type) (ds : List (DataW H)), ds.length = fn.params.size → s.fn H ds = { results := [.lit (.bool true)], args := ds })
  (hres : fn.resultTypes = #[tb]) (htb : C.prog.underlying tb = some .bool) (hl : laidOutB C.prog = true)
  (hts : fn.params.toList.all (fun t => C.prog.readableRec t && decide (t < C.prog.types.size)) = true)
  (H : Type) (enc : TypeId × Value → H)
  (witness : ∃ (w : World) (tape : Tape) (i : Input), w.os = os ∧ (w.forCall tape i).Shaped C.prog ∧ i.vars = [] ∧ Input.okWide C.prog (w.forCall tape i) .any w.heap.size f i ∧
   ((s.pre enc C.prog fn [] false (w.forCall tape i).memory i.args ∧ X (w.forCall tape i).memory) ∧ sizedMet enc C.prog fn (OpenSpec.ofChange s) false (w.forCall tape i).memory i.args) ∧ ({} : Assume).holds C.prog (lone (Frame.enter C.prog f i.args .normal) [] (w.forCall tape i)))
  (hc : ∀ (W : World) (args : Array Value), args.size = fn.params.size → (∀ (j : Nat) t v, fn.params[j]? = some t → args[j]? = some v → Arg C.prog W t v) → X W →
   Calls C.prog f args W fun e w' => e = .returned (.bool true) ∧ Below W.heap.size W w') :
  ReturnsInHanded {} C os f .any (fun w args => (s.pre enc C.prog fn [] false w args ∧ X w) ∧ sizedMet enc C.prog fn (OpenSpec.ofChange s) false w args)
   (s.post enc C.prog fn false true false false) := by
 refine returnsInHanded_of_change_and (X := fun w _ => X w) (fun w w' _ hh h => hX w w' hh h) own started noInit hfn witness ?_
 intro W base args ds gs before hval hW _ hz hx _
 have hW' := hW
 obtain ⟨p, q, hA, hV, rfl, hfz, hnd⟩ := hW
 rw [hvars] at hV
 obtain ⟨rfl, rfl⟩ := trodVars_none hV
 obtain ⟨e1, e2, e3⟩ := trodAll_each hA
 simp only [Array.length_toList] at e1 e2
 have harg : ∀ (j : Nat) t v, fn.params[j]? = some t → args[j]? = some v → Arg C.prog W t v := fun j t v ht hv => by
  have ht' : fn.params.toList[j]? = some t := by simpa using ht
  have hv' : args.toList[j]? = some v := by simpa using hv
  obtain ⟨d, p0, hd, h0⟩ := e3 j t v ht' hv'
  refine ⟨H, enc, base, d, p0, hval j t v ht hv, h0, List.all_eq_true.2 fun n hn => ?_⟩
  refine List.all_eq_true.1 hz n (DataW.weights_mem_each (j := j) (t := t) (d := d) ?_ ?_ n hn)
  ·rw [List.getElem?_append_left (by
    rcases Nat.lt_or_ge j fn.params.toList.length with h | h
    ·exact h
    ·rw [List.getElem?_eq_none h] at ht'; cases ht')]
   exact ht'
  ·simpa using hd
 refine (hc W args e1 harg hx).mono fun e W' ⟨he, bel⟩ => ?_
 subst he
 obtain ⟨pa, hpa⟩ := trodAll_after hl bel hts hA
 have es := hspec H (ds ++ []) (by simpa using e2)
 refine ⟨_, rfl, _, _, _, [], pa, [], hW', ?_, ?_, ?_, bel.frame _, fun h => by cases h⟩
 ·rw [es, hres]
  exact trodAll_mk1 (shut_bool htb true)
 ·rw [es]
  simpa using hpa
 ·rw [es, hvars]
  exact rfl
inductive Leaf where
 | bool
 | int (k : IntKind)
 | str
def Leaf.Val : Leaf → Value → Prop
 | .bool, v => ∃ b, v = .bool b
 | .int k, v => ∃ n, v = .int k n ∧ (Lit.int k n).wf = true
 | .str, v => ∃ s : ByteArray, v = .string s ∧ s.size ≤ reachBytes
def LeafAll : List Leaf → List Value → Prop
 | [], [] => True
 | l :: L, v :: vs => l.Val v ∧ LeafAll L vs
 | _, _ => False
theorem LeafAll.append : ∀ {L M : List Leaf} {vs ws : List Value}, LeafAll L vs → LeafAll M ws → LeafAll (L ++ M) (vs ++ ws)
 | [], _, [], _, _, h => h
 | l :: L, _, v :: vs, _, h, h' => ⟨h.1, LeafAll.append h.2 h'⟩
 | [], _, _ :: _, _, h, _ => h.elim
 | _ :: _, _, [], _, h, _ => h.elim
def leavesF (P : Program) (g : TypeId → Option (List Leaf)) : Nat → List Field → Option (List Leaf)
 | _, [] => some []
 | o, f :: fs => match g f.type with
  | some L => if Nat.beq f.offset o && Nat.beq (P.cellsOf f.type) L.length then (match leavesF P g (o + L.length) fs with | some M => some (L ++ M) | none => none) else none
  | none => none
def leaves (P : Program) : Nat → TypeId → Option (List Leaf)
 | 0, _ => none
 | n + 1, t => match P.underlying t with
  | some .bool => some [.bool]
  | some (.int k) => some [.int k]
  | some .string => some [.str]
  | some (.struct fs) => match leavesF P (leaves P n) 0 fs.toList with
   | some L => if Nat.beq (P.cellsOf t) L.length then some L else none
   | none => none
  | _ => none
section
variable {H : Type} {enc : TypeId × Value → H} {P : Program} {w : World} {base : Nat} {sp : Nat → Bool} {held : Bool}
theorem trod_fields {g : TypeId → Option (List Leaf)} {m : Nat} {cs : List Value}
  (ih : ∀ t L, g t = some L → ∀ cs x, DataW.trod enc P w base sp held m t cs = some x → (x.1.weights P t).all (· ≤ reachBytes) = true → LeafAll L cs) :
  ∀ (fs : List Field) (o : Nat) (L : List Leaf) (xs : List (DataW H × List MemPlace)), leavesF P g o fs = some L →
   fs.mapM (fun f => DataW.trod enc P w base sp held m f.type ((cs.drop f.offset).take (P.cellsOf f.type))) = some xs →
   (DataW.weightsEach P (fs.map (·.type)) (xs.map (·.1))).all (· ≤ reachBytes) = true → LeafAll L ((cs.drop o).take L.length)
 | [], o, L, xs, hL, h, hw => by
  simp only [leavesF, Option.some.injEq] at hL
  subst hL
  exact trivial
 | f :: fs, o, L, xs, hL, h, hw => by
  simp only [leavesF] at hL
  split at hL
  ·next L0 h0 =>
   split at hL
   ·next hc =>
    simp only [Bool.and_eq_true, Nat.beq_eq] at hc
    split at hL
    ·next M hM =>
     simp only [Option.some.injEq] at hL
     subst hL
     rw [List.mapM_cons] at h
     simp only [bind, Option.bind_eq_some_iff, pure, Option.some.injEq] at h
     obtain ⟨x, hx, ys, hys, rfl⟩ := h
     simp only [List.map_cons, DataW.weightsEach, List.all_append, Bool.and_eq_true] at hw
     have a1 := ih f.type L0 h0 _ x hx hw.1
     have a2 := trod_fields ih fs _ M ys hM hys hw.2
     rw [hc.1, hc.2] at a1
     have : (cs.drop o).take (L0 ++ M).length = (cs.drop o).take L0.length ++ (cs.drop (o + L0.length)).take M.length := by
      rw [List.length_append, List.take_add, List.drop_drop]
     rw [this]
     exact a1.append a2
    ·cases hL
   ·cases hL
  ·cases hL
theorem trod_leaves : ∀ (n : Nat) (t : TypeId) (L : List Leaf), leaves P n t = some L → ∀ (m : Nat) (cs : List Value) (x : DataW H × List MemPlace),
  DataW.trod enc P w base sp held m t cs = some x → (x.1.weights P t).all (· ≤ reachBytes) = true → LeafAll L cs
 | 0, t, L, hL, _, _, _, _, _ => by cases hL
 | n + 1, t, L, hL, 0, cs, x, h, hw => by simp [DataW.trod] at h
 | n + 1, t, L, hL, m + 1, cs, x, h, hw => by
  unfold leaves at hL
  split at hL
  ·next hu =>
   simp only [Option.some.injEq] at hL
   subst hL
   obtain ⟨b, rfl, _⟩ := DataW.trod_bool hu h
   exact ⟨⟨b, rfl⟩, trivial⟩
  ·next k hu =>
   simp only [Option.some.injEq] at hL
   subst hL
   obtain ⟨b, rfl, _, hb⟩ := DataW.trod_int hu h
   exact ⟨⟨b, rfl, hb⟩, trivial⟩
  ·next hu =>
   simp only [Option.some.injEq] at hL
   subst hL
   obtain ⟨b, rfl, rfl, hb⟩ := DataW.trod_string hu h
   refine ⟨⟨b, rfl, ?_⟩, trivial⟩
   simpa [DataW.weights] using hw
  ·next fs hu =>
   split at hL
   ·next L0 hL0 =>
    split at hL
    ·next hlL =>
     simp only [Option.some.injEq] at hL
     subst hL
     simp only [Nat.beq_eq] at hlL
     simp only [DataW.trod, hu] at h
     split at h
     ·next hlen =>
      simp only [Option.map_eq_some_iff] at h
      obtain ⟨xs, hxs, rfl⟩ := h
      simp only [DataW.weights, hu] at hw
      have := trod_fields (cs := cs) (fun t L hL cs x hx hw => trod_leaves n t L hL m cs x hx hw) fs.toList 0 L0 xs hL0 hxs hw
      rw [List.drop_zero, List.take_of_length_le (by rw [hlen, hlL]; exact Nat.le_refl _)] at this
      exact this
     ·cases h
    ·cases hL
   ·cases hL
  ·cases hL
end
theorem Arg.int {P : Program} {W : World} {t : TypeId} {v : Value} {k : IntKind} (ht : P.underlying t = some (.int k)) (h : Arg P W t v) : ∃ n, v = .int k n ∧ (Lit.int k n).wf = true := by
 obtain ⟨H, enc, base, d, ps, h1, h2, h3⟩ := h
 obtain ⟨b, rfl, _, _, hw⟩ := open_int ht h1 h2
 exact ⟨b, rfl, hw⟩
theorem Arg.agg {P : Program} {W : World} {t : TypeId} {v : Value} {fs : Array Field} {L : List Leaf} (n : Nat) (ht : P.underlying t = some (.struct fs)) (hL : leaves P n t = some L) (h : Arg P W t v) : ∃ cs : List Value, v = .agg cs.toArray ∧ LeafAll L cs := by
 obtain ⟨H, enc, base, d, ps, h1, ⟨fuel, h2⟩, h3⟩ := h
 simp only [Value.okWide, ht] at h1
 obtain ⟨cs, rfl, _, _⟩ := h1
 exact ⟨cs.toList, rfl, trod_leaves n t L hL fuel _ _ h2 h3⟩
theorem LeafAll.cons {l : Leaf} {L : List Leaf} {vs : List Value} (h : LeafAll (l :: L) vs) : ∃ v vs', vs = v :: vs' ∧ l.Val v ∧ LeafAll L vs' := by
 cases vs with
 | nil => exact h.elim
 | cons v vs => exact ⟨v, vs, rfl, h.1, h.2⟩
theorem LeafAll.nil {vs : List Value} (h : LeafAll [] vs) : vs = [] := by
 cases vs with
 | nil => rfl
 | cons v vs => exact h.elim
theorem args_one {args : Array Value} (h : args.size = 1) : ∃ a, args = #[a] := by
 obtain ⟨l⟩ := args
 match l, h with
 | [a], _ => exact ⟨a, rfl⟩
theorem args_three {args : Array Value} (h : args.size = 3) : ∃ a b c, args = #[a, b, c] := by
 obtain ⟨l⟩ := args
 match l, h with
 | [a, b, c], _ => exact ⟨a, b, c, rfl⟩
theorem wf_i64 {n : Int} (h : (Lit.int .i64 n).wf = true) : -9223372036854775808 ≤ n ∧ n ≤ 9223372036854775807 := by
 simp [Lit.wf, IntKind.min, IntKind.max, IntKind.bits, IntKind.signed] at h; omega
theorem wf_u64 {n : Int} (h : (Lit.int .u64 n).wf = true) : 0 ≤ n ∧ n ≤ 18446744073709551615 := by
 simp [Lit.wf, IntKind.min, IntKind.max, IntKind.bits, IntKind.signed] at h; omega
theorem noStand {P : Program} {fn : Func} (h : fn.params.toList.all (fun t => !P.wantsStandIn t) = true) (j : Nat) (t : TypeId) (ht : fn.params[j]? = some t) : P.wantsStandIn t = false := by
 have hm : t ∈ fn.params.toList := List.mem_of_getElem? (i := j) (by simpa using ht)
 simpa using List.all_eq_true.1 h t hm
end Eng
namespace Eng
open Go
theorem i64_id {n : Int} (h : -9223372036854775808 ≤ n ∧ n ≤ 9223372036854775807) : i64 n = n := by
 simp [i64, IntKind.wrap, IntKind.bits, IntKind.signed]; omega
theorem u64_id {n : Int} (h : 0 ≤ n ∧ n ≤ 18446744073709551615) : u64 n = n := by
 simp [u64, IntKind.wrap, IntKind.bits, IntKind.signed]; omega
theorem u8_id {n : Int} (h : 0 ≤ n ∧ n ≤ 255) : u8 n = n := by
 simp [u8, IntKind.wrap, IntKind.bits, IntKind.signed]; omega
theorem u8_mod (n : Int) : u8 n = n % 256 := by simp [u8, IntKind.wrap, IntKind.bits, IntKind.signed]
theorem bOr_i64 {x y : Nat} (hx : x < 2 ^ 63) (hy : y < 2 ^ 63) : bOr .i64 x y = ((x ||| y : Nat) : Int) := by
 have h : x ||| y < 2 ^ 63 := Nat.or_lt_two_pow hx hy
 show IntKind.i64.wrap ((BitVec.ofInt 64 x ||| BitVec.ofInt 64 y).toNat : Int) = _
 rw [BitVec.toNat_or, BitVec.ofInt_natCast, BitVec.ofInt_natCast, BitVec.toNat_ofNat, BitVec.toNat_ofNat]
 rw [Nat.mod_eq_of_lt (by omega), Nat.mod_eq_of_lt (by omega)]
 exact i64_id (by omega)
theorem bOr_u64 {x y : Nat} (hx : x < 2 ^ 64) (hy : y < 2 ^ 64) : bOr .u64 x y = ((x ||| y : Nat) : Int) := by
 have h : x ||| y < 2 ^ 64 := Nat.or_lt_two_pow hx hy
 show IntKind.u64.wrap ((BitVec.ofInt 64 x ||| BitVec.ofInt 64 y).toNat : Int) = _
 rw [BitVec.toNat_or, BitVec.ofInt_natCast, BitVec.ofInt_natCast, BitVec.toNat_ofNat, BitVec.toNat_ofNat]
 rw [Nat.mod_eq_of_lt (by omega), Nat.mod_eq_of_lt (by omega)]
 exact u64_id (by omega)
theorem bAnd_i64 {x y : Nat} (hx : x < 2 ^ 63) (hy : y < 2 ^ 63) : bAnd .i64 x y = ((x &&& y : Nat) : Int) := by
 have h : x &&& y < 2 ^ 63 := Nat.and_lt_two_pow x hy
 show IntKind.i64.wrap ((BitVec.ofInt 64 x &&& BitVec.ofInt 64 y).toNat : Int) = _
 rw [BitVec.toNat_and, BitVec.ofInt_natCast, BitVec.ofInt_natCast, BitVec.toNat_ofNat, BitVec.toNat_ofNat]
 rw [Nat.mod_eq_of_lt (by omega), Nat.mod_eq_of_lt (by omega)]
 exact i64_id (by omega)
theorem or_add (i : Nat) {x y : Nat} (hy : y < 2 ^ i) : x * 2 ^ i ||| y = x * 2 ^ i + y := by
 rw [← Nat.shiftLeft_eq, Nat.shiftLeft_add_eq_or_of_lt hy]
theorem and_mask (i : Nat) (x : Nat) : x &&& (2 ^ i - 1) = x % 2 ^ i := Nat.and_two_pow_sub_one_eq_mod x i
theorem bAnd_4096 {x : Nat} (hx : x < 2 ^ 63) : bAnd .i64 x 4096 = (((x / 4096 % 2) * 4096 : Nat) : Int) := by
 have := bAnd_i64 (x := x) (y := 4096) hx (by decide)
 rw [show ((4096 : Nat) : Int) = 4096 from rfl] at this
 rw [this]
 congr 1
 refine Nat.eq_of_testBit_eq fun i => ?_
 rw [show (4096 : Nat) = 2 ^ 12 from rfl, Nat.testBit_and, Nat.testBit_two_pow, Nat.testBit_mul_two_pow]
 by_cases h : 12 = i
 ·subst h
  rw [Nat.testBit_eq_decide_div_mod_eq, Nat.testBit_eq_decide_div_mod_eq]
  simp
 ·by_cases h2 : 12 ≤ i
  ·have : (x / 2 ^ 12 % 2).testBit (i - 12) = false := Nat.testBit_lt_two_pow (Nat.lt_of_lt_of_le (Nat.mod_lt _ (by decide)) (by
    have : 2 ^ 1 ≤ 2 ^ (i - 12) := Nat.pow_le_pow_right (by decide) (by omega)
    omega))
   simp [h, this]
  ·simp [h, h2]
def L (s : ByteArray) : List UInt8 := s.data.toList
theorem L_inj {s t : ByteArray} (h : L s = L t) : s = t := by
 cases s with | mk a => cases t with | mk b => simp only [L] at h; exact congrArg _ (Array.toList_inj.1 h)
theorem L_length (s : ByteArray) : (L s).length = s.size := Array.length_toList
theorem L_append (s t : ByteArray) : L (s ++ t) = L s ++ L t := ByteArray.toList_data_append
theorem L_empty : L (⟨#[]⟩ : ByteArray) = [] := rfl
theorem L_mk (l : List UInt8) : L ⟨l.toArray⟩ = l := rfl
theorem L_extract (s : ByteArray) (l h : Nat) : L (s.extract l h) = ((L s).drop l).take (h - l) := by
 show (s.extract l h).data.toList = _
 rw [ByteArray.data_extract, Array.toList_extract, List.extract_eq_take_drop]
 rfl
theorem toList_eq (s : ByteArray) : s.toList = L s := ByteArray.toList_eq s
theorem catS_eq {s t : ByteArray} (h : s.size + t.size ≤ 9223372036854775807) : catS s t = some (s ++ t) := if_pos h
theorem sliceS_eq {s : ByteArray} {l h : Int} (hh : 0 ≤ l ∧ l ≤ h ∧ h ≤ (s.size : Int)) : sliceS s l h = some (s.extract l.toNat h.toNat) := if_pos hh
def beL : Nat → Nat → List UInt8
 | 0, _ => []
 | n + 1, v => UInt8.ofNat (v / 256 ^ n % 256) :: beL n v
def be (n v : Nat) : ByteArray := ⟨(beL n v).toArray⟩
def beV (l : List UInt8) : Nat := l.foldl (fun a b => a * 256 + b.toNat) 0
theorem beL_length (n v : Nat) : (beL n v).length = n := by induction n with | zero => rfl | succ n ih => simp [beL, ih]
theorem be_size (n v : Nat) : (be n v).size = n := by simp [be, ByteArray.size, beL_length]
theorem L_be (n v : Nat) : L (be n v) = beL n v := rfl
theorem foldl_be (l : List UInt8) (a : Nat) : l.foldl (fun a b => a * 256 + b.toNat) a = a * 256 ^ l.length + beV l := by
 induction l generalizing a with
 | nil => simp [beV]
 | cons b l ih =>
  simp only [List.foldl_cons, List.length_cons, beV, Nat.zero_mul, Nat.zero_add]
  rw [ih, ih b.toNat, Nat.pow_succ]
  simp only [Nat.add_mul]
  rw [show 256 ^ l.length * 256 = 256 * 256 ^ l.length from Nat.mul_comm _ _, Nat.mul_assoc]
  omega
theorem beV_lt (l : List UInt8) : beV l < 256 ^ l.length := by
 induction l with
 | nil => simp [beV]
 | cons b l ih =>
  have : beV (b :: l) = b.toNat * 256 ^ l.length + beV l := by
   show (b :: l).foldl _ 0 = _
   rw [List.foldl_cons, foldl_be]; simp
  rw [this, List.length_cons, Nat.pow_succ]
  have hb := b.toNat_lt
  have : b.toNat * 256 ^ l.length ≤ 255 * 256 ^ l.length := Nat.mul_le_mul_right _ (by omega)
  omega
theorem beV_cons (b : UInt8) (l : List UInt8) : beV (b :: l) = b.toNat * 256 ^ l.length + beV l := by
 show (b :: l).foldl _ 0 = _
 rw [List.foldl_cons, foldl_be]; simp
theorem beV_beL (n v : Nat) : beV (beL n v) = v % 256 ^ n := by
 induction n with
 | zero => simp [beL, beV, Nat.mod_one]
 | succ n ih =>
  simp only [beL]
  rw [beV_cons, beL_length, ih]
  have : (UInt8.ofNat (v / 256 ^ n % 256)).toNat = v / 256 ^ n % 256 := by simp
  rw [this, Nat.pow_succ, Nat.mod_mul]
  rw [Nat.mul_comm, Nat.add_comm]
end Eng