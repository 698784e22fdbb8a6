/- What runs with symbols take: no conditions but those that each theorem bears. -/
import Derived.Test.YtlihmahekidkaaaGreatDoorC3
import Derived.Test.YtlihmahekidkaaaGreatDoorF2
import Derived.Test.YtlihmahekidkaaaGreatDoorF1

/- What runs with symbols take: facts of variables, strings.Join, arp.laid. -/
namespace Go.Proofs.YtlihmahekidkaaaGreatDoor
open Go Eng
set_option linter.unusedVariables false
set_option linter.unusedSimpArgs false
set_option linter.unusedSectionVars false

theorem glob_up {Gl : List Pr} (w : World) (Z : Zone) (w' : World) (h : Sat w Z [] [] Gl w) (h1 : w.heap.size ≤ w'.heap.size) (h2 : ∀ k, k < w.heap.size → w'.heap[k]? = w.heap[k]?) : Sat w' ⟨[], fun _ => True⟩ [] [] Gl w' := by
  obtain ⟨Fs, o⟩ := h.own
  refine ⟨rfl, rfl, rfl, Nat.le_refl _, fun _ _ _ => rfl, [], by simp [keys], by simp [keys], by simp, trivial, fun ψ hψ => ?_⟩
  obtain ⟨F, hF, _, _⟩ := o.ro ψ hψ
  exact ⟨F, hF.mono h1 fun k hk => h2 k (hF.lt k hk), by simp [keys], fun k _ => .inl trivial⟩
section
variable [Ci.Sym]
noncomputable def laidSp (vs : List Ci.V) (s : Ci.St) : Ci.R := match vs with
  | [.agg [.i .i64 a, .i .u64 b, .i .u32 c, .i .u64 d, .i .u32 e]] => match arp_laid.f 64 ⟨a, b, c, d, e⟩ with
    | some r => .ok (Ci.valV (.string r)) s
    | none => .no [77]
  | _ => .no [78]
theorem laidSp_ok (hG : Ci.GOk Glob) (hf : Ci.hasF Tryz.prog 36 = true) (w0 : World) (T : Nat → Prop) (vs : List Ci.V) (s : Ci.St) (v : Ci.V) (s' : Ci.St) (θ : Ci.Th) (w : World) (args : List Value) (h : laidSp vs s = .ok v s') (hv : Ci.Rvs θ vs args) (hr : Ci.Rel w0 T θ s w) : Ci.Ends Tryz.prog w0 T θ s v s' ((callFunc 36 args.toArray).run Tryz.prog w) := by
  unfold laidSp at h
  split at h
  · rename_i a b c d e
    split at h
    · rename_i r hl
      cases h
      obtain ⟨x, zs, rfl, ⟨ys, rfl, ⟨y1, z1, rfl, h1, y2, z2, rfl, h2, y3, z3, rfl, h3, y4, z4, rfl, h4, y5, z5, rfl, h5, h6⟩, _⟩, hz⟩ := hv
      cases hz
      cases h1
      cases h2
      cases h3
      cases h4
      cases h5
      cases h6
      refine .inr (.inr ⟨_, _, w, Ci.callFunc_run hf _ _, ?_⟩)
      have hc := arp_laid_calls 64 ⟨a, b, c, d, e⟩ r hl w ⟨[], fun _ => True⟩ (hG.1 w (hr.glob w hr.size hr.frame))
      refine hc.mono fun en w' ⟨he, hS⟩ => ⟨θ, _, he, Ci.valV_ok (v := .string r) nofun, (hr.grow hS.os hS.tape hS.output hS.size fun k hk => hS.frame k hk nofun).post' rfl⟩
    · cases h
  · cases h
end
set_option maxRecDepth 100000 in
theorem Bldr.lays156 : Go.Proofs.Lays.n156 Tryz.prog Bldr.ren where
  mixed := by kernel_rfl
  f156 := by kernel_rfl
  f165 := by kernel_rfl
  f166 := by kernel_rfl
  f169 := by kernel_rfl
  f240 := by kernel_rfl
  f241 := by kernel_rfl
  f276 := by kernel_rfl
  f277 := by kernel_rfl
  t0 := by kernel_rfl
  a0 := (fun _ => by kernel_rfl)
  z0 := (fun _ => by kernel_rfl)
  v0 := (fun _ => by kernel_rfl)
  t3 := by kernel_rfl
  a3 := (fun _ => by kernel_rfl)
  z3 := (fun _ => by kernel_rfl)
  v3 := (fun _ => by kernel_rfl)
  t4 := by kernel_rfl
  a4 := (fun _ => by kernel_rfl)
  z4 := (fun _ => by kernel_rfl)
  v4 := (fun _ => by kernel_rfl)
  t9 := by kernel_rfl
  a9 := (fun _ => by kernel_rfl)
  z9 := (fun _ => by kernel_rfl)
  v9 := (fun _ => by kernel_rfl)
  t20 := by kernel_rfl
  a20 := (fun _ => by kernel_rfl)
  z20 := (fun _ => by kernel_rfl)
  v20 := (fun _ => by kernel_rfl)
  t31 := by kernel_rfl
  a31 := (fun _ => by kernel_rfl)
  z31 := (fun _ => by kernel_rfl)
  v31 := (fun _ => by kernel_rfl)
  t37 := by kernel_rfl
  a37 := (fun _ => by kernel_rfl)
  z37 := (fun _ => by kernel_rfl)
  v37 := (fun _ => by kernel_rfl)
  t70 := by kernel_rfl
  a70 := (fun _ => by kernel_rfl)
  z70 := (fun _ => by kernel_rfl)
  v70 := (fun _ => by kernel_rfl)
  t72 := by kernel_rfl
  a72 := (fun _ => by kernel_rfl)
  z72 := (fun _ => by kernel_rfl)
  v72 := (fun _ => by kernel_rfl)
  t75 := by kernel_rfl
  a75 := (fun _ => by kernel_rfl)
  z75 := (fun _ => by kernel_rfl)
  v75 := (fun _ => by kernel_rfl)
  t76 := by kernel_rfl
  a76 := (fun _ => by kernel_rfl)
  z76 := (fun _ => by kernel_rfl)
  v76 := (fun _ => by kernel_rfl)
  t127 := by kernel_rfl
  a127 := (fun _ => by kernel_rfl)
  z127 := (fun _ => by kernel_rfl)
  v127 := (fun _ => by kernel_rfl)
  t164 := by kernel_rfl
  a164 := (fun _ => by kernel_rfl)
  z164 := (fun _ => by kernel_rfl)
  v164 := (fun _ => by kernel_rfl)
def noGlob : World → Prop := fun w => Sat w ⟨[], fun _ => True⟩ [] [] Glob w
section
variable [Ci.Sym]
/-- The specials of a run: strings.Join, arp.laid where the table has nothing, the table. -/
noncomputable def laidTab (tab : List Ci.Ent) (vs : List Ci.V) (s : Ci.St) : Ci.R := Ci.R.rec (fun _ => laidSp vs s) .ok (Ci.lookEnt tab 36 vs s)
noncomputable def runSp (tab : List Ci.Ent) : Nat → Option (List Ci.V → Ci.St → Ci.R) := Ci.oneSp 375 Ci.spJoin (Ci.oneSp 36 (laidTab tab) (Ci.tabSp tab))
theorem runSp_ok {tab : List Ci.Ent} (hG : Ci.GOk Glob) (h : ∀ e ∈ tab, Ci.EntOk Tryz.prog Glob e) : Ci.SpOk Tryz.prog (runSp tab) := by
  have ht := Ci.tabSp_ok hG h
  refine Ci.oneSp_ok (fun w0 T vs s v s' θ w args => Ci.spJoin_ok Bldr.lays156 Bldr.extra (by kernel_rfl) w0 T vs s v s' θ w args) (Ci.oneSp_ok (fun w0 T vs s v s' θ w args h1 hv hr => ?_) ht)
  unfold laidTab at h1
  cases hl : Ci.lookEnt tab 36 vs s with
  | no ww => rw [hl] at h1; exact laidSp_ok hG (by kernel_rfl) w0 T vs s v s' θ w args h1 hv hr
  | ok u s1 =>
    rw [hl] at h1
    exact ht 36 _ rfl w0 T vs s v s' θ w args (hl.trans h1) hv hr
/-- A run with symbols. -/
noncomputable def symRun (tab : List Ci.Ent) (f : Nat) (vs : List Ci.V) : Bool := Ci.isTrue (Ci.runF (runSp tab) (Ci.getF Tryz.prog) (Ci.yOf Tryz.prog) 60 f vs ⟨.e, .lf⟩)
theorem symRun_ok {tab : List Ci.Ent} {f : Nat} {vs : List Ci.V} (hG : Ci.GOk Glob) (hf : Ci.hasF Tryz.prog f = true) (h : ∀ e ∈ tab, Ci.EntOk Tryz.prog Glob e) (hv : Ci.flats vs = true) (hr : symRun tab f vs = true) : Pure Tryz.prog Glob f (Ci.toVals vs).toArray (.bool true) :=
  Ci.symbols_ok hG (runSp_ok hG h) hf (Ci.flats_rv hv) hr
end
end Go.Proofs.YtlihmahekidkaaaGreatDoor

/- Tables of calls whose answers are known. -/
namespace Go.Proofs.YtlihmahekidkaaaGreatDoor
open Go Eng
open Ci (V Ent)
set_option linter.unusedVariables false
set_option linter.unusedSimpArgs false

def n64 (n : Nat) : V := .i .i64 (.ofNat n)
def m64 (n : Nat) : V := .i .u64 (.ofNat n)
def m32 (n : Nat) : V := .i .u32 (.ofNat n)
def frV (d s : Nat) (t b : V) : V := .agg [m64 d, m64 s, .b false, n64 0, .b false, n64 0, t, b]
def okV1 (v : V) : V := .tup [v, n64 0]
def udV (p b : Nat) : V := .agg [.ui .i64 p, n64 4789, .b true, .us b]
def ipV (id s d b : Nat) : V := .agg [n64 0, n64 id, .b true, .b false, n64 0, n64 64, n64 17, m32 s, m32 d, .us b]
def arV (op : Nat) (m s t i : V) : V := .agg [n64 op, m, s, t, i]
/-- A frame built and parsed. -/
def bpT (f : V) (n : Nat) : List Ent := [⟨17, [f], okV1 (.us n)⟩, ⟨23, [.us n], okV1 f⟩]
/-- The bytes n, in a datagram from a port. -/
def vxT (n p v : Nat) : List Ent := [⟨296, [.us n], .ui .i64 p⟩, ⟨295, [n64 1000, .us n], okV1 (.us v)⟩, ⟨298, [.us v], .tup [n64 1000, .us n, n64 0]⟩]
def udT (s d p v u : Nat) : List Ent := [⟨332, [m32 s, m32 d, udV p v], okV1 (.us u)⟩, ⟨249, [m32 s, m32 d, .us u], okV1 (udV p v)⟩]
def ipT (id s d u q : Nat) : List Ent := [⟨333, [ipV id s d u], okV1 (.us q)⟩, ⟨247, [.us q], okV1 (ipV id s d u)⟩]

abbrev noSym : Ci.Sym where
  g := fun _ => True
  I := fun _ => 0
  S := fun _ => ⟨#[]⟩
  eqs := []
  eqs_ok := nofun
  bins := []
  bins_ok := fun _ _ _ _ h => nomatch h
  lens := []
  lens_ok := nofun
  mins := []
  mins_ok := nofun
  cuts := []
  cuts_ok := nofun
theorem gtr_le {a : Int} (h : a ≤ 1500) : Ci.intBin .gtr .i64 .i64 a 1500 = .b false := by
  show V.b (Ci.ltI 1500 a) = _
  rw [@Ci.ltI_eq noSym, decide_eq_false (by omega)]
theorem binN_gtr {op : BinOp} (h : Ci.binN op = 15) : op = .gtr := by cases op <;> first | rfl | cases h
theorem binN_or {op : BinOp} (h : Ci.binN op = 6) : op = .or := by cases op <;> first | rfl | cases h
end Go.Proofs.YtlihmahekidkaaaGreatDoor

/- slices.Insert of the table's entries, where the room is not known. -/
namespace Go.Proofs.YtlihmahekidkaaaGreatDoor
open Go Eng
open Ci (V Bin)
set_option linter.unusedVariables false
set_option linter.unusedSectionVars false
section
variable [Ci.Sym]
noncomputable def overSp : Nat → Option (List V → Ci.St → Ci.R) := Ci.oneSp 336 Ci.spOver fun _ => none
theorem overSp_ok : Ci.SpOk Tryz.prog overSp := Ci.oneSp_ok (Ci.spOver_ok (tS := 358) (tR := 4) (e := 394) (size := 4) Tryz.func336 (by kernel_rfl) (by kernel_rfl) (by kernel_rfl) (by kernel_rfl) (by kernel_rfl) (fun w => by kernel_rfl)) (fun f g h => by cases h)
noncomputable def insF : Ci.Fs := Ci.runF overSp (Ci.getF Tryz.prog) (Ci.yOf Tryz.prog) 3
def stOf (r : Ci.R) : Ci.St := match r with
  | .ok _ s => s
  | .no _ => ⟨.e, .lf⟩
noncomputable abbrev insR (c : Nat) (a b : List V) : Ci.R := Ci.walkF (Ci.getF Tryz.prog) (Ci.yOf Tryz.prog) insF 305 [.sl .e 0 1 c true, .i .i64 (.ofNat 0), .sl (.o .e) 0 1 1 true] (Ci.insSt a b)
set_option maxRecDepth 1000000 in
theorem insA (y0 y1 y2 y3 z0 z1 z2 z3 : Value) : insR 1 [.c y0, .c y1, .c y2, .c y3] [.c z0, .c z1, .c z2, .c z3] = .ok (.sl (.i .e) 0 2 0 false) (stOf (insR 1 [.c y0, .c y1, .c y2, .c y3] [.c z0, .c z1, .c z2, .c z3])) := by kernel_rfl
set_option maxRecDepth 1000000 in
theorem insA1 (y0 y1 y2 y3 z0 z1 z2 z3 : Value) : Ci.getB (.i .e) (stOf (insR 1 [.c y0, .c y1, .c y2, .c y3] [.c z0, .c z1, .c z2, .c z3])) = .grow 4 [.c z0, .c z1, .c z2, .c z3, .c y0, .c y1, .c y2, .c y3] := by kernel_rfl
set_option maxRecDepth 1000000 in
theorem insA2 (y0 y1 y2 y3 z0 z1 z2 z3 : Value) : Ci.getB .e (stOf (insR 1 [.c y0, .c y1, .c y2, .c y3] [.c z0, .c z1, .c z2, .c z3])) = .grow 4 [.c y0, .c y1, .c y2, .c y3] := by kernel_rfl
set_option maxRecDepth 1000000 in
theorem insA3 (y0 y1 y2 y3 z0 z1 z2 z3 : Value) : Ci.getB (.o .e) (stOf (insR 1 [.c y0, .c y1, .c y2, .c y3] [.c z0, .c z1, .c z2, .c z3])) = .cells [.c z0, .c z1, .c z2, .c z3] := by kernel_rfl
set_option maxRecDepth 1000000 in
theorem insB (k : Nat) (y0 y1 y2 y3 t0 t1 t2 t3 z0 z1 z2 z3 : Value) : insR (Nat.succ (Nat.succ k)) [.c y0, .c y1, .c y2, .c y3, .c t0, .c t1, .c t2, .c t3] [.c z0, .c z1, .c z2, .c z3] = .ok (.sl .e 0 2 (Nat.succ (Nat.succ k)) true) (stOf (insR (Nat.succ (Nat.succ k)) [.c y0, .c y1, .c y2, .c y3, .c t0, .c t1, .c t2, .c t3] [.c z0, .c z1, .c z2, .c z3])) := by kernel_rfl
set_option maxRecDepth 1000000 in
theorem insB1 (k : Nat) (y0 y1 y2 y3 t0 t1 t2 t3 z0 z1 z2 z3 : Value) : Ci.getB .e (stOf (insR (Nat.succ (Nat.succ k)) [.c y0, .c y1, .c y2, .c y3, .c t0, .c t1, .c t2, .c t3] [.c z0, .c z1, .c z2, .c z3])) = .grow 4 [.c z0, .c z1, .c z2, .c z3, .c y0, .c y1, .c y2, .c y3] := by kernel_rfl
set_option maxRecDepth 1000000 in
theorem insB2 (k : Nat) (y0 y1 y2 y3 t0 t1 t2 t3 z0 z1 z2 z3 : Value) : Ci.getB (.o .e) (stOf (insR (Nat.succ (Nat.succ k)) [.c y0, .c y1, .c y2, .c y3, .c t0, .c t1, .c t2, .c t3] [.c z0, .c z1, .c z2, .c z3])) = .cells [.c z0, .c z1, .c z2, .c z3] := by kernel_rfl
theorem mk_run3 {r : Ci.R} {v : V} {s : Ci.St} {a b c : Bin} {x y z : Ci.O} (h : r = .ok v s) (h1 : Ci.getB a s = x) (h2 : Ci.getB b s = y) (h3 : Ci.getB c s = z) : ∃ N M, r = .ok v ⟨N, M⟩ ∧ Ci.getB a ⟨N, M⟩ = x ∧ Ci.getB b ⟨N, M⟩ = y ∧ Ci.getB c ⟨N, M⟩ = z := ⟨s.n, s.m, h, h1, h2, h3⟩
theorem mk_run2 {r : Ci.R} {v : V} {s : Ci.St} {a b : Bin} {x y : Ci.O} (h : r = .ok v s) (h1 : Ci.getB a s = x) (h2 : Ci.getB b s = y) : ∃ N M, r = .ok v ⟨N, M⟩ ∧ Ci.getB a ⟨N, M⟩ = x ∧ Ci.getB b ⟨N, M⟩ = y := ⟨s.n, s.m, h, h1, h2⟩
theorem insRun : Ci.InsRun Tryz.prog 305 insF where
  fs := Ci.runF_ok overSp_ok 3
  has := by kernel_rfl
  A := fun y0 y1 y2 y3 z0 z1 z2 z3 => mk_run3 (insA y0 y1 y2 y3 z0 z1 z2 z3) (insA1 y0 y1 y2 y3 z0 z1 z2 z3) (insA2 y0 y1 y2 y3 z0 z1 z2 z3) (insA3 y0 y1 y2 y3 z0 z1 z2 z3)
  B := fun k y0 y1 y2 y3 t0 t1 t2 t3 z0 z1 z2 z3 => mk_run2 (insB k y0 y1 y2 y3 t0 t1 t2 t3 z0 z1 z2 z3) (insB1 k y0 y1 y2 y3 t0 t1 t2 t3 z0 z1 z2 z3) (insB2 k y0 y1 y2 y3 t0 t1 t2 t3 z0 z1 z2 z3)
end
end Go.Proofs.YtlihmahekidkaaaGreatDoor
