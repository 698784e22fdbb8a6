/- What runs with symbols take: no conditions but those that each theorem bears. -/
import Derived.Test.YtlihmahekidkaaaGreatDoorC3
import Derived.Test.YtlihmahekidkaaaGreatDoorF2
import Derived.Test.YtlihmahekidkaaaGreatDoorF1

/- What runs with symbols take: facts of variables, strings.Join, arp.laid. -/
namespace Go.Proofs.YtlihmahekidkaaaGreatDoor
open Go Eng
set_option linter.unusedVariables false
set_option linter.unusedSimpArgs false
set_option linter.unusedSectionVars false

theorem glob_up {Gl : List Pr} (w : World) (Z : Zone) (w' : World) (h : Sat w Z [] [] Gl w) (h1 : w.heap.size ≤ w'.heap.size) (h2 : ∀ k, k < w.heap.size → w'.heap[k]? = w.heap[k]?) : Sat w' ⟨[], fun _ => True⟩ [] [] Gl w' := by
  obtain ⟨Fs, o⟩ := h.own
  refine ⟨rfl, rfl, rfl, Nat.le_refl _, fun _ _ _ => rfl, [], by simp [keys], by simp [keys], by simp, trivial, fun ψ hψ => ?_⟩
  obtain ⟨F, hF, _, _⟩ := o.ro ψ hψ
  exact ⟨F, hF.mono h1 fun k hk => h2 k (hF.lt k hk), by simp [keys], fun k _ => .inl trivial⟩
section
variable [Ci.Sym]
noncomputable def laidSp (vs : List Ci.V) (s : Ci.St) : Ci.R := match vs with
  | [.agg [.i .i64 a, .i .u64 b, .i .u32 c, .i .u64 d, .i .u32 e]] => match arp_laid.f 64 ⟨a, b, c, d, e⟩ with
    | some r => .ok (Ci.valV (.string r)) s
    | none => .no [77]
  | _ => .no [78]
theorem laidSp_ok (hG : Ci.GOk Glob) (hf : Ci.hasF Tryz.prog 36 = true) (w0 : World) (T : Nat → Prop) (vs : List Ci.V) (s : Ci.St) (v : Ci.V) (s' : Ci.St) (θ : Ci.Th) (w : World) (args : List Value) (h : laidSp vs s = .ok v s') (hv : Ci.Rvs θ vs args) (hr : Ci.Rel w0 T θ s w) : Ci.Ends Tryz.prog w0 T θ s v s' ((callFunc 36 args.toArray).run Tryz.prog w) := by
  unfold laidSp at h
  split at h
  · rename_i a b c d e
    split at h
    · rename_i r hl
      cases h
      obtain ⟨x, zs, rfl, ⟨ys, rfl, ⟨y1, z1, rfl, h1, y2, z2, rfl, h2, y3, z3, rfl, h3, y4, z4, rfl, h4, y5, z5, rfl, h5, h6⟩, _⟩, hz⟩ := hv
      cases hz
      cases h1
      cases h2
      cases h3
      cases h4
      cases h5
      cases h6
      refine .inr (.inr ⟨_, _, w, Ci.callFunc_run hf _ _, ?_⟩)
      have hc := arp_laid_calls 64 ⟨a, b, c, d, e⟩ r hl w ⟨[], fun _ => True⟩ (hG.1 w (hr.glob w hr.size hr.frame))
      refine hc.mono fun en w' ⟨he, hS⟩ => ⟨θ, _, he, Ci.valV_ok (v := .string r) nofun, (hr.grow hS.os hS.tape hS.output hS.size fun k hk => hS.frame k hk nofun).post' rfl⟩
    · cases h
  · cases h
end
set_option maxRecDepth 100000 in
theorem Bldr.lays156 : Go.Proofs.Lays.n156 Tryz.prog Bldr.ren where
  mixed := by kernel_rfl
  f156 := by kernel_rfl
  f165 := by kernel_rfl
  f166 := by kernel_rfl
  f169 := by kernel_rfl
  f240 := by kernel_rfl
  f241 := by kernel_rfl
  f276 := by kernel_rfl
  f277 := by kernel_rfl
  t0 := by kernel_rfl
  a0 := (fun _ => by kernel_rfl)
  z0 := (fun _ => by kernel_rfl)
  v0 := (fun _ => by kernel_rfl)
  t3 := by kernel_rfl
  a3 := (fun _ => by kernel_rfl)
  z3 := (fun _ => by kernel_rfl)
  v3 := (fun _ => by kernel_rfl)
  t4 := by kernel_rfl
  a4 := (fun _ => by kernel_rfl)
  z4 := (fun _ => by kernel_rfl)
  v4 := (fun _ => by kernel_rfl)
  t9 := by kernel_rfl
  a9 := (fun _ => by kernel_rfl)
  z9 := (fun _ => by kernel_rfl)
  v9 := (fun _ => by kernel_rfl)
  t20 := by kernel_rfl
  a20 := (fun _ => by kernel_rfl)
  z20 := (fun _ => by kernel_rfl)
  v20 := (fun _ => by kernel_rfl)
  t31 := by kernel_rfl
  a31 := (fun _ => by kernel_rfl)
  z31 := (fun _ => by kernel_rfl)
  v31 := (fun _ => by kernel_rfl)
  t37 := by kernel_rfl
  a37 := (fun _ => by kernel_rfl)
  z37 := (fun _ => by kernel_rfl)
  v37 := (fun _ => by kernel_rfl)
  t70 := by kernel_rfl
  a70 := (fun _ => by kernel_rfl)
  z70 := (fun _ => by kernel_rfl)
  v70 := (fun _ => by kernel_rfl)
  t72 := by kernel_rfl
  a72 := (fun _ => by kernel_rfl)
  z72 := (fun _ => by kernel_rfl)
  v72 := (fun _ => by kernel_rfl)
  t75 := by kernel_rfl
  a75 := (fun _ => by kernel_rfl)
  z75 := (fun _ => by kernel_rfl)
  v75 := (fun _ => by kernel_rfl)
  t76 := by kernel_rfl
  a76 := (fun _ => by kernel_rfl)
  z76 := (fun _ => by kernel_rfl)
  v76 := (fun _ => by kernel_rfl)
  t127 := by kernel_rfl
  a127 := (fun _ => by kernel_rfl)
  z127 := (fun _ => by kernel_rfl)
  v127 := (fun _ => by kernel_rfl)
  t164 := by kernel_rfl
  a164 := (fun _ => by kernel_rfl)
  z164 := (fun _ => by kernel_rfl)
  v164 := (fun _ => by kernel_rfl)
def noGlob : World → Prop := fun w => Sat w ⟨[], fun _ => True⟩ [] [] Glob w
section
variable [Ci.Sym]
/-- The specials of a run: strings.Join, arp.laid where the table has nothing, the table. -/
noncomputable def laidTab (tab : List Ci.Ent) (vs : List Ci.V) (s : Ci.St) : Ci.R := Ci.R.rec (fun _ => laidSp vs s) .ok (Ci.lookEnt tab 36 vs s)
noncomputable def runSp (tab : List Ci.Ent) : Nat → Option (List Ci.V → Ci.St → Ci.R) := Ci.oneSp 375 Ci.spJoin (Ci.oneSp 36 (laidTab tab) (Ci.tabSp tab))
theorem runSp_ok {tab : List Ci.Ent} (hG : Ci.GOk Glob) (h : ∀ e ∈ tab, Ci.EntOk Tryz.prog Glob e) : Ci.SpOk Tryz.prog (runSp tab) := by
  have ht := Ci.tabSp_ok hG h
  refine Ci.oneSp_ok (fun w0 T vs s v s' θ w args => Ci.spJoin_ok Bldr.lays156 Bldr.extra (by kernel_rfl) w0 T vs s v s' θ w args) (Ci.oneSp_ok (fun w0 T vs s v s' θ w args h1 hv hr => ?_) ht)
  unfold laidTab at h1
  cases hl : Ci.lookEnt tab 36 vs s with
  | no ww => rw [hl] at h1; exact laidSp_ok hG (by kernel_rfl) w0 T vs s v s' θ w args h1 hv hr
  | ok u s1 =>
    rw [hl] at h1
    exact ht 36 _ rfl w0 T vs s v s' θ w args (hl.trans h1) hv hr
/-- A run with symbols. -/
noncomputable def symRun (tab : List Ci.Ent) (f : Nat) (vs : List Ci.V) : Bool := Ci.isTrue (Ci.runF (runSp tab) (Ci.getF Tryz.prog) (Ci.yOf Tryz.prog) 60 f vs ⟨.e, .lf⟩)
theorem symRun_ok {tab : List Ci.Ent} {f : Nat} {vs : List Ci.V} (hG : Ci.GOk Glob) (hf : Ci.hasF Tryz.prog f = true) (h : ∀ e ∈ tab, Ci.EntOk Tryz.prog Glob e) (hv : Ci.flats vs = true) (hr : symRun tab f vs = true) : Pure Tryz.prog Glob f (Ci.toVals vs).toArray (.bool true) :=
  Ci.symbols_ok hG (runSp_ok hG h) hf (Ci.flats_rv hv) hr
end
end Go.Proofs.YtlihmahekidkaaaGreatDoor

/- VtepCarries: the symbols, and what calls with them answer. -/
namespace Go.Proofs.YtlihmahekidkaaaGreatDoor
open Go Eng
open Ci (V Ent)
set_option linter.unusedVariables false
set_option linter.unusedSimpArgs false

def n64 (n : Nat) : V := .i .i64 (.ofNat n)
def m64 (n : Nat) : V := .i .u64 (.ofNat n)
def m32 (n : Nat) : V := .i .u32 (.ofNat n)
def frV (d s : Nat) (t b : V) : V := .agg [m64 d, m64 s, .b false, n64 0, .b false, n64 0, t, b]
def okV1 (v : V) : V := .tup [v, n64 0]
def udV (p b : Nat) : V := .agg [.ui .i64 p, n64 4789, .b true, .us b]
def ipV (id s d b : Nat) : V := .agg [n64 0, n64 id, .b true, .b false, n64 0, n64 64, n64 17, m32 s, m32 d, .us b]
def arV (op : Nat) (m s t i : V) : V := .agg [n64 op, m, s, t, i]
/-- A frame built and parsed. -/
def bpT (f : V) (n : Nat) : List Ent := [⟨17, [f], okV1 (.us n)⟩, ⟨23, [.us n], okV1 f⟩]
/-- The bytes n, in a datagram from a port. -/
def vxT (n p v : Nat) : List Ent := [⟨296, [.us n], .ui .i64 p⟩, ⟨295, [n64 1000, .us n], okV1 (.us v)⟩, ⟨298, [.us v], .tup [n64 1000, .us n, n64 0]⟩]
def udT (s d p v u : Nat) : List Ent := [⟨332, [m32 s, m32 d, udV p v], okV1 (.us u)⟩, ⟨249, [m32 s, m32 d, .us u], okV1 (udV p v)⟩]
def ipT (id s d u q : Nat) : List Ent := [⟨333, [ipV id s d u], okV1 (.us q)⟩, ⟨247, [.us q], okV1 (ipV id s d u)⟩]

structure CarD where
  T : Int
  b0 : ByteArray
  p : Nat
  s : ByteArray
  v : ByteArray
  u : ByteArray
  q7 : ByteArray
  q8 : ByteArray
  e7 : ByteArray
  c : Int
  smac : Int
  sip : Int
  tmac : Int
  tip : Int
  k1 : Int
  k2 : Int
def CarD.m (d : CarD) : Int := if (100 : Int) < d.b0.size then 100 else d.b0.size
def CarD.b (d : CarD) : ByteArray := d.b0.extract 0 d.m.toNat
def CarD.I (d : CarD) (j : Nat) : Int := match j with
  | 0 => d.T | 1 => d.b0.size | 2 => d.m | 3 => d.sip | 4 => d.tmac | 5 => d.tip | 6 => d.k1 | 7 => d.k2 | 8 => d.p | 9 => d.q7.size | 10 => d.q8.size | 11 => d.c | 12 => d.smac | _ => 0
def CarD.S (d : CarD) (j : Nat) : ByteArray := match j with
  | 0 => d.b0 | 1 => d.b | 2 => d.s | 4 => d.v | 5 => d.u | 6 => d.q7 | 7 => d.q8 | 8 => d.e7 | _ => ⟨#[]⟩
abbrev noSym : Ci.Sym where
  g := fun _ => True
  I := fun _ => 0
  S := fun _ => ⟨#[]⟩
  eqs := []
  eqs_ok := nofun
  bins := []
  bins_ok := fun _ _ _ _ h => nomatch h
  lens := []
  lens_ok := nofun
  mins := []
  mins_ok := nofun
  cuts := []
  cuts_ok := nofun
theorem gtr_le {a : Int} (h : a ≤ 1500) : Ci.intBin .gtr .i64 .i64 a 1500 = .b false := by
  show V.b (Ci.ltI 1500 a) = _
  rw [@Ci.ltI_eq noSym, decide_eq_false (by omega)]
theorem binN_gtr {op : BinOp} (h : Ci.binN op = 15) : op = .gtr := by cases op <;> first | rfl | cases h
/-- What the symbols stand for. -/
abbrev carSym (d : CarD) (eqs : List (V × V × Bool)) (he : ∀ e ∈ eqs, Ci.EqOk d.I d.S e.1 e.2.1 e.2.2) (hb : d.b0.size < 2 ^ 62) (h7 : d.q7.size ≤ 1500) (h8 : d.q8.size ≤ 1500) : Ci.Sym where
  g := noGlob
  I := d.I
  S := d.S
  eqs := eqs
  eqs_ok := he
  bins := [(15, .ui .i64 9, n64 1500, .b false), (15, .ui .i64 10, n64 1500, .b false)]
  bins_ok := fun op x y r h => by
    rcases List.mem_cons.1 h with h | h
    · simp only [Prod.mk.injEq] at h
      obtain ⟨h0, rfl, rfl, rfl⟩ := h
      rw [binN_gtr h0]
      exact ⟨.i64, d.q7.size, 1500, ⟨rfl, rfl⟩, ⟨rfl, rfl⟩, .inl (gtr_le (by omega))⟩
    · obtain h := List.mem_singleton.1 h
      simp only [Prod.mk.injEq] at h
      obtain ⟨h0, rfl, rfl, rfl⟩ := h
      rw [binN_gtr h0]
      exact ⟨.i64, d.q8.size, 1500, ⟨rfl, rfl⟩, ⟨rfl, rfl⟩, .inl (gtr_le (by omega))⟩
  lens := [(0, .ui .i64 1), (6, .ui .i64 9), (7, .ui .i64 10)]
  lens_ok := fun e h => by
    rcases List.mem_cons.1 h with rfl | h
    · exact ⟨rfl, rfl⟩
    rcases List.mem_cons.1 h with rfl | h
    · exact ⟨rfl, rfl⟩
    obtain rfl := List.mem_singleton.1 h
    exact ⟨rfl, rfl⟩
  mins := [(.ui .i64 1, n64 100, .ui .i64 2)]
  mins_ok := fun e h => by
    obtain rfl := List.mem_singleton.1 h
    exact ⟨.i64, d.b0.size, 100, ⟨rfl, rfl⟩, ⟨rfl, rfl⟩, ⟨rfl, rfl⟩⟩
  cuts := [(0, .ui .i64 2, .us 1)]
  cuts_ok := fun e h => by
    obtain rfl := List.mem_singleton.1 h
    have hm : d.m.toNat ≤ d.b0.size ∧ 0 ≤ d.m := by unfold CarD.m; split <;> omega
    exact ⟨.i64, d.m.toNat, ⟨rfl, (Int.toNat_of_nonneg hm.2).symm⟩, hm.1, hb, rfl⟩

def carF : V := frV 281474976710655 6 (.ui .i64 0) (.us 1)
def arp0V : V := .agg [n64 0, m64 0, m32 0, m64 0, m32 0]
/-- What is alike in all cases. -/
def carT : List Ent := bpT carF 2 ++ (vxT 2 8 4 ++ (udT 1 7 8 4 5 ++ (udT 1 8 8 4 5 ++ (ipT 0 1 7 5 6 ++ (ipT 1 1 8 5 7 ++ (bpT (frV 14 2 (n64 2048) (.us 6)) 8 ++ [⟨18, [], .b true⟩]))))))
/-- The frame's message, for the program (if its sender sent it), and for the document. -/
def msgT (a : V) (h : Bool) (r : V) (t : Bool) : List Ent := [⟨290, [carF], .tup [a, .b h]⟩, ⟨25, [carF], .tup [r, .b t]⟩, ⟨292, [n64 5, .ui .u32 3], .ui .u64 6⟩]
def honT (a : V) : List Ent := msgT a true a true ++ [⟨143, [a], n64 0⟩]
def carArg (x0 x1 : Int) (x2 : Bool) (x3 : Int) (x4 : Bool) (x5 : Int) : List V := [.agg [.c (.int .u64 x0), .c (.int .u64 x1), .c (.bool x2), .c (.int .i64 x3), .c (.bool x4), .c (.int .i64 x5), .ui .i64 0, .us 0]]
end Go.Proofs.YtlihmahekidkaaaGreatDoor
