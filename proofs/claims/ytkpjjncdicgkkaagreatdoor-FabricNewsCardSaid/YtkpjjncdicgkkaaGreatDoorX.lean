/- The two functions of the closed run that the machine does not walk itself: no conditions. -/
import Derived.Test.YtkpjjncdicgkkaaGreatDoorC2
import Derived.Test.YtkpjjncdicgkkaaGreatDoorF3

/- The functions of fixed that the kernel machine does not walk: strings.Join and arp.laid. -/
namespace Go.Proofs.YtkpjjncdicgkkaaGreatDoor
open Go Eng
set_option linter.unusedVariables false
set_option linter.unusedSimpArgs false

noncomputable def uY (vs : List Ci.V) (s : Ci.St) : Ci.R := match vs with
  | [.agg [.i .i64 a, .i .u64 b, .i .u32 c, .i .u64 d, .i .u32 e]] => match qL.f 64 ⟨a, b, c, d, e⟩ with
    | some r => .ok (Ci.dQ (.string r)) s
    | none => .no [77]
  | _ => .no [78]
theorem xe (hf : Ci.xg Tryz.prog 248 = true) (w0 : World) (T : Nat → Prop) (vs : List Ci.V) (s : Ci.St) (v : Ci.V) (s' : Ci.St) (θ : Ci.Th) (w : World) (args : List Value) (h : uY vs s = .ok v s') (hv : Ci.fy θ vs args) (hr : Ci.Rel w0 T θ s w) : Ci.Ends Tryz.prog w0 T θ s v s' ((callFunc 248 args.toArray).run Tryz.prog w) := by
  unfold uY at h
  split at h
  · rename_i a b c d e
    split at h
    · rename_i r hl
      cases h
      obtain ⟨x, zs, rfl, ⟨ys, rfl, ⟨y1, z1, rfl, h1, y2, z2, rfl, h2, y3, z3, rfl, h3, y4, z4, rfl, h4, y5, z5, rfl, h5, h6⟩, _⟩, hz⟩ := hv
      cases hz
      cases h1
      cases h2
      cases h3
      cases h4
      cases h5
      cases h6
      refine .inr (.inr ⟨_, _, w, Ci.iJ hf _ _, ?_⟩)
      have hc := qK 64 ⟨a, b, c, d, e⟩ r hl w ⟨[], fun _ => True⟩ (Sat.nil w _)
      refine hc.mono fun en w' ⟨he, hS⟩ => ⟨θ, _, he, Ci.gj (v := .string r) nofun, (hr.grow hS.os hS.tape hS.output hS.size fun k hk => hS.frame k hk nofun).rp rfl⟩
    · cases h
  · cases h
set_option maxRecDepth 100000 in
theorem nG.z7 : Go.Proofs.Lays.n156 Tryz.prog nG.EB where
  mixed := by kernel_rfl
  f156 := by kernel_rfl
  f165 := by kernel_rfl
  f166 := by kernel_rfl
  f169 := by kernel_rfl
  f240 := by kernel_rfl
  f241 := by kernel_rfl
  f276 := by kernel_rfl
  f277 := by kernel_rfl
  t0 := by kernel_rfl
  a0 := (fun _ => by kernel_rfl)
  z0 := (fun _ => by kernel_rfl)
  v0 := (fun _ => by kernel_rfl)
  t3 := by kernel_rfl
  a3 := (fun _ => by kernel_rfl)
  z3 := (fun _ => by kernel_rfl)
  v3 := (fun _ => by kernel_rfl)
  t4 := by kernel_rfl
  a4 := (fun _ => by kernel_rfl)
  z4 := (fun _ => by kernel_rfl)
  v4 := (fun _ => by kernel_rfl)
  t9 := by kernel_rfl
  a9 := (fun _ => by kernel_rfl)
  z9 := (fun _ => by kernel_rfl)
  v9 := (fun _ => by kernel_rfl)
  t20 := by kernel_rfl
  a20 := (fun _ => by kernel_rfl)
  z20 := (fun _ => by kernel_rfl)
  v20 := (fun _ => by kernel_rfl)
  t31 := by kernel_rfl
  a31 := (fun _ => by kernel_rfl)
  z31 := (fun _ => by kernel_rfl)
  v31 := (fun _ => by kernel_rfl)
  t37 := by kernel_rfl
  a37 := (fun _ => by kernel_rfl)
  z37 := (fun _ => by kernel_rfl)
  v37 := (fun _ => by kernel_rfl)
  t70 := by kernel_rfl
  a70 := (fun _ => by kernel_rfl)
  z70 := (fun _ => by kernel_rfl)
  v70 := (fun _ => by kernel_rfl)
  t72 := by kernel_rfl
  a72 := (fun _ => by kernel_rfl)
  z72 := (fun _ => by kernel_rfl)
  v72 := (fun _ => by kernel_rfl)
  t75 := by kernel_rfl
  a75 := (fun _ => by kernel_rfl)
  z75 := (fun _ => by kernel_rfl)
  v75 := (fun _ => by kernel_rfl)
  t76 := by kernel_rfl
  a76 := (fun _ => by kernel_rfl)
  z76 := (fun _ => by kernel_rfl)
  v76 := (fun _ => by kernel_rfl)
  t127 := by kernel_rfl
  a127 := (fun _ => by kernel_rfl)
  z127 := (fun _ => by kernel_rfl)
  v127 := (fun _ => by kernel_rfl)
  t164 := by kernel_rfl
  a164 := (fun _ => by kernel_rfl)
  z164 := (fun _ => by kernel_rfl)
  v164 := (fun _ => by kernel_rfl)
noncomputable def EM (f : Nat) : Option (List Ci.V → Ci.St → Ci.R) := bif Nat.beq f 361 then some Ci.uK else bif Nat.beq f 248 then some uY else none
theorem BJ : Ci.CN Tryz.prog EM := by
  intro f g h
  unfold EM at h
  cases h1 : Nat.beq f 361 with
  | true =>
    rw [h1] at h
    obtain rfl := Option.some.inj h
    obtain rfl := Nat.eq_of_beq_eq_true h1
    exact fun w0 T vs s v s' θ w args => Ci.wF nG.z7 nG.extra (by kernel_rfl) w0 T vs s v s' θ w args
  | false =>
    rw [h1] at h
    cases h2 : Nat.beq f 248 with
    | true =>
      rw [h2] at h
      obtain rfl := Option.some.inj h
      obtain rfl := Nat.eq_of_beq_eq_true h2
      exact xe (by kernel_rfl)
    | false => rw [h2] at h; cases h
end Go.Proofs.YtkpjjncdicgkkaaGreatDoor
