/- What every law's row needs of the listed variable: no conditions. -/
import Derived.Test.YtlihmahekidkaaaGreatDoorCards
import Derived.Test.YtlihmahekidkaaaGreatDoorTie
import Derived.Test.YtlihmahekidkaaaGreatDoorF1
import Derived.Test.YtlihmahekidkaaaGreatDoorE3

namespace Go.Proofs.YtlihmahekidkaaaGreatDoor
open Go Eng Go.RowKit
theorem Row.own : ownKnob Tryz.prog.godebug = none := by kernel_rfl
theorem Row.laidOut : laidOutB Tryz.prog = true := by kernel_rfl
theorem Row.et : Tryz.prog.globalNamed "errors.errorType" = some 0 := by kernel_rfl
theorem Row.rt : (Tryz.prog.cutTypes.find? (·.1 == "internal/reflectlite.rtype")).map (·.2) = some 436 := by kernel_rfl
theorem Row.oneRow : ((List.range Tryz.prog.types.size).filter fun t => Tryz.prog.rowNamed t [101, 114, 114, 111, 114]) = [176] := by kernel_rfl
def Row.laid {H : Type} : List (String × DataW H) := [("errors.errorType", Rows.laid_errors_errorType)]

theorem Row.handle {W : World} (h : laidMetH Tryz.prog (Row.laid (H := Unit)) W) : W.cell? ⟨0, 0, none⟩ = some (.iface 436 (.agg #[.pointer (some ⟨2, 176, none⟩)])) := by
  have h' : laidMet Tryz.prog [] W ∧ handlesMet Tryz.prog Row.laid W := h
  obtain ⟨name, u, ty, e1, e2, e3, e4, e5⟩ := h'.2 _ (List.mem_singleton.2 rfl)
  have en : name = [101, 114, 114, 111, 114] := (Option.some.inj e1).symm
  subst en
  obtain rfl := Option.some.inj (Row.rt.symm.trans e2)
  have hm : ty ∈ (List.range Tryz.prog.types.size).filter fun t => Tryz.prog.rowNamed t [101, 114, 114, 111, 114] := List.mem_filter.2 ⟨List.mem_range.2 e3, e4⟩
  rw [Row.oneRow] at hm
  obtain rfl := List.mem_singleton.1 hm
  have hh : typeHandle Tryz.prog 176 = .pointer (some ⟨2, 176, none⟩) := by kernel_rfl
  rw [hh] at e5
  simpa using World.var?_cell Row.et e5 0

noncomputable def Row.world (os : Os) : World :=
  let w0 := World.holding Tryz.prog os ⟨#[], #[], []⟩
  { w0 with heap := w0.heap.modify 0 fun
      | .cells _ t frozen => .cells #[.iface 436 (.agg #[.pointer (some ⟨2, 176, none⟩)])] t frozen
      | o => o }
theorem Row.met (os : Os) (args : Array Value) : laidMetH Tryz.prog (Row.laid (H := Unit)) ((Row.world os).forCall (fun _ _ => 0) ⟨#[], args, []⟩).memory :=
  laidMetH_of_parts (laidMet_nil _ _) (by kernel_rfl)
theorem Row.start {W : World} (h : laidMetH Tryz.prog (Row.laid (H := Unit)) W) : Sat W ⟨[], fun _ => True⟩ [] [] Glob W := Sat.start (Loc.cellAt (Row.handle h))
end Go.Proofs.YtlihmahekidkaaaGreatDoor
