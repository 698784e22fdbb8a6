/- What every law's row needs of the listed variable: no conditions. -/
import Derived.Test.YtefbjefmclhhjaaDoorCards
import Derived.Test.YtefbjefmclhhjaaDoorTie
import Derived.Test.YtefbjefmclhhjaaDoorF1
import Derived.Test.YtefbjefmclhhjaaDoorE1

namespace Go.Proofs.YtefbjefmclhhjaaDoor
open Go Eng Go.RowKit
theorem Row.own : ownKnob Tryd.prog.godebug = none := by kernel_rfl
theorem Row.laidOut : laidOutB Tryd.prog = true := by kernel_rfl
theorem Row.et : Tryd.prog.globalNamed "errors.errorType" = some 0 := by kernel_rfl
theorem Row.rt : (Tryd.prog.cutTypes.find? (·.1 == "internal/reflectlite.rtype")).map (·.2) = some 93 := by kernel_rfl
theorem Row.oneRow : ((List.range Tryd.prog.types.size).filter fun t => Tryd.prog.rowNamed t [101, 114, 114, 111, 114]) = [52] := by kernel_rfl
def Row.laid {H : Type} : List (String × DataW H) := [("errors.errorType", Rows.laid_errors_errorType)]

theorem Row.handle {W : World} (h : laidMetH Tryd.prog (Row.laid (H := Unit)) W) : W.cell? ⟨0, 0, none⟩ = some (.iface 93 (.agg #[.pointer (some ⟨1, 52, none⟩)])) := by
  have h' : laidMet Tryd.prog [] W ∧ handlesMet Tryd.prog Row.laid W := h
  obtain ⟨name, u, ty, e1, e2, e3, e4, e5⟩ := h'.2 _ (List.mem_singleton.2 rfl)
  have en : name = [101, 114, 114, 111, 114] := (Option.some.inj e1).symm
  subst en
  obtain rfl := Option.some.inj (Row.rt.symm.trans e2)
  have hm : ty ∈ (List.range Tryd.prog.types.size).filter fun t => Tryd.prog.rowNamed t [101, 114, 114, 111, 114] := List.mem_filter.2 ⟨List.mem_range.2 e3, e4⟩
  rw [Row.oneRow] at hm
  obtain rfl := List.mem_singleton.1 hm
  have hh : typeHandle Tryd.prog 52 = .pointer (some ⟨1, 52, none⟩) := by kernel_rfl
  rw [hh] at e5
  simpa using World.var?_cell Row.et e5 0

noncomputable def Row.world (os : Os) : World :=
  let w0 := World.holding Tryd.prog os ⟨#[], #[], []⟩
  { w0 with heap := w0.heap.modify 0 fun
      | .cells _ t frozen => .cells #[.iface 93 (.agg #[.pointer (some ⟨1, 52, none⟩)])] t frozen
      | o => o }
theorem Row.met (os : Os) (args : Array Value) : laidMetH Tryd.prog (Row.laid (H := Unit)) ((Row.world os).forCall (fun _ _ => 0) ⟨#[], args, []⟩).memory :=
  laidMetH_of_parts (laidMet_nil _ _) (by kernel_rfl)
theorem Row.start {W : World} (h : laidMetH Tryd.prog (Row.laid (H := Unit)) W) : Sat W ⟨[], fun _ => True⟩ [] [] Glob W := Sat.start (Loc.cellAt (Row.handle h))
end Go.Proofs.YtefbjefmclhhjaaDoor
