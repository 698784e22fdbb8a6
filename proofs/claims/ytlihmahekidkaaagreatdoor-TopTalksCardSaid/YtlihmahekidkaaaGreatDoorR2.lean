/- A run with symbols, by the kernel: no conditions but those on the symbols. -/
import Derived.Test.YtlihmahekidkaaaGreatDoorF1
import Derived.Test.YtlihmahekidkaaaGreatDoorQ

/- The closed run of working. -/
namespace Go.Proofs.YtlihmahekidkaaaGreatDoor
open Go Eng
open Ci (V Ent)
set_option linter.unusedVariables false

theorem gOk (i : Ci.Sym) (h : i.g = noGlob) : @Ci.GOk i Glob := ⟨fun w hw => by rw [h] at hw; exact hw, fun w Z w' h1 h2 h3 => by rw [h]; exact glob_up w Z w' h1 h2 h3⟩
abbrev fixSym : Ci.Sym := { noSym with g := noGlob }
set_option maxRecDepth 1000000 in
theorem fix13_run : @symRun fixSym [] 13 [] = true := by kernel_rfl
theorem fix13 : Pure Tryz.prog Glob 13 #[] (.bool true) := by
  have := @symRun_ok fixSym [] 13 [] (gOk _ rfl) (by kernel_rfl) nofun rfl fix13_run
  simpa [Ci.toVals] using this
end Go.Proofs.YtlihmahekidkaaaGreatDoor
