/- A run with symbols, by the kernel: no conditions but those on the symbols. -/
import Derived.Test.YtlihmahekidkaaaGreatDoorF1
import Derived.Test.YtlihmahekidkaaaGreatDoorQ

/- What the document fixes of a gateway is so: the closed run. -/
namespace Go.Proofs.YtlihmahekidkaaaGreatDoor
open Go Eng
open Ci (V Ent)
set_option linter.unusedVariables false

theorem gOk (i : Ci.Sym) (h : i.g = noGlob) : @Ci.GOk i Glob := ⟨fun w hw => by rw [h] at hw; exact hw, fun w Z w' h1 h2 h3 => by rw [h]; exact glob_up w Z w' h1 h2 h3⟩
abbrev fixSym : Ci.Sym := { noSym with g := noGlob }
def fixT : List Ent := [⟨23, [.s 1 120], .tup [.agg [m64 0, m64 0, .b false, n64 0, .b false, n64 0, n64 0, .s 0 0], n64 40]⟩]
set_option maxRecDepth 1000000 in
theorem fix24_run : @symRun fixSym fixT 18 [] = true := by kernel_rfl
theorem fix24_ents : ∀ e ∈ fixT, @Ci.EntOk fixSym Tryz.prog Glob e := fun e he => by
  obtain rfl := List.mem_singleton.1 he
  letI : Ci.Sym := fixSym
  have h : ether_Parse.f 2000 (Ci.strOf 1 120) = some (⟨0, 0, ⟨false, 0, false, 0⟩, 0, Ci.strOf 0 0⟩, 40) := by kernel_rfl
  exact ⟨by kernel_rfl, by simp [Ci.flats, Ci.flat], by simp [Ci.flats, Ci.flat, m64, n64, Ci.isCell], by
    have := ether_Parse_calls 2000 _ _ h
    simpa [Ci.toVals, Ci.toVal, m64, n64, api_Frame.v] using this⟩
theorem fix24 : Pure Tryz.prog Glob 18 #[] (.bool true) := by
  have := @symRun_ok fixSym fixT 18 [] (gOk _ rfl) (by kernel_rfl) fix24_ents rfl fix24_run
  simpa [Ci.toVals] using this
end Go.Proofs.YtlihmahekidkaaaGreatDoor
