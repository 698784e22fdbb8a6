/- A run with symbols, by the kernel: no conditions but those on the symbols. -/
import Derived.Test.YtlihmahekidkaaaGreatDoorP1

/- TopTalks: the run. -/
namespace Go.Proofs.YtlihmahekidkaaaGreatDoor
open Go Eng
open Ci (V Ent)
def topT : List Ent := topT1 ++ (topT2 ++ (topT3 ++ topT4))
set_option maxRecDepth 1000000 in
theorem top_run (d : TopD) (h : TopOk d) (x0 x1 : Int) (x2 : Bool) (x3 : Int) (x4 : Bool) (x5 x6 y0 y1 : Int) (y2 : Bool) (y3 : Int) (y4 : Bool) (y5 y6 : Int) : @topRun (topSym d h) topT 3 [topArg x0 x1 x2 x3 x4 x5 x6 0, topArg y0 y1 y2 y3 y4 y5 y6 10, .ui .u32 0] = true := by kernel_rfl
end Go.Proofs.YtlihmahekidkaaaGreatDoor
