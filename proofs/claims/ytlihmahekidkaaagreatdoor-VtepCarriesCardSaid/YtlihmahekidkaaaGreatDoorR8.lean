/- A run with symbols, by the kernel: no conditions but those on the symbols. -/
import Derived.Test.YtlihmahekidkaaaGreatDoorQ

/- VtepCarries: a run. -/
namespace Go.Proofs.YtlihmahekidkaaaGreatDoor
open Go Eng
open Ci (V Ent)
set_option maxRecDepth 1000000 in
theorem carRun_D0 (d : CarD) (he hb h7 h8) (x0 x1 : Int) (x2 : Bool) (x3 : Int) (x4 : Bool) (x5 : Int) : @symRun (carSym d [] he hb h7 h8) (carT ++ honT (arV 1 (m64 6) (m32 0) (.ui .u64 4) (m32 0))) 4 (carArg x0 x1 x2 x3 x4 x5) = true := by kernel_rfl
end Go.Proofs.YtlihmahekidkaaaGreatDoor
