/- What the document fixes is so: a closed run, by the kernel: no conditions. -/
import Derived.Test.YtkpjjncdicgkkaaGreatDoorX

/- What the document fixes is so: the closed run, by the kernel. -/
namespace Go.Proofs.YtkpjjncdicgkkaaGreatDoor
open Go Eng
set_option maxRecDepth 1000000 in
theorem u2 : Ci.isTrue (Ci.C9 EM Tryz.prog 60 7) = true := by kernel_rfl
theorem u4 : Pure Tryz.prog aI 7 #[] (.bool true) := Ci.xn BJ (by kernel_rfl) u2
end Go.Proofs.YtkpjjncdicgkkaaGreatDoor
