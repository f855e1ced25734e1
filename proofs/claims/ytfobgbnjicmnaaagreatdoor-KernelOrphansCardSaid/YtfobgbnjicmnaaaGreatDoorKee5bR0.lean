/- ONE WAY, CARRIED OUT BY THE KERNEL: it returns true, if what is said holds. -/
import Derived.Test.YtfobgbnjicmnaaaGreatDoorKee5bG
set_option linter.all false
set_option maxRecDepth 100000
set_option maxHeartbeats 4000000
namespace Go.Proofs.YtfobgbnjicmnaaaGreatDoor.kernelOrphans
open Go.AM
theorem way0 (m : Int) (s : ByteArray) (e : Bool) : runF Tryz.prog (base0 Tryz.prog) (lib (stLong)) 60 9 [.int .u8 m, .string s, .bool e] run0 (isV (.bool true)) =
    (fGtr (cN s) (.int .i64 100) = some (.bool true) ∧
    True) := by kernel_rfl
end Go.Proofs.YtfobgbnjicmnaaaGreatDoor.kernelOrphans
