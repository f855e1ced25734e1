/- ONE WAY, CARRIED OUT BY THE KERNEL: it returns true, if what is said holds. -/
import Derived.Test.YtfobgbnjicmnaaaGreatDoorK1e24G
set_option linter.all false
set_option maxRecDepth 100000
set_option maxHeartbeats 4000000
namespace Go.Proofs.YtfobgbnjicmnaaaGreatDoor.kernelOpened
open Go.AM
theorem way0 (x : BitVec 16) (y : BitVec 8) (s : ByteArray) : runF Tryz.prog (base0 Tryz.prog) (lib (stLong)) 60 4 [.int .u16 (x.toNat : Int), .int .u8 (y.toNat : Int), .string s] run0 (isV (.bool true)) =
    (fGtr (cN s) (.int .i64 100) = some (.bool true) ∧
    True) := by kernel_rfl
end Go.Proofs.YtfobgbnjicmnaaaGreatDoor.kernelOpened
