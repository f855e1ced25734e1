/- ONE WAY, CARRIED OUT BY THE KERNEL: it returns true, if what is said holds. -/
import Derived.Test.YtfobgbnjicmnaaaGreatDoorK2206G
set_option linter.all false
set_option maxRecDepth 100000
set_option maxHeartbeats 4000000
namespace Go.Proofs.YtfobgbnjicmnaaaGreatDoor.kernelFiles
open Go.AM
theorem way1 (b c : ByteArray) (x y : BitVec 16) : runF Tryz.prog (base0 Tryz.prog) (lib (stL [(3, [(3, 2, .val (.bool false)), (3, 6, .val (.bool true))])])) 60 3 [.string b, .string c, .int .u16 (x.toNat : Int), .int .u16 (y.toNat : Int)] run0 (isV (.bool true)) =
    (fGtr (vI b.size) (.int .i64 100) = some (.bool false) ∧
    fGtr (vI c.size) (.int .i64 100) = some (.bool true) ∧
    True) := by kernel_rfl
end Go.Proofs.YtfobgbnjicmnaaaGreatDoor.kernelFiles
