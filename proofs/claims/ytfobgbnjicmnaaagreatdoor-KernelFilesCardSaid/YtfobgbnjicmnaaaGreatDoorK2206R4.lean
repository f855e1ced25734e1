/- ONE WAY, CARRIED OUT BY THE KERNEL: it returns true, if what is said holds. -/
import Derived.Test.YtfobgbnjicmnaaaGreatDoorK2206G
set_option linter.all false
set_option maxRecDepth 100000
set_option maxHeartbeats 4000000
namespace Go.Proofs.YtfobgbnjicmnaaaGreatDoor.kernelFiles
open Go.AM
theorem way4 (x y : BitVec 16) : runF Tryz.prog (base0 Tryz.prog) (lib (stL [(3, [(8, 2, .mode 1), (9, 2, .mode 2), (10, 2, .mode 3), (18, 1, .mode 4), (19, 2, .mode 5), (21, 1, .mode 6), (6, 1, .val (.int .u16 0)), (6, 4, .val (.int .u16 0))])])) 60 3 [.string ⟨#[]⟩, .string ⟨#[]⟩, .int .u16 (x.toNat : Int), .int .u16 (y.toNat : Int)] run0 (isV (.bool true)) =
    (binInt .rem (.int .u16 (x.toNat : Int)) (.int .u16 800) = some (.int .u16 0) ∧
    binInt .rem (.int .u16 (y.toNat : Int)) (.int .u16 900) = some (.int .u16 0) ∧
    True) := by kernel_rfl
end Go.Proofs.YtfobgbnjicmnaaaGreatDoor.kernelFiles
