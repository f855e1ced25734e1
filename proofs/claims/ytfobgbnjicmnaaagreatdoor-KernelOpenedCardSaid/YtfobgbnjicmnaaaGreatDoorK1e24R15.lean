/- ONE WAY, CARRIED OUT BY THE KERNEL: it returns true, if what is said holds. -/
import Derived.Test.YtfobgbnjicmnaaaGreatDoorK1e24G
set_option linter.all false
set_option maxRecDepth 100000
set_option maxHeartbeats 4000000
namespace Go.Proofs.YtfobgbnjicmnaaaGreatDoor.kernelOpened
open Go.AM
theorem way15 (x : BitVec 16) (y : BitVec 8) : runF Tryz.prog (base0 Tryz.prog) (lib (stL (stH x 2 6 0))) 60 4 [.int .u16 (x.toNat : Int), .int .u8 (y.toNat : Int), .string ⟨#[]⟩] run0 (isV (.bool true)) =
    (binInt .and (.int .u16 (x.toNat : Int)) (.int .u16 2047) = some (cH x) ∧
    binInt .andNot (cH x) (.int .u16 51199) = some (.int .u16 0) ∧
    binInt .rem (.int .u8 (y.toNat : Int)) (.int .u8 3) = some (.int .u8 2) ∧
    cP x = cP x ∧
    binInt .and (.int .u16 6) (cH x) = some (.int .u16 6) ∧
    binInt .and (.int .u16 6) (cH x) = some (.int .u16 6) ∧
    True) := by kernel_rfl
end Go.Proofs.YtfobgbnjicmnaaaGreatDoor.kernelOpened
