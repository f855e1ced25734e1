/- THE CLOSED FACT, CARRIED OUT BY THE KERNEL. -/
import Derived.Test.YtfobgbnjicmnaaaGreatDoorKa406G
set_option linter.all false
set_option maxRecDepth 100000
set_option maxHeartbeats 4000000
namespace Go.Proofs.YtfobgbnjicmnaaaGreatDoor.kernelPorts
open Go.AM
theorem aOn : aKF Tryz.prog (vP Tryz.prog) aOy 60 11 [] aPD (isV (.bool true)) = True := by kernel_rfl
end Go.Proofs.YtfobgbnjicmnaaaGreatDoor.kernelPorts
