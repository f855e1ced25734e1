/- THE FIXED FACT, CARRIED OUT BY THE KERNEL. -/
import Derived.Test.YtfobgbnjicmnaaaGreatDoorKb9f5G
set_option linter.all false
set_option maxRecDepth 100000
set_option maxHeartbeats 4000000
namespace Go.Proofs.YtfobgbnjicmnaaaGreatDoor.kernelRefers
open Go.AM
theorem awake : runF Tryz.prog (base0 Tryz.prog) lib0 60 11 [] run0 (isV (.bool true)) = True := by kernel_rfl
end Go.Proofs.YtfobgbnjicmnaaaGreatDoor.kernelRefers
