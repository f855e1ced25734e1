/- SOME OF THEM ARE FIT TO BE CARRIED OUT. -/
import Derived.Test.YtfobgbnjicmnaaaGreatDoorKa406G
set_option linter.all false
set_option maxRecDepth 100000
set_option maxHeartbeats 4000000
namespace Go.Proofs.YtfobgbnjicmnaaaGreatDoor.kernelPorts
open Go.AM
theorem aO6 : aAa Tryz.prog mask 342 114 = true := by kernel_rfl
end Go.Proofs.YtfobgbnjicmnaaaGreatDoor.kernelPorts
