/- ONE WAY OF THE ARGUMENTS, CARRIED OUT BY THE KERNEL. -/
import Derived.Test.YtfobgbnjicmnaaaGreatDoorKf8faG
set_option linter.all false
set_option maxRecDepth 100000
set_option maxHeartbeats 4000000
namespace Go.Proofs.YtfobgbnjicmnaaaGreatDoor.kernelMounts
open Go.AM
theorem way4 : runF Tryz.prog (base0 Tryz.prog) lib 60 6 [.bool false, .bool true, .bool true] run0 (isV (.bool true)) = True := by kernel_rfl
end Go.Proofs.YtfobgbnjicmnaaaGreatDoor.kernelMounts
