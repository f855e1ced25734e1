/- THE CLOSED FACT, CARRIED OUT BY THE KERNEL. -/
import Derived.Test.YtfobgbnjicmnaaaGreatDoorE7cc8G
set_option linter.all false
set_option maxRecDepth 100000
set_option maxHeartbeats 4000000
namespace Go.Proofs.YtfobgbnjicmnaaaGreatDoor.explainTexts
open Go.AM
theorem awake : runF Tryz.prog (base0 Tryz.prog) lib0 60 35 [] run0 (isV (.bool true)) = True := by kernel_rfl
end Go.Proofs.YtfobgbnjicmnaaaGreatDoor.explainTexts
