/- WHICH FUNCTIONS A CLOSED FACT USES. -/
import Derived.Test.YtfobgbnjicmnaaaGreatDoorE7cc8A2
import Derived.Test.YtfobgbnjicmnaaaGreatDoorProg
import Derived.KernelRfl
set_option linter.all false
set_option maxRecDepth 100000
set_option maxHeartbeats 4000000
namespace Go.Proofs.YtfobgbnjicmnaaaGreatDoor.explainTexts
open Go.AM
def mask : Nat := 2584772529969467050184798858861514225411816925915754571040229141945753798944330805335962960385387741161655770766578624512
def ids : ExtIds := { add := 89, load := 115, count := 389, index := 406, shut := none }
noncomputable def lib0 : Lib := libX Tryz.prog (base0 Tryz.prog) ids mask noSt
end Go.Proofs.YtfobgbnjicmnaaaGreatDoor.explainTexts
