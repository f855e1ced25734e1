/- WHICH FUNCTIONS A CLOSED FACT USES. -/
import Derived.Test.YtfobgbnjicmnaaaGreatDoorKa406A2
import Derived.Test.YtfobgbnjicmnaaaGreatDoorProg
import Derived.KernelRfl
set_option linter.all false
set_option maxRecDepth 100000
set_option maxHeartbeats 4000000
namespace Go.Proofs.YtfobgbnjicmnaaaGreatDoor.kernelPorts
open Go.AM
def mask : Nat := 2584772529969467050184798858861514225411816925915754571040229141945753798944330804315115859622553007958418105574025930752
def ids : uL := { add := 89, load := 115, count := 389, index := 406, shut := none }
noncomputable def aOy : Lib := aM7 Tryz.prog (vP Tryz.prog) ids mask aPx
end Go.Proofs.YtfobgbnjicmnaaaGreatDoor.kernelPorts
