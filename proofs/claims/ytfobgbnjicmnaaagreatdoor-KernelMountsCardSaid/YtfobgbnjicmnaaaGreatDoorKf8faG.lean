/- WHICH FUNCTIONS THE RUNS USE. -/
import Derived.Test.YtfobgbnjicmnaaaGreatDoorKf8faA2
import Derived.Test.YtfobgbnjicmnaaaGreatDoorProg
import Derived.KernelRfl
set_option linter.all false
set_option maxRecDepth 100000
set_option maxHeartbeats 4000000
namespace Go.Proofs.YtfobgbnjicmnaaaGreatDoor.kernelMounts
open Go.AM
def mask : Nat := 2584772529969467050185072265202112163582100816861042275417594930438905837398806301574096145269101063283627885088303560768
def ids : ExtIds := { add := 89, load := 115, count := 389, index := 406 }
noncomputable def lib : Lib := libX Tryz.prog (base0 Tryz.prog) ids mask
end Go.Proofs.YtfobgbnjicmnaaaGreatDoor.kernelMounts
