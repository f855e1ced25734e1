/- A TREE OF WAYS, CARRIED OUT BY THE KERNEL: it returns true, if what is said holds. -/
import Derived.Test.YtfobgbnjicmnaaaGreatDoorKb9f5G
set_option linter.all false
set_option maxRecDepth 100000
set_option maxHeartbeats 4000000
namespace Go.Proofs.YtfobgbnjicmnaaaGreatDoor.kernelRefers
open Go.AM
theorem way1 (X Y Z : BitVec 16) : runF Tryz.prog (base0 Tryz.prog) (lib (st)) 60 7 [.int .u16 (I X), .int .u16 (I Y), .int .u16 (I Z), .bool true] (runD (.take false (.take false (.take true (.take true (.take true (.take true (.take true (.take true (.both (.take false (.both (.take false (.take true .done)) (.take true .done))) (.both (.take false (.take true (.take true (.take true (.both (.take true (.take false .done)) (.take true .done)))))) (.take true (.take false (.both (.take true (.take false .done)) (.take true .done))))))))))))))) (isV (.bool true)) =
    ((tree1 X Y Z).P) := by kernel_rfl
end Go.Proofs.YtfobgbnjicmnaaaGreatDoor.kernelRefers
