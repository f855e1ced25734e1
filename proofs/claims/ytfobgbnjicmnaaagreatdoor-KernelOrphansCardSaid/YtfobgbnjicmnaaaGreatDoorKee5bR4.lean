/- ONE WAY, CARRIED OUT BY THE KERNEL: it returns true, if what is said holds. -/
import Derived.Test.YtfobgbnjicmnaaaGreatDoorKee5bG
set_option linter.all false
set_option maxRecDepth 100000
set_option maxHeartbeats 4000000
namespace Go.Proofs.YtfobgbnjicmnaaaGreatDoor.kernelOrphans
open Go.AM
theorem way4 (m : Int) (s : ByteArray) : runF Tryz.prog (base0 Tryz.prog) (lib (st 1 s 754)) 60 9 [.int .u8 m, .string s, .bool false] run0 (isV (.bool true)) =
    (fGtr (cN s) (.int .i64 100) = some (.bool false) ∧
    binInt .rem (.int .u8 m) (.int .u8 5) = some (.int .u8 1) ∧
    bytesO (.string s) = some (.cells (cD s) (some 1), mkSlc s.size s.size) ∧
    fGtr (cN s) (.int .i64 1024) = some (.bool false) ∧
    fAdd (.int .i64 0) (cN s) = some (cN s) ∧
    fold2 max2 [.int .i64 0, cN s] = some (cN s) ∧
    makeS 1 1 #[.int .u8 0] (cN s) (cN s) = some (.cells (cZ s) none, mkSlc s.size s.size) ∧
    (Nat.min 0 s.size = 0 ∧ 0 ≤ (cZ s).length ∧ cZ s = cZ s) ∧
    cutV 1 754 0 s.size s.size (some (.int .i64 0)) none none = some (.slice (some ⟨754, 0, none⟩) s.size s.size) ∧
    copyL 1 (cZ s) 0 s.size (cD s) 0 s.size = some (cD s) ∧
    fAdd (.int .i64 0) (cN s) = some (cN s) ∧
    strL (cD s) 0 s.size = some s ∧
    binStr .neq (.string s) (.string s) = some (.bool false) ∧
    True) := by kernel_rfl
end Go.Proofs.YtfobgbnjicmnaaaGreatDoor.kernelOrphans
