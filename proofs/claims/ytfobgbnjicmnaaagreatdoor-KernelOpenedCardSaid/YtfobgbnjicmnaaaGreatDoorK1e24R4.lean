/- ONE WAY, CARRIED OUT BY THE KERNEL: it returns true, if what is said holds. -/
import Derived.Test.YtfobgbnjicmnaaaGreatDoorK1e24G
set_option linter.all false
set_option maxRecDepth 100000
set_option maxHeartbeats 4000000
namespace Go.Proofs.YtfobgbnjicmnaaaGreatDoor.kernelOpened
open Go.AM
theorem way4 (x : BitVec 16) (y : BitVec 8) (s : ByteArray) : runF Tryz.prog (base0 Tryz.prog) (lib (stL (stT x 1 0 1024 s 622))) 60 4 [.int .u16 (x.toNat : Int), .int .u8 (y.toNat : Int), .string s] run0 (isV (.bool true)) =
    (fGtr (cN s) (.int .i64 100) = some (.bool false) ∧
    binInt .and (.int .u16 (x.toNat : Int)) (.int .u16 2047) = some (cH x) ∧
    binInt .andNot (cH x) (.int .u16 51199) = some (.int .u16 0) ∧
    binInt .rem (.int .u8 (y.toNat : Int)) (.int .u8 3) = some (.int .u8 1) ∧
    cP x = cP x ∧
    bytesO (.string s) = some (.cells (cD s) (some 1), mkSlc s.size s.size) ∧
    fGtr (cN s) (.int .i64 1024) = some (.bool false) ∧
    fAdd (.int .i64 0) (cN s) = some (cN s) ∧
    fold2 max2 [.int .i64 0, cN s] = some (cN s) ∧
    makeS 1 1 #[.int .u8 0] (cN s) (cN s) = some (.cells (cZ s) none, mkSlc s.size s.size) ∧
    (Nat.min 0 s.size = 0 ∧ 0 ≤ (cZ s).length ∧ cZ s = cZ s) ∧
    cutV 1 622 0 s.size s.size (some (.int .i64 0)) none none = some (.slice (some ⟨622, 0, none⟩) s.size s.size) ∧
    copyL 1 (cZ s) 0 s.size (cD s) 0 s.size = some (cD s) ∧
    fAdd (.int .i64 0) (cN s) = some (cN s) ∧
    binInt .and (.int .u16 2) (cH x) = some (.int .u16 0) ∧
    binInt .and (.int .u16 1024) (cH x) = some (.int .u16 1024) ∧
    binInt .and (.int .u16 2) (cH x) = some (.int .u16 0) ∧
    True) := by kernel_rfl
end Go.Proofs.YtfobgbnjicmnaaaGreatDoor.kernelOpened
