/- ONE WAY, CARRIED OUT BY THE KERNEL: it returns true, if what is said holds. -/
import Derived.Test.YtfobgbnjicmnaaaGreatDoorK2206G
set_option linter.all false
set_option maxRecDepth 100000
set_option maxHeartbeats 4000000
namespace Go.Proofs.YtfobgbnjicmnaaaGreatDoor.kernelFiles
open Go.AM
theorem way5 (x y : BitVec 16) (m : Nat) : runF Tryz.prog (base0 Tryz.prog) (lib (stL [(3, [(8, 2, .mode 1), (9, 2, .mode 2), (10, 2, .mode 3), (18, 1, .mode 4), (19, 2, .mode 5), (21, 1, .mode 6), (6, 1, .val (.int .u16 0)), (6, 4, .val (.int .u16 (m : Int))), (6, 5, .val (vU m)), (22, 1, .obj (.cells (cB (zB m)) none) (mkSlc m m)), (23, 2, .copy (cB (eG ⟨#[]⟩ ⟨#[]⟩ 0 m))), (24, 50, .str (bA (eG ⟨#[]⟩ ⟨#[]⟩ 0 m))), (24, 52, .str (bA (eG ⟨#[]⟩ ⟨#[]⟩ 0 m))), (24, 53, .val (.bool true))]), (5103, [(8, 1, .val (.bool false)), (10, 13, .val (vI m))]), (5147, [(6, 7, .val (.bool false)), (8, 1, .val (.bool false)), (10, 1, .obj (.cells (cB (zB m)) none) (mkSlc m m)), (11, 5, .copy (cB (eG ⟨#[]⟩ ⟨#[]⟩ 0 m)))]), (6138, [(10, 6, .val (.bool false)), (12, 14, .val (vI m)), (12, 15, .val (vI m)), (12, 16, .val (vI m)), (12, 17, .cut (.slice (some ⟨432, 0, none⟩) m m)), (12, 18, .app (cB (eG ⟨#[]⟩ ⟨#[]⟩ 0 m)))]), (6095, [(7, 6, .val (vI m))])])) 60 3 [.string ⟨#[]⟩, .string ⟨#[]⟩, .int .u16 (x.toNat : Int), .int .u16 (y.toNat : Int)] run0 (isV (.bool true)) =
    (binInt .rem (.int .u16 (x.toNat : Int)) (.int .u16 800) = some (.int .u16 0) ∧
    binInt .rem (.int .u16 (y.toNat : Int)) (.int .u16 900) = some (.int .u16 (m : Int)) ∧
    fConv .u64 (.int .u16 (m : Int)) = some (vU m) ∧
    fGtr (vU m) (.int .u64 1024) = some (.bool false) ∧
    fConv .i64 (vU m) = some (vI m) ∧
    fLss (vI m) (.int .i64 0) = some (.bool false) ∧
    fGtr (vI m) (.int .i64 1024) = some (.bool false) ∧
    makeS 1 1 #[.int .u8 0] (vI m) (vI m) = some (.cells (cB (zB m)) none, mkSlc m m) ∧
    copyL 1 (cB (zB m)) 0 m (cB ([] : List UInt8)) 0 0 = some (cB (eG ⟨#[]⟩ ⟨#[]⟩ 0 m)) ∧
    fGeq (.int .i64 0) (vI m) = some (.bool false) ∧
    fSub (vI m) (.int .i64 0) = some (vI m) ∧
    fold2 min2 [.int .i64 1024, (vI m)] = some (vI m) ∧
    fAdd (.int .i64 0) (vI m) = some (vI m) ∧
    cutV 1 432 0 m m (some (.int .i64 0)) (some (vI m)) none = some (.slice (some ⟨432, 0, none⟩) m m) ∧
    appL 1 1 [] 0 0 0 (cB (eG ⟨#[]⟩ ⟨#[]⟩ 0 m)) 0 m = some (cB (eG ⟨#[]⟩ ⟨#[]⟩ 0 m)) ∧
    fAdd (.int .i64 0) (vI (0 + m)) = some (vI m) ∧
    makeS 1 1 #[.int .u8 0] (vU m) (vU m) = some (.cells (cB (zB m)) none, mkSlc m m) ∧
    copyL 1 (cB (zB m)) 0 m (cB ([] : List UInt8)) 0 0 = some (cB (eG ⟨#[]⟩ ⟨#[]⟩ 0 m)) ∧
    strL (cB (eG ⟨#[]⟩ ⟨#[]⟩ 0 m)) 0 (0 + m) = some (bA (eG ⟨#[]⟩ ⟨#[]⟩ 0 m)) ∧
    strL (cB (eG ⟨#[]⟩ ⟨#[]⟩ 0 m)) 0 m = some (bA (eG ⟨#[]⟩ ⟨#[]⟩ 0 m)) ∧
    binStr .eql (.string (bA (eG ⟨#[]⟩ ⟨#[]⟩ 0 m))) (.string (bA (eG ⟨#[]⟩ ⟨#[]⟩ 0 m))) = some (.bool true) ∧
    True) := by kernel_rfl
end Go.Proofs.YtfobgbnjicmnaaaGreatDoor.kernelFiles
