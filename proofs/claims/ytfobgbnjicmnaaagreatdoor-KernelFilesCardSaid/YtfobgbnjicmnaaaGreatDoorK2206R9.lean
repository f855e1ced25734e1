/- ONE WAY, CARRIED OUT BY THE KERNEL: it returns true, if what is said holds. -/
import Derived.Test.YtfobgbnjicmnaaaGreatDoorK2206G
set_option linter.all false
set_option maxRecDepth 100000
set_option maxHeartbeats 4000000
namespace Go.Proofs.YtfobgbnjicmnaaaGreatDoor.kernelFiles
open Go.AM
theorem way9 (b c : ByteArray) (x y : BitVec 16) (n m : Nat) : runF Tryz.prog (base0 Tryz.prog) (lib (stL [(3, [(8, 2, .mode 1), (9, 2, .mode 2), (10, 2, .mode 3), (18, 1, .mode 4), (19, 2, .mode 5), (21, 1, .mode 6), (3, 2, .val (.bool false)), (3, 6, .val (.bool false)), (6, 1, .val (.int .u16 (n : Int))), (6, 2, .val (vU n)), (6, 4, .val (.int .u16 (m : Int))), (6, 5, .val (vU m)), (11, 3, .val (vI n)), (11, 6, .val (vI (n + c.size))), (11, 7, .val (vI (L2 b c n))), (11, 8, .obj (.cells (cB (zB (L2 b c n))) none) (mkSlc (L2 b c n) (L2 b c n))), (12, 2, .val (.bool false)), (14, 2, .copy (cB (E1 b c n))), (15, 2, .cut (.slice (some ⟨155, n, none⟩) ((L2 b c n) - n) ((L2 b c n) - n))), (15, 4, .copy (cB (E2 b c n))), (22, 1, .obj (.cells (cB (zB m)) none) (mkSlc m m)), (23, 2, .copy (cB (eG b c n m))), (24, 13, .val (.bool true)), (24, 19, .val (vI n)), (24, 20, .val (.bool true)), (24, 27, .val (.bool true)), (24, 37, .str (bA (E2 b c n))), (24, 39, .str (bA (E2 b c n))), (24, 40, .val (.bool true)), (24, 50, .str (bA (eG b c n m))), (24, 52, .str (bA (eG b c n m))), (24, 53, .val (.bool true))]), (1096, [(4, 6, .obj (.cells (cB b.data.toList) (some 1)) (mkSlc b.size b.size)), (8, 6, .val (vI b.size))]), (1139, [(8, 7, .val (.bool false)), (10, 8, .val (vI b.size)), (10, 9, .val (vI b.size)), (10, 10, .obj (.cells (cB (zB b.size)) none) (mkSlc b.size b.size)), (11, 5, .copy (cB (zB b.size))), (12, 2, .cut (.slice (some ⟨122, 0, none⟩) b.size b.size)), (12, 4, .copy (cB b.data.toList))]), (2097, [(4, 1, .val (.bool false)), (6, 2, .val (vI n))]), (3096, [(4, 6, .obj (.cells (cB c.data.toList) (some 1)) (mkSlc c.size c.size)), (8, 6, .val (vI (n + c.size)))]), (3139, [(6, 7, .val (.bool false)), (8, 1, .val (.bool false)), (8, 6, .val (vI (1024 - n))), (8, 7, .val (.bool false)), (10, 8, .val (vI (n + c.size))), (10, 9, .val (vI (L2 b c n))), (10, 10, .obj (.cells (cB (zB (L2 b c n))) none) (mkSlc (L2 b c n) (L2 b c n))), (11, 5, .copy (cB (E1 b c n))), (12, 2, .cut (.slice (some ⟨152, n, none⟩) ((L2 b c n) - n) ((L2 b c n) - n))), (12, 4, .copy (cB (E2 b c n)))]), (4138, [(10, 6, .val (.bool false)), (12, 14, .val (vI (L2 b c n))), (12, 15, .val (vI (L2 b c n))), (12, 16, .val (vI (L2 b c n))), (12, 17, .cut (.slice (some ⟨152, 0, none⟩) (L2 b c n) (L2 b c n))), (12, 18, .app (cB (E2 b c n)))]), (4095, [(7, 6, .val (vI (L2 b c n)))]), (5103, [(8, 1, .val (.bool false)), (10, 13, .val (vI m))]), (5147, [(6, 7, .val (.bool false)), (8, 1, .val (.bool false)), (10, 1, .obj (.cells (cB (zB m)) none) (mkSlc m m)), (11, 5, .copy (cB (eG b c n m)))]), (6138, [(10, 6, .val (.bool false)), (12, 14, .val (vI m)), (12, 15, .val (vI m)), (12, 16, .val (vI m)), (12, 17, .cut (.slice (some ⟨433, 0, none⟩) m m)), (12, 18, .app (cB (eG b c n m)))]), (6095, [(7, 6, .val (vI m))])])) 60 3 [.string b, .string c, .int .u16 (x.toNat : Int), .int .u16 (y.toNat : Int)] run0 (isV (.bool true)) =
    (fGtr (vI b.size) (.int .i64 100) = some (.bool false) ∧
    fGtr (vI c.size) (.int .i64 100) = some (.bool false) ∧
    binInt .rem (.int .u16 (x.toNat : Int)) (.int .u16 800) = some (.int .u16 (n : Int)) ∧
    fConv .u64 (.int .u16 (n : Int)) = some (vU n) ∧
    binInt .rem (.int .u16 (y.toNat : Int)) (.int .u16 900) = some (.int .u16 (m : Int)) ∧
    fConv .u64 (.int .u16 (m : Int)) = some (vU m) ∧
    bytesO (.string b) = some (.cells (cB b.data.toList) (some 1), mkSlc b.size b.size) ∧
    fGtr (vI b.size) (.int .i64 1024) = some (.bool false) ∧
    fAdd (.int .i64 0) (vI b.size) = some (vI b.size) ∧
    fold2 max2 [.int .i64 0, (vI b.size)] = some (vI b.size) ∧
    makeS 1 1 #[.int .u8 0] (vI b.size) (vI b.size) = some (.cells (cB (zB b.size)) none, mkSlc b.size b.size) ∧
    (Nat.min 0 b.size = 0 ∧ 0 ≤ (cB (zB b.size)).length ∧ cB (zB b.size) = cB (zB b.size)) ∧
    cutV 1 122 0 b.size b.size (some (.int .i64 0)) none none = some (.slice (some ⟨122, 0, none⟩) b.size b.size) ∧
    copyL 1 (cB (zB b.size)) 0 b.size (cB b.data.toList) 0 b.size = some (cB b.data.toList) ∧
    fAdd (.int .i64 0) (vI b.size) = some (vI b.size) ∧
    fGtr (vU n) (.int .u64 1024) = some (.bool false) ∧
    fConv .i64 (vU n) = some (vI n) ∧
    bytesO (.string c) = some (.cells (cB c.data.toList) (some 1), mkSlc c.size c.size) ∧
    fLss (vI n) (.int .i64 0) = some (.bool false) ∧
    fGtr (vI n) (.int .i64 1024) = some (.bool false) ∧
    fSub (.int .i64 1024) (vI n) = some (vI (1024 - n)) ∧
    fGtr (vI c.size) (vI (1024 - n)) = some (.bool false) ∧
    fAdd (vI n) (vI c.size) = some (vI (n + c.size)) ∧
    fold2 max2 [(vI b.size), (vI (n + c.size))] = some (vI (L2 b c n)) ∧
    makeS 1 1 #[.int .u8 0] (vI (L2 b c n)) (vI (L2 b c n)) = some (.cells (cB (zB (L2 b c n))) none, mkSlc (L2 b c n) (L2 b c n)) ∧
    copyL 1 (cB (zB (L2 b c n))) 0 (L2 b c n) (cB b.data.toList) 0 b.size = some (cB (E1 b c n)) ∧
    cutV 1 152 0 (L2 b c n) (L2 b c n) (some (vI n)) none none = some (.slice (some ⟨152, n, none⟩) ((L2 b c n) - n) ((L2 b c n) - n)) ∧
    copyL 1 (cB (E1 b c n)) n ((L2 b c n) - n) (cB c.data.toList) 0 c.size = some (cB (E2 b c n)) ∧
    fAdd (vI n) (vI c.size) = some (vI (n + c.size)) ∧
    fConv .i64 (vU n) = some (vI n) ∧
    fAdd (vI n) (vI c.size) = some (vI (n + c.size)) ∧
    fold2 max2 [(vI b.size), (vI (n + c.size))] = some (vI (L2 b c n)) ∧
    makeS 1 1 #[.int .u8 0] (vI (L2 b c n)) (vI (L2 b c n)) = some (.cells (cB (zB (L2 b c n))) none, mkSlc (L2 b c n) (L2 b c n)) ∧
    fEql (vI c.size) (.int .i64 0) = some (.bool false) ∧
    (1 = 1 ∧ copyL 1 (cB (zB (L2 b c n))) 0 (L2 b c n) (cB b.data.toList) 0 b.size = some (cB (E1 b c n))) ∧
    cutV 1 155 0 (L2 b c n) (L2 b c n) (some (vU n)) none none = some (.slice (some ⟨155, n, none⟩) ((L2 b c n) - n) ((L2 b c n) - n)) ∧
    (1 = 1 ∧ copyL 1 (cB (E1 b c n)) n ((L2 b c n) - n) (cB c.data.toList) 0 c.size = some (cB (E2 b c n))) ∧
    fGeq (.int .i64 0) (vI (L2 b c n)) = some (.bool false) ∧
    fSub (vI (L2 b c n)) (.int .i64 0) = some (vI (L2 b c n)) ∧
    fold2 min2 [.int .i64 1024, (vI (L2 b c n))] = some (vI (L2 b c n)) ∧
    fAdd (.int .i64 0) (vI (L2 b c n)) = some (vI (L2 b c n)) ∧
    cutV 1 152 0 (L2 b c n) (L2 b c n) (some (.int .i64 0)) (some (vI (L2 b c n))) none = some (.slice (some ⟨152, 0, none⟩) (L2 b c n) (L2 b c n)) ∧
    appL 1 1 [] 0 0 0 (cB (E2 b c n)) 0 (L2 b c n) = some (cB (E2 b c n)) ∧
    fAdd (.int .i64 0) (vI (0 + (L2 b c n))) = some (vI (L2 b c n)) ∧
    fGtr (vU m) (.int .u64 1024) = some (.bool false) ∧
    fConv .i64 (vU m) = some (vI m) ∧
    fLss (vI m) (.int .i64 0) = some (.bool false) ∧
    fGtr (vI m) (.int .i64 1024) = some (.bool false) ∧
    makeS 1 1 #[.int .u8 0] (vI m) (vI m) = some (.cells (cB (zB m)) none, mkSlc m m) ∧
    copyL 1 (cB (zB m)) 0 m (cB (E2 b c n)) 0 (L2 b c n) = some (cB (eG b c n m)) ∧
    fGeq (.int .i64 0) (vI m) = some (.bool false) ∧
    fSub (vI m) (.int .i64 0) = some (vI m) ∧
    fold2 min2 [.int .i64 1024, (vI m)] = some (vI m) ∧
    fAdd (.int .i64 0) (vI m) = some (vI m) ∧
    cutV 1 433 0 m m (some (.int .i64 0)) (some (vI m)) none = some (.slice (some ⟨433, 0, none⟩) m m) ∧
    appL 1 1 [] 0 0 0 (cB (eG b c n m)) 0 m = some (cB (eG b c n m)) ∧
    fAdd (.int .i64 0) (vI (0 + m)) = some (vI m) ∧
    makeS 1 1 #[.int .u8 0] (vU m) (vU m) = some (.cells (cB (zB m)) none, mkSlc m m) ∧
    copyL 1 (cB (zB m)) 0 m (cB (E2 b c n)) 0 (L2 b c n) = some (cB (eG b c n m)) ∧
    fEql (vI b.size) (vI b.size) = some (.bool true) ∧
    fConv .i64 (vU n) = some (vI n) ∧
    fEql (vI n) (vI n) = some (.bool true) ∧
    fEql (vI c.size) (vI c.size) = some (.bool true) ∧
    strL (cB (E2 b c n)) 0 (0 + (L2 b c n)) = some (bA (E2 b c n)) ∧
    strL (cB (E2 b c n)) 0 (L2 b c n) = some (bA (E2 b c n)) ∧
    binStr .eql (.string (bA (E2 b c n))) (.string (bA (E2 b c n))) = some (.bool true) ∧
    strL (cB (eG b c n m)) 0 (0 + m) = some (bA (eG b c n m)) ∧
    strL (cB (eG b c n m)) 0 m = some (bA (eG b c n m)) ∧
    binStr .eql (.string (bA (eG b c n m))) (.string (bA (eG b c n m))) = some (.bool true) ∧
    True) := by kernel_rfl
end Go.Proofs.YtfobgbnjicmnaaaGreatDoor.kernelFiles
