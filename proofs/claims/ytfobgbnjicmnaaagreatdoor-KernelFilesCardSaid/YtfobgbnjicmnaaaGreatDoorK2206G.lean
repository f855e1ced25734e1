/- WHICH FUNCTIONS ARE USED; THE PLACES WHERE A RESULT IS SAID. -/
import Derived.Test.YtfobgbnjicmnaaaGreatDoorK2206A2
import Derived.Test.YtfobgbnjicmnaaaGreatDoorProg
import Derived.KernelRfl
set_option linter.all false
set_option maxRecDepth 100000
set_option maxHeartbeats 4000000
namespace Go.Proofs.YtfobgbnjicmnaaaGreatDoor.kernelFiles
open Go.AM
def mask : Nat := 2584772529969467050184798858861514225533233731679862637972718008254843356476462143124964698278998018327536852491221415944
def ids : ExtIds := { add := 89, load := 115, count := 389, index := 406, shut := none }
def idsA : ExtIds := { add := 89, load := 115, count := 389, index := 406, shut := some 11 }
def maskA : Nat := 2584772529969467050184798858861514225533233731679862637972718008254843356476462143124964698278998018327536852491221413896
noncomputable def lib (st : Nat → Nat → Nat → Option Ast) : Lib := libX Tryz.prog (base0 Tryz.prog) idsA maskA st
noncomputable def lib0 : Lib := libX Tryz.prog (base0 Tryz.prog) ids mask noSt
noncomputable section
def vI (n : Nat) : Value := .int .i64 (n : Int)
def vU (n : Nat) : Value := .int .u64 (n : Int)
def L2 (b c : ByteArray) (n : Nat) : Nat := max b.size (n + c.size)
def E1 (b c : ByteArray) (n : Nat) : List UInt8 := spl (zB (L2 b c n)) 0 ((b.data.toList.drop 0).take (Nat.min b.size (L2 b c n)))
def E2 (b c : ByteArray) (n : Nat) : List UInt8 := spl (E1 b c n) n ((c.data.toList.drop 0).take (Nat.min c.size (L2 b c n - n)))
def eG (b c : ByteArray) (n m : Nat) : List UInt8 := spl (zB m) 0 (((E2 b c n).drop 0).take (Nat.min (L2 b c n) m))
def bA (l : List UInt8) : ByteArray := ⟨l.toArray⟩
theorem min_l (a b : Nat) : Nat.min a b ≤ a := Nat.min_le_left a b
theorem min_r (a b : Nat) : Nat.min a b ≤ b := Nat.min_le_right a b
theorem copyB {zs xs : List UInt8} {o n p m : Nat} (h1 : o + n ≤ zs.length) (h2 : p + m ≤ xs.length) : copyL 1 (cB zs) o n (cB xs) p m = some (cB (spl zs o ((xs.drop p).take (Nat.min m n)))) :=
  copyL_B (by have := min_r m n; omega) (by have := min_l m n; omega)
theorem spl_nil {l xs : List UInt8} {o : Nat} (h : xs = []) : spl l o xs = l := by
  subst h
  unfold spl
  rw [List.append_nil, List.length_nil, Nat.add_zero, List.take_append_drop]
theorem tk {l : List UInt8} {k n : Nat} (h : l.length ≤ n) : ((l.drop 0).take k).length ≤ n := by
  rw [List.length_take, List.length_drop]; omega
theorem cutV_end' (k : IntKind) (b : Nat) {n L : Nat} (h : L = n) : cutV 1 b 0 L L (some (.int k (n : Int))) none none = some (.slice (some ⟨b, 0, none⟩) 0 0) := by
  subst h; exact cutV_end k b _
theorem L2_b (b c : ByteArray) (n : Nat) : b.size ≤ L2 b c n := Nat.le_max_left _ _
theorem L2_c (b c : ByteArray) (n : Nat) : n + c.size ≤ L2 b c n := Nat.le_max_right _ _
theorem L2_u {b c : ByteArray} {n m : Nat} (h1 : b.size ≤ m) (h2 : n + c.size ≤ m) : L2 b c n ≤ m := Nat.max_le.mpr ⟨h1, h2⟩
theorem bl (b : ByteArray) : b.data.toList.length = b.size := Array.length_toList
theorem E1_len (b c : ByteArray) (n : Nat) : (E1 b c n).length = L2 b c n := by
  unfold E1
  rw [spl_len (by have := tk (k := Nat.min b.size (L2 b c n)) (Nat.le_of_eq (bl b)); have := L2_b b c n; rw [zB_len]; omega), zB_len]
theorem E2_len (b c : ByteArray) (n : Nat) : (E2 b c n).length = L2 b c n := by
  unfold E2
  rw [spl_len (by have := tk (k := Nat.min c.size (L2 b c n - n)) (Nat.le_of_eq (bl c)); have := L2_c b c n; rw [E1_len]; omega), E1_len]
theorem eG_len (b c : ByteArray) (n m : Nat) : (eG b c n m).length = m := by
  unfold eG
  rw [spl_len (by
    have h := List.length_take_le (Nat.min (L2 b c n) m) ((E2 b c n).drop 0)
    have := min_r (L2 b c n) m
    rw [zB_len]; omega), zB_len]
theorem E2_e (b : ByteArray) (n : Nat) : E2 b ⟨#[]⟩ n = E1 b ⟨#[]⟩ n := spl_nil rfl
theorem cE_gt {b : ByteArray} {n : Nat} : copyL 1 (cB (E1 b ⟨#[]⟩ n)) n (L2 b ⟨#[]⟩ n - n) (cB []) 0 0 = some (cB (E2 b ⟨#[]⟩ n)) := by
  have := L2_c b ⟨#[]⟩ n
  have h0 : (⟨#[]⟩ : ByteArray).size = 0 := rfl
  rw [copyB (by rw [E1_len]; omega) (Nat.zero_le _), spl_nil (by simp), E2_e]
theorem cE_end {b : ByteArray} {n : Nat} : copyL 1 (cB (E1 b ⟨#[]⟩ n)) 0 0 (cB []) 0 0 = some (cB (E2 b ⟨#[]⟩ n)) := by
  rw [copyB (Nat.zero_le _) (Nat.zero_le _), spl_nil (by simp), E2_e]
theorem cG {b c : ByteArray} {n m : Nat} : copyL 1 (cB (zB m)) 0 m (cB (E2 b c n)) 0 (L2 b c n) = some (cB (eG b c n m)) :=
  copyB (by rw [zB_len]; omega) (by rw [E2_len]; omega)
theorem cG_z {m : Nat} : copyL 1 (cB (zB m)) 0 m (cB []) 0 0 = some (cB (eG ⟨#[]⟩ ⟨#[]⟩ 0 m)) := by
  rw [copyB (by rw [zB_len]; omega) (Nat.zero_le _), spl_nil (by simp)]
  unfold eG
  rw [spl_nil (by rw [show E2 ⟨#[]⟩ ⟨#[]⟩ 0 = [] from List.eq_nil_of_length_eq_zero (E2_len _ _ _)]; simp)]
theorem cG_0 {b c : ByteArray} {n : Nat} : copyL 1 (cB []) 0 0 (cB (E2 b c n)) 0 (L2 b c n) = some (cB []) := by
  rw [copyB (Nat.zero_le _) (by rw [E2_len]; omega), spl_nil (by simp [Nat.min])]
end
end Go.Proofs.YtfobgbnjicmnaaaGreatDoor.kernelFiles
