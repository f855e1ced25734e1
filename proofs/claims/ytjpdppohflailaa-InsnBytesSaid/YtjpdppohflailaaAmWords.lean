/- THE ABSTRACT MACHINE: unsigned numbers as bit vectors: written by program (words.py). -/
import Derived.Test.YtjpdppohflailaaAmSpec
set_option linter.all false
namespace Go.AM
theorem bv_ofInt_nat {w : Nat} (x : BitVec w) : BitVec.ofInt w (x.toNat : Int) = x := by
  rw [BitVec.ofInt_natCast, BitVec.ofNat_toNat, BitVec.setWidth_eq]
theorem bv_ofInt_lit (w n : Nat) : BitVec.ofInt w (OfNat.ofNat n : Int) = BitVec.ofNat w n := BitVec.ofInt_natCast w n
theorem bv_ofInt_sub (w : Nat) (a b : Int) : BitVec.ofInt w (a - b) = BitVec.ofInt w a - BitVec.ofInt w b := by
  apply BitVec.eq_of_toInt_eq
  simp [BitVec.toInt_ofInt, BitVec.toInt_sub]
theorem bv_inj {w : Nat} (x y : BitVec w) : ((x.toNat : Int) = (y.toNat : Int)) ↔ x = y := by
  rw [Int.natCast_inj, BitVec.toNat_inj]
theorem bv_lit {w n : Nat} (x : BitVec w) (h : n < 2 ^ w) : ((x.toNat : Int) = (OfNat.ofNat n : Int)) ↔ x = BitVec.ofNat w n := by
  rw [show (OfNat.ofNat n : Int) = ((n : Nat) : Int) from rfl, Int.natCast_inj, ← BitVec.toNat_inj, BitVec.toNat_ofNat, Nat.mod_eq_of_lt h]
theorem bv_shr {w : Nat} (x : BitVec w) (n : Nat) : ((x.toNat : Int).fdiv (2 ^ (min n w) : Int)) = ((x >>> n).toNat : Int) := by
  rw [BitVec.toNat_ushiftRight, Nat.shiftRight_eq_div_pow]
  have : (2 ^ (min n w) : Int) = ((2 ^ (min n w) : Nat) : Int) := by simp
  rw [this, Int.fdiv_eq_ediv_of_nonneg _ (Int.natCast_nonneg _), ← Int.natCast_ediv]
  congr 1
  by_cases h : n ≤ w
  · rw [Nat.min_eq_left h]
  · have h1 := x.isLt
    rw [Nat.min_eq_right (by omega), Nat.div_eq_of_lt h1, Nat.div_eq_of_lt]
    exact Nat.lt_of_lt_of_le h1 (Nat.pow_le_pow_right (by omega) (by omega))
theorem bv_shl {w : Nat} (x : BitVec w) (n : Nat) : BitVec.ofInt w ((x.toNat : Int) * (2 ^ (min n w) : Int)) = x <<< n := by
  have : (x.toNat : Int) * (2 ^ (min n w) : Int) = ((x.toNat * 2 ^ (min n w) : Nat) : Int) := by simp
  rw [this, BitVec.ofInt_natCast]
  apply BitVec.eq_of_toNat_eq
  rw [BitVec.toNat_ofNat, BitVec.toNat_shiftLeft, Nat.shiftLeft_eq]
  by_cases h : n ≤ w
  · rw [Nat.min_eq_left h]
  · rw [Nat.min_eq_right (by omega)]
    rw [Nat.mul_mod_left, Nat.mod_eq_zero_of_dvd]
    exact Nat.dvd_trans (Nat.pow_dvd_pow 2 (by omega : w ≤ n)) (Nat.dvd_mul_left _ _)
@[simp] theorem i64_eql (a b : Int) : binInt .eql (vi a) (vi b) = some (.bool (decide (a = b))) := binInt_eql ..
@[simp] theorem i64_neq (a b : Int) : binInt .neq (vi a) (vi b) = some (.bool (decide (a ≠ b))) := binInt_neq ..
@[simp] theorem i64_lss (a b : Int) : binInt .lss (vi a) (vi b) = some (.bool (decide (a < b))) := binInt_lss ..
@[simp] theorem i64_leq (a b : Int) : binInt .leq (vi a) (vi b) = some (.bool (decide (a ≤ b))) := binInt_leq ..
@[simp] theorem i64_gtr (a b : Int) : binInt .gtr (vi a) (vi b) = some (.bool (decide (b < a))) := binInt_gtr ..
@[simp] theorem i64_geq (a b : Int) : binInt .geq (vi a) (vi b) = some (.bool (decide (b ≤ a))) := binInt_geq ..
@[simp] theorem i64_max (a b : Int) : fold2 max2 [vi a, vi b] = some (vi (if b > a then b else a)) := rfl
@[simp] theorem i64_min (a b : Int) : fold2 min2 [vi a, vi b] = some (vi (if b < a then b else a)) := rfl

theorem u8_def (x : BitVec 8) : u8 x = .int .u8 (x.toNat : Int) := rfl
theorem u16_def (x : BitVec 16) : u16 x = .int .u16 (x.toNat : Int) := rfl
theorem u32_def (x : BitVec 32) : u32 x = .int .u32 (x.toNat : Int) := rfl
theorem u64_def (x : BitVec 64) : u64 x = .int .u64 (x.toNat : Int) := rfl
@[simp] theorem u8_lit (n : Nat) (h : n < 2 ^ 8) : (.int .u8 (no_index (OfNat.ofNat n)) : Value) = u8 (BitVec.ofNat 8 n) := by
  rw [u8_def, BitVec.toNat_ofNat, Nat.mod_eq_of_lt h]; rfl
@[simp] theorem u8_lit0 : (.int .u8 0 : Value) = u8 0#8 := rfl
@[simp] theorem u8_lit1 : (.int .u8 1 : Value) = u8 1#8 := rfl
@[simp] theorem defd_u8 (x : BitVec 8) : defd (u8 x) = true := rfl
@[simp] theorem plain1_u8 (x : BitVec 8) : plain1 (u8 x) = true := rfl
@[simp] theorem cells_u8 (x : BitVec 8) : (u8 x).cells = #[u8 x] := rfl
@[simp] theorem u8_inj (x y : BitVec 8) : u8 x = u8 y ↔ x = y := by
  simp only [u8_def, Value.int.injEq, true_and, bv_inj]
@[simp] theorem same_u8 (x y : BitVec 8) : sameCell 0 (u8 x) (u8 y) = some (decide (x = y)) := by
  simp only [u8_def, sameCell, if_true]; congr 1; rw [Bool.eq_iff_iff]; simp [bv_inj, BitVec.toNat_inj]
@[simp] theorem ixSlc_u8 (sz : Nat) (v : Value) (x : BitVec 8) : ixSlc sz v (u8 x) = ixSlc sz v (vi (x.toNat : Int)) := by
  simp only [u8_def]; cases v <;> first | rfl | (rename_i a; cases a <;> rfl) | (rename_i a n c; cases a <;> rfl)
@[simp] theorem ixArr_u8 (len sz : Nat) (v : Value) (x : BitVec 8) : ixArr len sz v (u8 x) = ixArr len sz v (vi (x.toNat : Int)) := by
  simp only [u8_def]; cases v <;> first | rfl | (rename_i a; cases a <;> rfl) | (rename_i a n c; cases a <;> rfl)
@[simp] theorem ixStr_u8 (v : Value) (x : BitVec 8) : ixStr v (u8 x) = ixStr v (vi (x.toNat : Int)) := by
  simp only [u8_def]; cases v <;> first | rfl | (rename_i a; cases a <;> rfl) | (rename_i a n c; cases a <;> rfl)
@[simp] theorem u8_add (x y : BitVec 8) : binInt .add (u8 x) (u8 y) = some (u8 (x + y)) := by
  simp only [u8_def]; rw [binInt_add, wrap_ofInt .u8 rfl]; simp only [IntKind.bits, BitVec.ofInt_add, bv_ofInt_nat]
@[simp] theorem u8_sub (x y : BitVec 8) : binInt .sub (u8 x) (u8 y) = some (u8 (x - y)) := by
  simp only [u8_def]; rw [binInt_sub, wrap_ofInt .u8 rfl]; simp only [IntKind.bits, bv_ofInt_sub, bv_ofInt_nat]
@[simp] theorem u8_mul (x y : BitVec 8) : binInt .mul (u8 x) (u8 y) = some (u8 (x * y)) := by
  simp only [u8_def]; rw [binInt_mul, wrap_ofInt .u8 rfl]; simp only [IntKind.bits, BitVec.ofInt_mul, bv_ofInt_nat]
@[simp] theorem u8_and (x y : BitVec 8) : binInt .and (u8 x) (u8 y) = some (u8 (x &&& y)) := by
  simp only [u8_def]; rw [binInt_and]; simp only [IntKind.bits, bv_ofInt_nat]; exact congrArg (fun z => some (Value.int .u8 z)) (wrap_bv .u8 rfl _)
@[simp] theorem u8_or (x y : BitVec 8) : binInt .or (u8 x) (u8 y) = some (u8 (x ||| y)) := by
  simp only [u8_def]; rw [binInt_or]; simp only [IntKind.bits, bv_ofInt_nat]; exact congrArg (fun z => some (Value.int .u8 z)) (wrap_bv .u8 rfl _)
@[simp] theorem u8_xor (x y : BitVec 8) : binInt .xor (u8 x) (u8 y) = some (u8 (x ^^^ y)) := by
  simp only [u8_def]; rw [binInt_xor]; simp only [IntKind.bits, bv_ofInt_nat]; exact congrArg (fun z => some (Value.int .u8 z)) (wrap_bv .u8 rfl _)
@[simp] theorem u8_andNot (x y : BitVec 8) : binInt .andNot (u8 x) (u8 y) = some (u8 (x &&& ~~~y)) := by
  simp only [u8_def]; rw [binInt_andNot]; simp only [IntKind.bits, bv_ofInt_nat]; exact congrArg (fun z => some (Value.int .u8 z)) (wrap_bv .u8 rfl _)
@[simp] theorem u8_shr (x : BitVec 8) (k : IntKind) (n : Nat) : binInt .shr (u8 x) (.int k (n : Int)) = some (u8 (x >>> n)) := by
  have h : ¬ ((n : Int) < 0) := by omega
  simp only [u8_def, binInt, h, if_false, Int.toNat_natCast, IntKind.bits, bv_shr]
@[simp] theorem u8_shl (x : BitVec 8) (k : IntKind) (n : Nat) : binInt .shl (u8 x) (.int k (n : Int)) = some (u8 (x <<< n)) := by
  have h : ¬ ((n : Int) < 0) := by omega
  simp only [u8_def, binInt, h, if_false, Int.toNat_natCast]; rw [wrap_ofInt .u8 rfl]; simp only [IntKind.bits, bv_shl]
@[simp] theorem u8_shr_lit (x : BitVec 8) (k : IntKind) (n : Nat) : binInt .shr (u8 x) (.int k (no_index (OfNat.ofNat n))) = some (u8 (x >>> n)) := u8_shr x k n
@[simp] theorem u8_shr_u8 (x : BitVec 8) (y : BitVec 8) : binInt .shr (u8 x) (u8 y) = some (u8 (x >>> y.toNat)) := u8_shr x .u8 y.toNat
@[simp] theorem u8_shr_u16 (x : BitVec 8) (y : BitVec 16) : binInt .shr (u8 x) (u16 y) = some (u8 (x >>> y.toNat)) := u8_shr x .u16 y.toNat
@[simp] theorem u8_shr_u32 (x : BitVec 8) (y : BitVec 32) : binInt .shr (u8 x) (u32 y) = some (u8 (x >>> y.toNat)) := u8_shr x .u32 y.toNat
@[simp] theorem u8_shr_u64 (x : BitVec 8) (y : BitVec 64) : binInt .shr (u8 x) (u64 y) = some (u8 (x >>> y.toNat)) := u8_shr x .u64 y.toNat
@[simp] theorem u8_shl_lit (x : BitVec 8) (k : IntKind) (n : Nat) : binInt .shl (u8 x) (.int k (no_index (OfNat.ofNat n))) = some (u8 (x <<< n)) := u8_shl x k n
@[simp] theorem u8_shl_u8 (x : BitVec 8) (y : BitVec 8) : binInt .shl (u8 x) (u8 y) = some (u8 (x <<< y.toNat)) := u8_shl x .u8 y.toNat
@[simp] theorem u8_shl_u16 (x : BitVec 8) (y : BitVec 16) : binInt .shl (u8 x) (u16 y) = some (u8 (x <<< y.toNat)) := u8_shl x .u16 y.toNat
@[simp] theorem u8_shl_u32 (x : BitVec 8) (y : BitVec 32) : binInt .shl (u8 x) (u32 y) = some (u8 (x <<< y.toNat)) := u8_shl x .u32 y.toNat
@[simp] theorem u8_shl_u64 (x : BitVec 8) (y : BitVec 64) : binInt .shl (u8 x) (u64 y) = some (u8 (x <<< y.toNat)) := u8_shl x .u64 y.toNat
@[simp] theorem u8_eql (x y : BitVec 8) : binInt .eql (u8 x) (u8 y) = some (.bool (decide (x = y))) := by
  simp only [u8_def]; rw [binInt_eql]; simp only [bv_inj]
@[simp] theorem u8_neq (x y : BitVec 8) : binInt .neq (u8 x) (u8 y) = some (.bool (decide (x ≠ y))) := by
  simp only [u8_def]; rw [binInt_neq]; simp only [bv_inj, ne_eq]
@[simp] theorem u8_lss (x y : BitVec 8) : binInt .lss (u8 x) (u8 y) = some (.bool (decide (x.toNat < y.toNat))) := by
  simp only [u8_def]; rw [binInt_lss]; simp only [Int.ofNat_lt]
@[simp] theorem u8_leq (x y : BitVec 8) : binInt .leq (u8 x) (u8 y) = some (.bool (decide (x.toNat ≤ y.toNat))) := by
  simp only [u8_def]; rw [binInt_leq]; simp only [Int.ofNat_le]
@[simp] theorem u8_gtr (x y : BitVec 8) : binInt .gtr (u8 x) (u8 y) = some (.bool (decide (y.toNat < x.toNat))) := by
  simp only [u8_def]; rw [binInt_gtr]; simp only [Int.ofNat_lt]
@[simp] theorem u8_geq (x y : BitVec 8) : binInt .geq (u8 x) (u8 y) = some (.bool (decide (y.toNat ≤ x.toNat))) := by
  simp only [u8_def]; rw [binInt_geq]; simp only [Int.ofNat_le]
@[simp] theorem u8_quo (x y : BitVec 8) (h : y ≠ 0#8) : binInt .quo (u8 x) (u8 y) = some (u8 (x / y)) := by
  simp only [u8_def]; rw [binInt_quo _ _ _ (fun k => h (BitVec.eq_of_toNat_eq (by have : y.toNat = 0 := (by exact_mod_cast k); simpa using this))), ← Int.ofNat_tdiv, ← BitVec.toNat_udiv]
  exact congrArg (fun z => some (Value.int .u8 z)) (wrap_bv .u8 rfl _)
@[simp] theorem u8_rem (x y : BitVec 8) (h : y ≠ 0#8) : binInt .rem (u8 x) (u8 y) = some (u8 (x % y)) := by
  simp only [u8_def]; rw [binInt_rem _ _ _ (fun k => h (BitVec.eq_of_toNat_eq (by have : y.toNat = 0 := (by exact_mod_cast k); simpa using this))), ← Int.ofNat_tmod, ← BitVec.toNat_umod]
@[simp] theorem u8_to_u8 (x : BitVec 8) : convInt .u8 (u8 x) = some (u8 (x.setWidth 8)) := by
  simp only [u8_def, u16_def, u32_def, u64_def]; rw [convInt_int, wrap_ofInt .u8 rfl]; simp only [IntKind.bits, BitVec.ofInt_natCast, BitVec.ofNat_toNat]
@[simp] theorem u8_to_u16 (x : BitVec 8) : convInt .u16 (u8 x) = some (u16 (x.setWidth 16)) := by
  simp only [u8_def, u16_def, u32_def, u64_def]; rw [convInt_int, wrap_ofInt .u16 rfl]; simp only [IntKind.bits, BitVec.ofInt_natCast, BitVec.ofNat_toNat]
@[simp] theorem u8_to_u32 (x : BitVec 8) : convInt .u32 (u8 x) = some (u32 (x.setWidth 32)) := by
  simp only [u8_def, u16_def, u32_def, u64_def]; rw [convInt_int, wrap_ofInt .u32 rfl]; simp only [IntKind.bits, BitVec.ofInt_natCast, BitVec.ofNat_toNat]
@[simp] theorem u8_to_u64 (x : BitVec 8) : convInt .u64 (u8 x) = some (u64 (x.setWidth 64)) := by
  simp only [u8_def, u16_def, u32_def, u64_def]; rw [convInt_int, wrap_ofInt .u64 rfl]; simp only [IntKind.bits, BitVec.ofInt_natCast, BitVec.ofNat_toNat]
@[simp] theorem u8_to_i64 (x : BitVec 8) : convInt .i64 (u8 x) = some (vi (x.toNat : Int)) := by
  have := x.isLt
  simp only [u8_def]; rw [convInt_int, wrap_i64 (by omega) (by omega)]
@[simp] theorem i64_to_u8 (n : Int) : convInt .u8 (vi n) = some (u8 (BitVec.ofInt 8 n)) := by
  simp only [u8_def]; rw [convInt_int, wrap_ofInt .u8 rfl]; simp only [IntKind.bits]
@[simp] theorem u16_lit (n : Nat) (h : n < 2 ^ 16) : (.int .u16 (no_index (OfNat.ofNat n)) : Value) = u16 (BitVec.ofNat 16 n) := by
  rw [u16_def, BitVec.toNat_ofNat, Nat.mod_eq_of_lt h]; rfl
@[simp] theorem u16_lit0 : (.int .u16 0 : Value) = u16 0#16 := rfl
@[simp] theorem u16_lit1 : (.int .u16 1 : Value) = u16 1#16 := rfl
@[simp] theorem defd_u16 (x : BitVec 16) : defd (u16 x) = true := rfl
@[simp] theorem plain1_u16 (x : BitVec 16) : plain1 (u16 x) = true := rfl
@[simp] theorem cells_u16 (x : BitVec 16) : (u16 x).cells = #[u16 x] := rfl
@[simp] theorem u16_inj (x y : BitVec 16) : u16 x = u16 y ↔ x = y := by
  simp only [u16_def, Value.int.injEq, true_and, bv_inj]
@[simp] theorem same_u16 (x y : BitVec 16) : sameCell 0 (u16 x) (u16 y) = some (decide (x = y)) := by
  simp only [u16_def, sameCell, if_true]; congr 1; rw [Bool.eq_iff_iff]; simp [bv_inj, BitVec.toNat_inj]
@[simp] theorem ixSlc_u16 (sz : Nat) (v : Value) (x : BitVec 16) : ixSlc sz v (u16 x) = ixSlc sz v (vi (x.toNat : Int)) := by
  simp only [u16_def]; cases v <;> first | rfl | (rename_i a; cases a <;> rfl) | (rename_i a n c; cases a <;> rfl)
@[simp] theorem ixArr_u16 (len sz : Nat) (v : Value) (x : BitVec 16) : ixArr len sz v (u16 x) = ixArr len sz v (vi (x.toNat : Int)) := by
  simp only [u16_def]; cases v <;> first | rfl | (rename_i a; cases a <;> rfl) | (rename_i a n c; cases a <;> rfl)
@[simp] theorem ixStr_u16 (v : Value) (x : BitVec 16) : ixStr v (u16 x) = ixStr v (vi (x.toNat : Int)) := by
  simp only [u16_def]; cases v <;> first | rfl | (rename_i a; cases a <;> rfl) | (rename_i a n c; cases a <;> rfl)
@[simp] theorem u16_add (x y : BitVec 16) : binInt .add (u16 x) (u16 y) = some (u16 (x + y)) := by
  simp only [u16_def]; rw [binInt_add, wrap_ofInt .u16 rfl]; simp only [IntKind.bits, BitVec.ofInt_add, bv_ofInt_nat]
@[simp] theorem u16_sub (x y : BitVec 16) : binInt .sub (u16 x) (u16 y) = some (u16 (x - y)) := by
  simp only [u16_def]; rw [binInt_sub, wrap_ofInt .u16 rfl]; simp only [IntKind.bits, bv_ofInt_sub, bv_ofInt_nat]
@[simp] theorem u16_mul (x y : BitVec 16) : binInt .mul (u16 x) (u16 y) = some (u16 (x * y)) := by
  simp only [u16_def]; rw [binInt_mul, wrap_ofInt .u16 rfl]; simp only [IntKind.bits, BitVec.ofInt_mul, bv_ofInt_nat]
@[simp] theorem u16_and (x y : BitVec 16) : binInt .and (u16 x) (u16 y) = some (u16 (x &&& y)) := by
  simp only [u16_def]; rw [binInt_and]; simp only [IntKind.bits, bv_ofInt_nat]; exact congrArg (fun z => some (Value.int .u16 z)) (wrap_bv .u16 rfl _)
@[simp] theorem u16_or (x y : BitVec 16) : binInt .or (u16 x) (u16 y) = some (u16 (x ||| y)) := by
  simp only [u16_def]; rw [binInt_or]; simp only [IntKind.bits, bv_ofInt_nat]; exact congrArg (fun z => some (Value.int .u16 z)) (wrap_bv .u16 rfl _)
@[simp] theorem u16_xor (x y : BitVec 16) : binInt .xor (u16 x) (u16 y) = some (u16 (x ^^^ y)) := by
  simp only [u16_def]; rw [binInt_xor]; simp only [IntKind.bits, bv_ofInt_nat]; exact congrArg (fun z => some (Value.int .u16 z)) (wrap_bv .u16 rfl _)
@[simp] theorem u16_andNot (x y : BitVec 16) : binInt .andNot (u16 x) (u16 y) = some (u16 (x &&& ~~~y)) := by
  simp only [u16_def]; rw [binInt_andNot]; simp only [IntKind.bits, bv_ofInt_nat]; exact congrArg (fun z => some (Value.int .u16 z)) (wrap_bv .u16 rfl _)
@[simp] theorem u16_shr (x : BitVec 16) (k : IntKind) (n : Nat) : binInt .shr (u16 x) (.int k (n : Int)) = some (u16 (x >>> n)) := by
  have h : ¬ ((n : Int) < 0) := by omega
  simp only [u16_def, binInt, h, if_false, Int.toNat_natCast, IntKind.bits, bv_shr]
@[simp] theorem u16_shl (x : BitVec 16) (k : IntKind) (n : Nat) : binInt .shl (u16 x) (.int k (n : Int)) = some (u16 (x <<< n)) := by
  have h : ¬ ((n : Int) < 0) := by omega
  simp only [u16_def, binInt, h, if_false, Int.toNat_natCast]; rw [wrap_ofInt .u16 rfl]; simp only [IntKind.bits, bv_shl]
@[simp] theorem u16_shr_lit (x : BitVec 16) (k : IntKind) (n : Nat) : binInt .shr (u16 x) (.int k (no_index (OfNat.ofNat n))) = some (u16 (x >>> n)) := u16_shr x k n
@[simp] theorem u16_shr_u8 (x : BitVec 16) (y : BitVec 8) : binInt .shr (u16 x) (u8 y) = some (u16 (x >>> y.toNat)) := u16_shr x .u8 y.toNat
@[simp] theorem u16_shr_u16 (x : BitVec 16) (y : BitVec 16) : binInt .shr (u16 x) (u16 y) = some (u16 (x >>> y.toNat)) := u16_shr x .u16 y.toNat
@[simp] theorem u16_shr_u32 (x : BitVec 16) (y : BitVec 32) : binInt .shr (u16 x) (u32 y) = some (u16 (x >>> y.toNat)) := u16_shr x .u32 y.toNat
@[simp] theorem u16_shr_u64 (x : BitVec 16) (y : BitVec 64) : binInt .shr (u16 x) (u64 y) = some (u16 (x >>> y.toNat)) := u16_shr x .u64 y.toNat
@[simp] theorem u16_shl_lit (x : BitVec 16) (k : IntKind) (n : Nat) : binInt .shl (u16 x) (.int k (no_index (OfNat.ofNat n))) = some (u16 (x <<< n)) := u16_shl x k n
@[simp] theorem u16_shl_u8 (x : BitVec 16) (y : BitVec 8) : binInt .shl (u16 x) (u8 y) = some (u16 (x <<< y.toNat)) := u16_shl x .u8 y.toNat
@[simp] theorem u16_shl_u16 (x : BitVec 16) (y : BitVec 16) : binInt .shl (u16 x) (u16 y) = some (u16 (x <<< y.toNat)) := u16_shl x .u16 y.toNat
@[simp] theorem u16_shl_u32 (x : BitVec 16) (y : BitVec 32) : binInt .shl (u16 x) (u32 y) = some (u16 (x <<< y.toNat)) := u16_shl x .u32 y.toNat
@[simp] theorem u16_shl_u64 (x : BitVec 16) (y : BitVec 64) : binInt .shl (u16 x) (u64 y) = some (u16 (x <<< y.toNat)) := u16_shl x .u64 y.toNat
@[simp] theorem u16_eql (x y : BitVec 16) : binInt .eql (u16 x) (u16 y) = some (.bool (decide (x = y))) := by
  simp only [u16_def]; rw [binInt_eql]; simp only [bv_inj]
@[simp] theorem u16_neq (x y : BitVec 16) : binInt .neq (u16 x) (u16 y) = some (.bool (decide (x ≠ y))) := by
  simp only [u16_def]; rw [binInt_neq]; simp only [bv_inj, ne_eq]
@[simp] theorem u16_lss (x y : BitVec 16) : binInt .lss (u16 x) (u16 y) = some (.bool (decide (x.toNat < y.toNat))) := by
  simp only [u16_def]; rw [binInt_lss]; simp only [Int.ofNat_lt]
@[simp] theorem u16_leq (x y : BitVec 16) : binInt .leq (u16 x) (u16 y) = some (.bool (decide (x.toNat ≤ y.toNat))) := by
  simp only [u16_def]; rw [binInt_leq]; simp only [Int.ofNat_le]
@[simp] theorem u16_gtr (x y : BitVec 16) : binInt .gtr (u16 x) (u16 y) = some (.bool (decide (y.toNat < x.toNat))) := by
  simp only [u16_def]; rw [binInt_gtr]; simp only [Int.ofNat_lt]
@[simp] theorem u16_geq (x y : BitVec 16) : binInt .geq (u16 x) (u16 y) = some (.bool (decide (y.toNat ≤ x.toNat))) := by
  simp only [u16_def]; rw [binInt_geq]; simp only [Int.ofNat_le]
@[simp] theorem u16_quo (x y : BitVec 16) (h : y ≠ 0#16) : binInt .quo (u16 x) (u16 y) = some (u16 (x / y)) := by
  simp only [u16_def]; rw [binInt_quo _ _ _ (fun k => h (BitVec.eq_of_toNat_eq (by have : y.toNat = 0 := (by exact_mod_cast k); simpa using this))), ← Int.ofNat_tdiv, ← BitVec.toNat_udiv]
  exact congrArg (fun z => some (Value.int .u16 z)) (wrap_bv .u16 rfl _)
@[simp] theorem u16_rem (x y : BitVec 16) (h : y ≠ 0#16) : binInt .rem (u16 x) (u16 y) = some (u16 (x % y)) := by
  simp only [u16_def]; rw [binInt_rem _ _ _ (fun k => h (BitVec.eq_of_toNat_eq (by have : y.toNat = 0 := (by exact_mod_cast k); simpa using this))), ← Int.ofNat_tmod, ← BitVec.toNat_umod]
@[simp] theorem u16_to_u8 (x : BitVec 16) : convInt .u8 (u16 x) = some (u8 (x.setWidth 8)) := by
  simp only [u8_def, u16_def, u32_def, u64_def]; rw [convInt_int, wrap_ofInt .u8 rfl]; simp only [IntKind.bits, BitVec.ofInt_natCast, BitVec.ofNat_toNat]
@[simp] theorem u16_to_u16 (x : BitVec 16) : convInt .u16 (u16 x) = some (u16 (x.setWidth 16)) := by
  simp only [u8_def, u16_def, u32_def, u64_def]; rw [convInt_int, wrap_ofInt .u16 rfl]; simp only [IntKind.bits, BitVec.ofInt_natCast, BitVec.ofNat_toNat]
@[simp] theorem u16_to_u32 (x : BitVec 16) : convInt .u32 (u16 x) = some (u32 (x.setWidth 32)) := by
  simp only [u8_def, u16_def, u32_def, u64_def]; rw [convInt_int, wrap_ofInt .u32 rfl]; simp only [IntKind.bits, BitVec.ofInt_natCast, BitVec.ofNat_toNat]
@[simp] theorem u16_to_u64 (x : BitVec 16) : convInt .u64 (u16 x) = some (u64 (x.setWidth 64)) := by
  simp only [u8_def, u16_def, u32_def, u64_def]; rw [convInt_int, wrap_ofInt .u64 rfl]; simp only [IntKind.bits, BitVec.ofInt_natCast, BitVec.ofNat_toNat]
@[simp] theorem u16_to_i64 (x : BitVec 16) : convInt .i64 (u16 x) = some (vi (x.toNat : Int)) := by
  have := x.isLt
  simp only [u16_def]; rw [convInt_int, wrap_i64 (by omega) (by omega)]
@[simp] theorem i64_to_u16 (n : Int) : convInt .u16 (vi n) = some (u16 (BitVec.ofInt 16 n)) := by
  simp only [u16_def]; rw [convInt_int, wrap_ofInt .u16 rfl]; simp only [IntKind.bits]
@[simp] theorem u32_lit (n : Nat) (h : n < 2 ^ 32) : (.int .u32 (no_index (OfNat.ofNat n)) : Value) = u32 (BitVec.ofNat 32 n) := by
  rw [u32_def, BitVec.toNat_ofNat, Nat.mod_eq_of_lt h]; rfl
@[simp] theorem u32_lit0 : (.int .u32 0 : Value) = u32 0#32 := rfl
@[simp] theorem u32_lit1 : (.int .u32 1 : Value) = u32 1#32 := rfl
@[simp] theorem defd_u32 (x : BitVec 32) : defd (u32 x) = true := rfl
@[simp] theorem plain1_u32 (x : BitVec 32) : plain1 (u32 x) = true := rfl
@[simp] theorem cells_u32 (x : BitVec 32) : (u32 x).cells = #[u32 x] := rfl
@[simp] theorem u32_inj (x y : BitVec 32) : u32 x = u32 y ↔ x = y := by
  simp only [u32_def, Value.int.injEq, true_and, bv_inj]
@[simp] theorem same_u32 (x y : BitVec 32) : sameCell 0 (u32 x) (u32 y) = some (decide (x = y)) := by
  simp only [u32_def, sameCell, if_true]; congr 1; rw [Bool.eq_iff_iff]; simp [bv_inj, BitVec.toNat_inj]
@[simp] theorem ixSlc_u32 (sz : Nat) (v : Value) (x : BitVec 32) : ixSlc sz v (u32 x) = ixSlc sz v (vi (x.toNat : Int)) := by
  simp only [u32_def]; cases v <;> first | rfl | (rename_i a; cases a <;> rfl) | (rename_i a n c; cases a <;> rfl)
@[simp] theorem ixArr_u32 (len sz : Nat) (v : Value) (x : BitVec 32) : ixArr len sz v (u32 x) = ixArr len sz v (vi (x.toNat : Int)) := by
  simp only [u32_def]; cases v <;> first | rfl | (rename_i a; cases a <;> rfl) | (rename_i a n c; cases a <;> rfl)
@[simp] theorem ixStr_u32 (v : Value) (x : BitVec 32) : ixStr v (u32 x) = ixStr v (vi (x.toNat : Int)) := by
  simp only [u32_def]; cases v <;> first | rfl | (rename_i a; cases a <;> rfl) | (rename_i a n c; cases a <;> rfl)
@[simp] theorem u32_add (x y : BitVec 32) : binInt .add (u32 x) (u32 y) = some (u32 (x + y)) := by
  simp only [u32_def]; rw [binInt_add, wrap_ofInt .u32 rfl]; simp only [IntKind.bits, BitVec.ofInt_add, bv_ofInt_nat]
@[simp] theorem u32_sub (x y : BitVec 32) : binInt .sub (u32 x) (u32 y) = some (u32 (x - y)) := by
  simp only [u32_def]; rw [binInt_sub, wrap_ofInt .u32 rfl]; simp only [IntKind.bits, bv_ofInt_sub, bv_ofInt_nat]
@[simp] theorem u32_mul (x y : BitVec 32) : binInt .mul (u32 x) (u32 y) = some (u32 (x * y)) := by
  simp only [u32_def]; rw [binInt_mul, wrap_ofInt .u32 rfl]; simp only [IntKind.bits, BitVec.ofInt_mul, bv_ofInt_nat]
@[simp] theorem u32_and (x y : BitVec 32) : binInt .and (u32 x) (u32 y) = some (u32 (x &&& y)) := by
  simp only [u32_def]; rw [binInt_and]; simp only [IntKind.bits, bv_ofInt_nat]; exact congrArg (fun z => some (Value.int .u32 z)) (wrap_bv .u32 rfl _)
@[simp] theorem u32_or (x y : BitVec 32) : binInt .or (u32 x) (u32 y) = some (u32 (x ||| y)) := by
  simp only [u32_def]; rw [binInt_or]; simp only [IntKind.bits, bv_ofInt_nat]; exact congrArg (fun z => some (Value.int .u32 z)) (wrap_bv .u32 rfl _)
@[simp] theorem u32_xor (x y : BitVec 32) : binInt .xor (u32 x) (u32 y) = some (u32 (x ^^^ y)) := by
  simp only [u32_def]; rw [binInt_xor]; simp only [IntKind.bits, bv_ofInt_nat]; exact congrArg (fun z => some (Value.int .u32 z)) (wrap_bv .u32 rfl _)
@[simp] theorem u32_andNot (x y : BitVec 32) : binInt .andNot (u32 x) (u32 y) = some (u32 (x &&& ~~~y)) := by
  simp only [u32_def]; rw [binInt_andNot]; simp only [IntKind.bits, bv_ofInt_nat]; exact congrArg (fun z => some (Value.int .u32 z)) (wrap_bv .u32 rfl _)
@[simp] theorem u32_shr (x : BitVec 32) (k : IntKind) (n : Nat) : binInt .shr (u32 x) (.int k (n : Int)) = some (u32 (x >>> n)) := by
  have h : ¬ ((n : Int) < 0) := by omega
  simp only [u32_def, binInt, h, if_false, Int.toNat_natCast, IntKind.bits, bv_shr]
@[simp] theorem u32_shl (x : BitVec 32) (k : IntKind) (n : Nat) : binInt .shl (u32 x) (.int k (n : Int)) = some (u32 (x <<< n)) := by
  have h : ¬ ((n : Int) < 0) := by omega
  simp only [u32_def, binInt, h, if_false, Int.toNat_natCast]; rw [wrap_ofInt .u32 rfl]; simp only [IntKind.bits, bv_shl]
@[simp] theorem u32_shr_lit (x : BitVec 32) (k : IntKind) (n : Nat) : binInt .shr (u32 x) (.int k (no_index (OfNat.ofNat n))) = some (u32 (x >>> n)) := u32_shr x k n
@[simp] theorem u32_shr_u8 (x : BitVec 32) (y : BitVec 8) : binInt .shr (u32 x) (u8 y) = some (u32 (x >>> y.toNat)) := u32_shr x .u8 y.toNat
@[simp] theorem u32_shr_u16 (x : BitVec 32) (y : BitVec 16) : binInt .shr (u32 x) (u16 y) = some (u32 (x >>> y.toNat)) := u32_shr x .u16 y.toNat
@[simp] theorem u32_shr_u32 (x : BitVec 32) (y : BitVec 32) : binInt .shr (u32 x) (u32 y) = some (u32 (x >>> y.toNat)) := u32_shr x .u32 y.toNat
@[simp] theorem u32_shr_u64 (x : BitVec 32) (y : BitVec 64) : binInt .shr (u32 x) (u64 y) = some (u32 (x >>> y.toNat)) := u32_shr x .u64 y.toNat
@[simp] theorem u32_shl_lit (x : BitVec 32) (k : IntKind) (n : Nat) : binInt .shl (u32 x) (.int k (no_index (OfNat.ofNat n))) = some (u32 (x <<< n)) := u32_shl x k n
@[simp] theorem u32_shl_u8 (x : BitVec 32) (y : BitVec 8) : binInt .shl (u32 x) (u8 y) = some (u32 (x <<< y.toNat)) := u32_shl x .u8 y.toNat
@[simp] theorem u32_shl_u16 (x : BitVec 32) (y : BitVec 16) : binInt .shl (u32 x) (u16 y) = some (u32 (x <<< y.toNat)) := u32_shl x .u16 y.toNat
@[simp] theorem u32_shl_u32 (x : BitVec 32) (y : BitVec 32) : binInt .shl (u32 x) (u32 y) = some (u32 (x <<< y.toNat)) := u32_shl x .u32 y.toNat
@[simp] theorem u32_shl_u64 (x : BitVec 32) (y : BitVec 64) : binInt .shl (u32 x) (u64 y) = some (u32 (x <<< y.toNat)) := u32_shl x .u64 y.toNat
@[simp] theorem u32_eql (x y : BitVec 32) : binInt .eql (u32 x) (u32 y) = some (.bool (decide (x = y))) := by
  simp only [u32_def]; rw [binInt_eql]; simp only [bv_inj]
@[simp] theorem u32_neq (x y : BitVec 32) : binInt .neq (u32 x) (u32 y) = some (.bool (decide (x ≠ y))) := by
  simp only [u32_def]; rw [binInt_neq]; simp only [bv_inj, ne_eq]
@[simp] theorem u32_lss (x y : BitVec 32) : binInt .lss (u32 x) (u32 y) = some (.bool (decide (x.toNat < y.toNat))) := by
  simp only [u32_def]; rw [binInt_lss]; simp only [Int.ofNat_lt]
@[simp] theorem u32_leq (x y : BitVec 32) : binInt .leq (u32 x) (u32 y) = some (.bool (decide (x.toNat ≤ y.toNat))) := by
  simp only [u32_def]; rw [binInt_leq]; simp only [Int.ofNat_le]
@[simp] theorem u32_gtr (x y : BitVec 32) : binInt .gtr (u32 x) (u32 y) = some (.bool (decide (y.toNat < x.toNat))) := by
  simp only [u32_def]; rw [binInt_gtr]; simp only [Int.ofNat_lt]
@[simp] theorem u32_geq (x y : BitVec 32) : binInt .geq (u32 x) (u32 y) = some (.bool (decide (y.toNat ≤ x.toNat))) := by
  simp only [u32_def]; rw [binInt_geq]; simp only [Int.ofNat_le]
@[simp] theorem u32_quo (x y : BitVec 32) (h : y ≠ 0#32) : binInt .quo (u32 x) (u32 y) = some (u32 (x / y)) := by
  simp only [u32_def]; rw [binInt_quo _ _ _ (fun k => h (BitVec.eq_of_toNat_eq (by have : y.toNat = 0 := (by exact_mod_cast k); simpa using this))), ← Int.ofNat_tdiv, ← BitVec.toNat_udiv]
  exact congrArg (fun z => some (Value.int .u32 z)) (wrap_bv .u32 rfl _)
@[simp] theorem u32_rem (x y : BitVec 32) (h : y ≠ 0#32) : binInt .rem (u32 x) (u32 y) = some (u32 (x % y)) := by
  simp only [u32_def]; rw [binInt_rem _ _ _ (fun k => h (BitVec.eq_of_toNat_eq (by have : y.toNat = 0 := (by exact_mod_cast k); simpa using this))), ← Int.ofNat_tmod, ← BitVec.toNat_umod]
@[simp] theorem u32_to_u8 (x : BitVec 32) : convInt .u8 (u32 x) = some (u8 (x.setWidth 8)) := by
  simp only [u8_def, u16_def, u32_def, u64_def]; rw [convInt_int, wrap_ofInt .u8 rfl]; simp only [IntKind.bits, BitVec.ofInt_natCast, BitVec.ofNat_toNat]
@[simp] theorem u32_to_u16 (x : BitVec 32) : convInt .u16 (u32 x) = some (u16 (x.setWidth 16)) := by
  simp only [u8_def, u16_def, u32_def, u64_def]; rw [convInt_int, wrap_ofInt .u16 rfl]; simp only [IntKind.bits, BitVec.ofInt_natCast, BitVec.ofNat_toNat]
@[simp] theorem u32_to_u32 (x : BitVec 32) : convInt .u32 (u32 x) = some (u32 (x.setWidth 32)) := by
  simp only [u8_def, u16_def, u32_def, u64_def]; rw [convInt_int, wrap_ofInt .u32 rfl]; simp only [IntKind.bits, BitVec.ofInt_natCast, BitVec.ofNat_toNat]
@[simp] theorem u32_to_u64 (x : BitVec 32) : convInt .u64 (u32 x) = some (u64 (x.setWidth 64)) := by
  simp only [u8_def, u16_def, u32_def, u64_def]; rw [convInt_int, wrap_ofInt .u64 rfl]; simp only [IntKind.bits, BitVec.ofInt_natCast, BitVec.ofNat_toNat]
@[simp] theorem u32_to_i64 (x : BitVec 32) : convInt .i64 (u32 x) = some (vi (x.toNat : Int)) := by
  have := x.isLt
  simp only [u32_def]; rw [convInt_int, wrap_i64 (by omega) (by omega)]
@[simp] theorem i64_to_u32 (n : Int) : convInt .u32 (vi n) = some (u32 (BitVec.ofInt 32 n)) := by
  simp only [u32_def]; rw [convInt_int, wrap_ofInt .u32 rfl]; simp only [IntKind.bits]
@[simp] theorem u64_lit (n : Nat) (h : n < 2 ^ 64) : (.int .u64 (no_index (OfNat.ofNat n)) : Value) = u64 (BitVec.ofNat 64 n) := by
  rw [u64_def, BitVec.toNat_ofNat, Nat.mod_eq_of_lt h]; rfl
@[simp] theorem u64_lit0 : (.int .u64 0 : Value) = u64 0#64 := rfl
@[simp] theorem u64_lit1 : (.int .u64 1 : Value) = u64 1#64 := rfl
@[simp] theorem defd_u64 (x : BitVec 64) : defd (u64 x) = true := rfl
@[simp] theorem plain1_u64 (x : BitVec 64) : plain1 (u64 x) = true := rfl
@[simp] theorem cells_u64 (x : BitVec 64) : (u64 x).cells = #[u64 x] := rfl
@[simp] theorem u64_inj (x y : BitVec 64) : u64 x = u64 y ↔ x = y := by
  simp only [u64_def, Value.int.injEq, true_and, bv_inj]
@[simp] theorem same_u64 (x y : BitVec 64) : sameCell 0 (u64 x) (u64 y) = some (decide (x = y)) := by
  simp only [u64_def, sameCell, if_true]; congr 1; rw [Bool.eq_iff_iff]; simp [bv_inj, BitVec.toNat_inj]
@[simp] theorem ixSlc_u64 (sz : Nat) (v : Value) (x : BitVec 64) : ixSlc sz v (u64 x) = ixSlc sz v (vi (x.toNat : Int)) := by
  simp only [u64_def]; cases v <;> first | rfl | (rename_i a; cases a <;> rfl) | (rename_i a n c; cases a <;> rfl)
@[simp] theorem ixArr_u64 (len sz : Nat) (v : Value) (x : BitVec 64) : ixArr len sz v (u64 x) = ixArr len sz v (vi (x.toNat : Int)) := by
  simp only [u64_def]; cases v <;> first | rfl | (rename_i a; cases a <;> rfl) | (rename_i a n c; cases a <;> rfl)
@[simp] theorem ixStr_u64 (v : Value) (x : BitVec 64) : ixStr v (u64 x) = ixStr v (vi (x.toNat : Int)) := by
  simp only [u64_def]; cases v <;> first | rfl | (rename_i a; cases a <;> rfl) | (rename_i a n c; cases a <;> rfl)
@[simp] theorem u64_add (x y : BitVec 64) : binInt .add (u64 x) (u64 y) = some (u64 (x + y)) := by
  simp only [u64_def]; rw [binInt_add, wrap_ofInt .u64 rfl]; simp only [IntKind.bits, BitVec.ofInt_add, bv_ofInt_nat]
@[simp] theorem u64_sub (x y : BitVec 64) : binInt .sub (u64 x) (u64 y) = some (u64 (x - y)) := by
  simp only [u64_def]; rw [binInt_sub, wrap_ofInt .u64 rfl]; simp only [IntKind.bits, bv_ofInt_sub, bv_ofInt_nat]
@[simp] theorem u64_mul (x y : BitVec 64) : binInt .mul (u64 x) (u64 y) = some (u64 (x * y)) := by
  simp only [u64_def]; rw [binInt_mul, wrap_ofInt .u64 rfl]; simp only [IntKind.bits, BitVec.ofInt_mul, bv_ofInt_nat]
@[simp] theorem u64_and (x y : BitVec 64) : binInt .and (u64 x) (u64 y) = some (u64 (x &&& y)) := by
  simp only [u64_def]; rw [binInt_and]; simp only [IntKind.bits, bv_ofInt_nat]; exact congrArg (fun z => some (Value.int .u64 z)) (wrap_bv .u64 rfl _)
@[simp] theorem u64_or (x y : BitVec 64) : binInt .or (u64 x) (u64 y) = some (u64 (x ||| y)) := by
  simp only [u64_def]; rw [binInt_or]; simp only [IntKind.bits, bv_ofInt_nat]; exact congrArg (fun z => some (Value.int .u64 z)) (wrap_bv .u64 rfl _)
@[simp] theorem u64_xor (x y : BitVec 64) : binInt .xor (u64 x) (u64 y) = some (u64 (x ^^^ y)) := by
  simp only [u64_def]; rw [binInt_xor]; simp only [IntKind.bits, bv_ofInt_nat]; exact congrArg (fun z => some (Value.int .u64 z)) (wrap_bv .u64 rfl _)
@[simp] theorem u64_andNot (x y : BitVec 64) : binInt .andNot (u64 x) (u64 y) = some (u64 (x &&& ~~~y)) := by
  simp only [u64_def]; rw [binInt_andNot]; simp only [IntKind.bits, bv_ofInt_nat]; exact congrArg (fun z => some (Value.int .u64 z)) (wrap_bv .u64 rfl _)
@[simp] theorem u64_shr (x : BitVec 64) (k : IntKind) (n : Nat) : binInt .shr (u64 x) (.int k (n : Int)) = some (u64 (x >>> n)) := by
  have h : ¬ ((n : Int) < 0) := by omega
  simp only [u64_def, binInt, h, if_false, Int.toNat_natCast, IntKind.bits, bv_shr]
@[simp] theorem u64_shl (x : BitVec 64) (k : IntKind) (n : Nat) : binInt .shl (u64 x) (.int k (n : Int)) = some (u64 (x <<< n)) := by
  have h : ¬ ((n : Int) < 0) := by omega
  simp only [u64_def, binInt, h, if_false, Int.toNat_natCast]; rw [wrap_ofInt .u64 rfl]; simp only [IntKind.bits, bv_shl]
@[simp] theorem u64_shr_lit (x : BitVec 64) (k : IntKind) (n : Nat) : binInt .shr (u64 x) (.int k (no_index (OfNat.ofNat n))) = some (u64 (x >>> n)) := u64_shr x k n
@[simp] theorem u64_shr_u8 (x : BitVec 64) (y : BitVec 8) : binInt .shr (u64 x) (u8 y) = some (u64 (x >>> y.toNat)) := u64_shr x .u8 y.toNat
@[simp] theorem u64_shr_u16 (x : BitVec 64) (y : BitVec 16) : binInt .shr (u64 x) (u16 y) = some (u64 (x >>> y.toNat)) := u64_shr x .u16 y.toNat
@[simp] theorem u64_shr_u32 (x : BitVec 64) (y : BitVec 32) : binInt .shr (u64 x) (u32 y) = some (u64 (x >>> y.toNat)) := u64_shr x .u32 y.toNat
@[simp] theorem u64_shr_u64 (x : BitVec 64) (y : BitVec 64) : binInt .shr (u64 x) (u64 y) = some (u64 (x >>> y.toNat)) := u64_shr x .u64 y.toNat
@[simp] theorem u64_shl_lit (x : BitVec 64) (k : IntKind) (n : Nat) : binInt .shl (u64 x) (.int k (no_index (OfNat.ofNat n))) = some (u64 (x <<< n)) := u64_shl x k n
@[simp] theorem u64_shl_u8 (x : BitVec 64) (y : BitVec 8) : binInt .shl (u64 x) (u8 y) = some (u64 (x <<< y.toNat)) := u64_shl x .u8 y.toNat
@[simp] theorem u64_shl_u16 (x : BitVec 64) (y : BitVec 16) : binInt .shl (u64 x) (u16 y) = some (u64 (x <<< y.toNat)) := u64_shl x .u16 y.toNat
@[simp] theorem u64_shl_u32 (x : BitVec 64) (y : BitVec 32) : binInt .shl (u64 x) (u32 y) = some (u64 (x <<< y.toNat)) := u64_shl x .u32 y.toNat
@[simp] theorem u64_shl_u64 (x : BitVec 64) (y : BitVec 64) : binInt .shl (u64 x) (u64 y) = some (u64 (x <<< y.toNat)) := u64_shl x .u64 y.toNat
@[simp] theorem u64_eql (x y : BitVec 64) : binInt .eql (u64 x) (u64 y) = some (.bool (decide (x = y))) := by
  simp only [u64_def]; rw [binInt_eql]; simp only [bv_inj]
@[simp] theorem u64_neq (x y : BitVec 64) : binInt .neq (u64 x) (u64 y) = some (.bool (decide (x ≠ y))) := by
  simp only [u64_def]; rw [binInt_neq]; simp only [bv_inj, ne_eq]
@[simp] theorem u64_lss (x y : BitVec 64) : binInt .lss (u64 x) (u64 y) = some (.bool (decide (x.toNat < y.toNat))) := by
  simp only [u64_def]; rw [binInt_lss]; simp only [Int.ofNat_lt]
@[simp] theorem u64_leq (x y : BitVec 64) : binInt .leq (u64 x) (u64 y) = some (.bool (decide (x.toNat ≤ y.toNat))) := by
  simp only [u64_def]; rw [binInt_leq]; simp only [Int.ofNat_le]
@[simp] theorem u64_gtr (x y : BitVec 64) : binInt .gtr (u64 x) (u64 y) = some (.bool (decide (y.toNat < x.toNat))) := by
  simp only [u64_def]; rw [binInt_gtr]; simp only [Int.ofNat_lt]
@[simp] theorem u64_geq (x y : BitVec 64) : binInt .geq (u64 x) (u64 y) = some (.bool (decide (y.toNat ≤ x.toNat))) := by
  simp only [u64_def]; rw [binInt_geq]; simp only [Int.ofNat_le]
@[simp] theorem u64_quo (x y : BitVec 64) (h : y ≠ 0#64) : binInt .quo (u64 x) (u64 y) = some (u64 (x / y)) := by
  simp only [u64_def]; rw [binInt_quo _ _ _ (fun k => h (BitVec.eq_of_toNat_eq (by have : y.toNat = 0 := (by exact_mod_cast k); simpa using this))), ← Int.ofNat_tdiv, ← BitVec.toNat_udiv]
  exact congrArg (fun z => some (Value.int .u64 z)) (wrap_bv .u64 rfl _)
@[simp] theorem u64_rem (x y : BitVec 64) (h : y ≠ 0#64) : binInt .rem (u64 x) (u64 y) = some (u64 (x % y)) := by
  simp only [u64_def]; rw [binInt_rem _ _ _ (fun k => h (BitVec.eq_of_toNat_eq (by have : y.toNat = 0 := (by exact_mod_cast k); simpa using this))), ← Int.ofNat_tmod, ← BitVec.toNat_umod]
@[simp] theorem u64_to_u8 (x : BitVec 64) : convInt .u8 (u64 x) = some (u8 (x.setWidth 8)) := by
  simp only [u8_def, u16_def, u32_def, u64_def]; rw [convInt_int, wrap_ofInt .u8 rfl]; simp only [IntKind.bits, BitVec.ofInt_natCast, BitVec.ofNat_toNat]
@[simp] theorem u64_to_u16 (x : BitVec 64) : convInt .u16 (u64 x) = some (u16 (x.setWidth 16)) := by
  simp only [u8_def, u16_def, u32_def, u64_def]; rw [convInt_int, wrap_ofInt .u16 rfl]; simp only [IntKind.bits, BitVec.ofInt_natCast, BitVec.ofNat_toNat]
@[simp] theorem u64_to_u32 (x : BitVec 64) : convInt .u32 (u64 x) = some (u32 (x.setWidth 32)) := by
  simp only [u8_def, u16_def, u32_def, u64_def]; rw [convInt_int, wrap_ofInt .u32 rfl]; simp only [IntKind.bits, BitVec.ofInt_natCast, BitVec.ofNat_toNat]
@[simp] theorem u64_to_u64 (x : BitVec 64) : convInt .u64 (u64 x) = some (u64 (x.setWidth 64)) := by
  simp only [u8_def, u16_def, u32_def, u64_def]; rw [convInt_int, wrap_ofInt .u64 rfl]; simp only [IntKind.bits, BitVec.ofInt_natCast, BitVec.ofNat_toNat]
@[simp] theorem i64_to_u64 (n : Int) : convInt .u64 (vi n) = some (u64 (BitVec.ofInt 64 n)) := by
  simp only [u64_def]; rw [convInt_int, wrap_ofInt .u64 rfl]; simp only [IntKind.bits]
end Go.AM
