/- THE ABSTRACT MACHINE: strings as lists of bytes. -/
import Derived.Test.YtjpdppohflailaaAmRows
import Derived.Laws.Strings
set_option linter.all false
namespace Go.AM

def str (l : List UInt8) : Value := .string ⟨l.toArray⟩
theorem str_def (l : List UInt8) : str l = .string ⟨l.toArray⟩ := rfl
@[simp] theorem str_lit (l : List UInt8) : (.string ⟨l.toArray⟩ : Value) = str l := rfl
theorem str_of (s : ByteArray) : (.string s : Value) = str s.data.toList := by simp [str_def]
@[simp] theorem str_inj (a b : List UInt8) : str a = str b ↔ a = b := by
  simp only [str_def, Value.string.injEq, ByteArray.mk.injEq]
  exact ⟨fun h => by simpa using congrArg Array.toList h, fun h => by rw [h]⟩
@[simp] theorem defd_str (l : List UInt8) : defd (str l) = true := rfl
@[simp] theorem plain1_str (l : List UInt8) : plain1 (str l) = true := rfl
@[simp] theorem vcells_str (l : List UInt8) : vcells (str l) = [str l] := rfl
@[simp] theorem cells_str (l : List UInt8) : (str l).cells = #[str l] := rfl
theorem toList_mk (l : List UInt8) : (⟨l.toArray⟩ : ByteArray).toList = l := by rw [ByteArray.toList_eq]
@[simp] theorem size_mk (l : List UInt8) : (⟨l.toArray⟩ : ByteArray).size = l.length := by simp [ByteArray.size]
@[simp] theorem lenStr_s (l : List UInt8) : lenStr (str l) = some (vi l.length) := by simp only [str_def, lenStr, size_mk]
@[simp] theorem binStr_eql (a b : List UInt8) : binStr .eql (str a) (str b) = some (.bool (decide (a = b))) := by
  simp only [str_def, binStr, toList_mk]; congr 2; rw [Bool.eq_iff_iff]; simp
@[simp] theorem binStr_neq (a b : List UInt8) : binStr .neq (str a) (str b) = some (.bool (decide (a ≠ b))) := by
  simp only [str_def, binStr, toList_mk]; congr 2; rw [Bool.eq_iff_iff]; simp
@[simp] theorem binStr_lss (a b : List UInt8) : binStr .lss (str a) (str b) = some (.bool (Op.bytesLess a b)) := by simp only [str_def, binStr, toList_mk]
theorem binStr_add (a b : List UInt8) (h : a.length + b.length < 2 ^ 63) : binStr .add (str a) (str b) = some (str (a ++ b)) := by
  simp only [str_def, binStr, size_mk]
  rw [if_pos h]
  congr 2
@[simp] theorem same_str (x y : List UInt8) : sameCell 1 (str x) (str y) = some (decide (x = y)) := by
  simp only [str_def, sameCell]; congr 1; rw [Bool.eq_iff_iff]
  show (x.toArray == y.toArray) = true ↔ _
  simp
@[simp] theorem same_bool (x y : Bool) : sameCell 2 (.bool x) (.bool y) = some (decide (x = y)) := by
  simp only [sameCell]; congr 1
@[simp] theorem same_i64 (x y : Int) : sameCell 0 (vi x) (vi y) = some (decide (x = y)) := by
  simp only [sameCell, if_true]; congr 1
theorem ixStr_s (l : List UInt8) (i : Nat) (h : i < l.length) : ixStr (str l) (vi i) = some (u8 l[i].toBitVec) := by
  simp only [str_def, ixStr]
  rw [if_pos (by omega)]
  simp only [Int.toNat_natCast]
  rw [getElem?_pos _ _ (by simpa using h)]
  rfl
@[simp] theorem byteOfV_u8 (x : BitVec 8) : byteOfV (u8 x) = some (UInt8.ofBitVec x) := by
  simp only [u8_def, byteOfV, Int.toNat_natCast]
  congr 1
  apply UInt8.toBitVec_inj.1
  simp
theorem mapM_bytes (l : List (BitVec 8)) : (l.map u8).mapM byteOfV = some (l.map UInt8.ofBitVec) := by
  induction l with
  | nil => rfl
  | cons x l ih => simp [List.mapM_cons, ih]
theorem strOf_vals {H : AH} {v : Value} {l : List (BitVec 8)} (h : Vals H v (l.map u8)) : strOf v H = some (str (l.map UInt8.ofBitVec)) := by
  rcases h.at_ with ⟨hn, c, rfl⟩ | ⟨b, o, c, rfl, _, _, h4⟩
  · simp at hn; subst hn
    cases c <;> rfl
  · simp only [List.length_map, Nat.mul_one, flatten_single] at h4
    by_cases hz : l.length = 0
    · have : l = [] := List.eq_nil_of_length_eq_zero hz
      subst this; rfl
    simp only [strOf, Option.isSome_none, Bool.false_eq_true, if_false, List.length_map, hz, h4, Option.bind_some, mapM_bytes, Option.map_some]
    rfl
@[simp] theorem sameCells_nil : sameCells [] [] [] = some true := rfl
@[simp] theorem sameCells_cons (k : Nat) (ks : List Nat) (x y : Value) (xs ys : List Value) : sameCells (k :: ks) (x :: xs) (y :: ys) = (sameCell k x y).bind fun b => (sameCells ks xs ys).map (b && ·) := rfl
@[simp] theorem binAgg_eql (ks : List Nat) (a b : List Value) : binAgg ks .eql (.agg a.toArray) (.agg b.toArray) = (sameCells ks a b).map .bool := by simp [binAgg]
@[simp] theorem binAgg_neq (ks : List Nat) (a b : List Value) : binAgg ks .neq (.agg a.toArray) (.agg b.toArray) = (sameCells ks a b).map fun t => .bool !t := by simp [binAgg]
end Go.AM
