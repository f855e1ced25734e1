/- CONTRACTS ON THE PRINTED FUNCTIONS: RecordPure. -/
import Derived.Test.YtjpdppohflailaaF
import Derived.Test.YtjpdppohflailaaAmStr
import Derived.Test.YtjpdppohflailaaAmTyped
set_option linter.all false
namespace Go.AM
/-! ### bytes of words -/
def byteAt {w : Nat} (n : BitVec w) (i : Nat) : BitVec 8 := (n >>> (8 * i)).setWidth 8
def bytes4 (w : BitVec 32) : List (BitVec 8) := [byteAt w 0, byteAt w 1, byteAt w 2, byteAt w 3]
def bytesN (n : BitVec 64) (k : Nat) : List (BitVec 8) := (List.range k).map (byteAt n)
def lo32 (n : BitVec 64) : BitVec 32 := n.setWidth 32
def hi32 (n : BitVec 64) : BitVec 32 := (n >>> 32).setWidth 32
theorem byteAt_get {w : Nat} (n : BitVec w) (i j : Nat) : (byteAt n i).getLsbD j = (decide (j < 8) && n.getLsbD (8 * i + j)) := by
  simp [byteAt, BitVec.getLsbD_setWidth, BitVec.getLsbD_ushiftRight]
theorem byteAt_lo (n : BitVec 64) (i : Nat) (h : i < 4) : byteAt (lo32 n) i = byteAt n i := by
  apply BitVec.eq_of_getLsbD_eq
  intro j hj
  rw [byteAt_get, byteAt_get]
  simp [lo32, BitVec.getLsbD_setWidth, show 8 * i + j < 32 by omega]
theorem byteAt_hi (n : BitVec 64) (i : Nat) (h : i < 4) : byteAt (hi32 n) i = byteAt n (4 + i) := by
  apply BitVec.eq_of_getLsbD_eq
  intro j hj
  rw [byteAt_get, byteAt_get]
  simp [hi32, BitVec.getLsbD_setWidth, BitVec.getLsbD_ushiftRight, show 8 * i + j < 32 by omega]
  rw [show 32 + (8 * i + j) = 8 * (4 + i) + j by omega]
theorem byteAt_up (n : BitVec 32) (i : Nat) (h : i < 4) : byteAt (n.setWidth 64) i = byteAt n i := by
  apply BitVec.eq_of_getLsbD_eq
  intro j hj
  rw [byteAt_get, byteAt_get]
  simp [BitVec.getLsbD_setWidth, show 8 * i + j < 64 by omega]
theorem bytesN_4 (n : BitVec 32) : bytesN (n.setWidth 64) 4 = bytes4 n := by
  simp only [bytesN, List.range, List.range.loop, List.map, bytes4]
  rw [byteAt_up _ _ (by omega), byteAt_up _ _ (by omega), byteAt_up _ _ (by omega), byteAt_up _ _ (by omega)]
theorem bytesN_8 (n : BitVec 64) : bytesN n 8 = bytes4 (lo32 n) ++ bytes4 (hi32 n) := by
  simp only [bytesN, List.range, List.range.loop, List.map, bytes4, List.cons_append, List.nil_append]
  rw [byteAt_lo _ _ (by omega), byteAt_lo _ _ (by omega), byteAt_lo _ _ (by omega), byteAt_lo _ _ (by omega), byteAt_hi _ _ (by omega), byteAt_hi _ _ (by omega), byteAt_hi _ _ (by omega), byteAt_hi _ _ (by omega)]
/-- A word put together of its bytes, the lowest first. -/
def takeW (l : List (BitVec 8)) : BitVec 64 := (l.zipIdx).foldl (fun (acc : BitVec 64) (p : BitVec 8 × Nat) => acc ||| (p.1.setWidth 64 <<< (8 * p.2))) 0#64
theorem takeW_snoc (l : List (BitVec 8)) (b : BitVec 8) : takeW (l ++ [b]) = takeW l ||| (b.setWidth 64 <<< (8 * l.length)) := by
  simp [takeW, List.zipIdx_append]
theorem takeW_get : ∀ (n : Nat) (l : List (BitVec 8)), l.length = n → ∀ p, p < 64 → (takeW l).getLsbD p = ((l[p / 8]?).map fun b => b.getLsbD (p % 8)).getD false := by
  intro n
  induction n with
  | zero => intro l hl p _; have := List.eq_nil_of_length_eq_zero hl; subst this; simp [takeW]
  | succ n ih =>
    intro l hl p hp
    obtain ⟨l', b, rfl⟩ : ∃ l' b, l = l' ++ [b] := by
      refine ⟨l.dropLast, l.getLast (by intro e; subst e; simp at hl), (List.dropLast_concat_getLast _).symm⟩
    have hn : l'.length = n := by simpa using hl
    rw [takeW_snoc, BitVec.getLsbD_or, ih l' hn p hp, hn]
    by_cases h1 : p / 8 < n
    · rw [List.getElem?_append_left (by omega)]
      have : ¬ 8 * n ≤ p := by omega
      simp [BitVec.getLsbD_shiftLeft, show p < 8 * n by omega]
    · rw [List.getElem?_eq_none (l := l') (by omega)]
      by_cases h2 : p / 8 = n
      · rw [List.getElem?_append_right (by omega), hn, h2]
        simp [BitVec.getLsbD_shiftLeft, BitVec.getLsbD_setWidth, hp, show ¬ p < 8 * n by omega, show p - 8 * n < 64 by omega]
        rw [show p - 8 * n = p % 8 by omega]
      · rw [List.getElem?_eq_none (by simp; omega)]
        simp [BitVec.getLsbD_shiftLeft, BitVec.getLsbD_setWidth, hp, show ¬ p < 8 * n by omega, show p - 8 * n < 64 by omega]
        exact BitVec.getLsbD_of_ge _ _ (by omega)
theorem takeW_bytes8 (n : BitVec 64) : takeW (bytesN n 8) = n := by
  apply BitVec.eq_of_getLsbD_eq
  intro p hp
  rw [takeW_get 8 _ (by simp [bytesN]) p hp]
  simp only [bytesN]
  rw [List.getElem?_map, List.getElem?_range (by omega)]
  simp only [Option.map_some, Option.getD_some]
  rw [byteAt_get]
  simp [show p % 8 < 8 by omega, show 8 * (p / 8) + p % 8 = p by omega]
theorem takeW_bytes4 (n : BitVec 32) : (takeW (bytes4 n)).setWidth 32 = n := by
  apply BitVec.eq_of_getLsbD_eq
  intro p hp
  rw [BitVec.getLsbD_setWidth, ← bytesN_4, takeW_get 4 _ (by simp [bytesN]) p (by omega)]
  simp only [bytesN]
  rw [List.getElem?_map, List.getElem?_range (by omega)]
  simp only [Option.map_some, Option.getD_some]
  rw [byteAt_get, BitVec.getLsbD_setWidth]
  simp [show p % 8 < 8 by omega, show 8 * (p / 8) + p % 8 = p by omega, hp, show p < 64 by omega]
theorem byteAt_takeW (l : List (BitVec 8)) (i : Nat) (hi : i < l.length) (h8 : i < 8) : byteAt (takeW l) i = l[i] := by
  apply BitVec.eq_of_getLsbD_eq
  intro j hj
  rw [byteAt_get, takeW_get _ l rfl _ (by omega)]
  have e1 : (8 * i + j) / 8 = i := by omega
  have e2 : (8 * i + j) % 8 = j := by omega
  rw [e1, e2]
  simp [hi, hj]
theorem bytesN_takeW (l : List (BitVec 8)) (h8 : l.length ≤ 8) : bytesN (takeW l) l.length = l := by
  apply List.ext_getElem (by simp [bytesN])
  intro i h1 h2
  simp only [bytesN, List.getElem_map, List.getElem_range]
  exact byteAt_takeW l i h2 (by omega)
theorem join64 (n : BitVec 64) : ((hi32 n).setWidth 64 <<< 32) ||| (lo32 n).setWidth 64 = n := by
  apply BitVec.eq_of_getLsbD_eq
  intro p hp
  simp only [BitVec.getLsbD_or, BitVec.getLsbD_shiftLeft, BitVec.getLsbD_setWidth, hi32, lo32, BitVec.getLsbD_ushiftRight]
  by_cases h : p < 32
  · simp [h, hp]
  · simp [h, hp, show p - 32 < 64 by omega, show p - 32 < 32 by omega, show 32 + (p - 32) = p by omega]
theorem or4 (n : BitVec 32) : ((byteAt n 0).setWidth 32 ||| (byteAt n 1).setWidth 32 <<< 8 ||| (byteAt n 2).setWidth 32 <<< 16 ||| (byteAt n 3).setWidth 32 <<< 24) = n := by
  apply BitVec.eq_of_getLsbD_eq
  intro p hp
  simp only [BitVec.getLsbD_or, BitVec.getLsbD_shiftLeft, BitVec.getLsbD_setWidth, byteAt_get]
  by_cases h1 : p < 8
  · simp [h1, hp, show p < 16 by omega, show p < 24 by omega]
  by_cases h2 : p < 16
  · simp [h1, h2, hp, show p < 24 by omega, show p - 8 < 32 by omega, show p - 8 < 8 by omega, show 8 + (p - 8) = p by omega]
  by_cases h3 : p < 24
  · simp [h1, h2, h3, hp, show ¬ p - 8 < 8 by omega, show p - 16 < 32 by omega, show p - 16 < 8 by omega, show 16 + (p - 16) = p by omega]
  · simp [h1, h2, h3, hp, show ¬ p - 8 < 8 by omega, show ¬ p - 16 < 8 by omega, show p - 24 < 32 by omega, show p - 24 < 8 by omega, show 24 + (p - 24) = p by omega]
theorem mod32 (n : BitVec 64) : (n % 4294967296#64).setWidth 32 = lo32 n := by
  apply BitVec.eq_of_toNat_eq
  simp [lo32, BitVec.toNat_umod]
theorem div32 (n : BitVec 64) : (n / 4294967296#64).setWidth 32 = hi32 n := by
  apply BitVec.eq_of_toNat_eq
  simp [hi32, BitVec.toNat_udiv, Nat.shiftRight_eq_div_pow]
end Go.AM
