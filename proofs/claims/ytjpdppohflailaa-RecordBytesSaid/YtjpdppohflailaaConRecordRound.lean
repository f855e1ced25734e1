/- CONTRACTS ON THE PRINTED FUNCTIONS: RecordRound. -/
import Derived.Test.YtjpdppohflailaaF
import Derived.Test.YtjpdppohflailaaAmStr
import Derived.Test.YtjpdppohflailaaAmTyped
import Derived.Test.YtjpdppohflailaaConRecordOf
set_option linter.all false
namespace Go.AM
variable {E : Sy} {H : AH} {Q : Value → AH → Prop}
theorem bytes4_lo (n : BitVec 64) : bytes4 (lo32 n) = bytesN n 4 := by
  simp only [bytesN, List.range, List.range.loop, List.map, bytes4]
  rw [byteAt_lo _ _ (by omega), byteAt_lo _ _ (by omega), byteAt_lo _ _ (by omega), byteAt_lo _ _ (by omega)]
theorem recOf_bytes (r : RecD) (hr : r.ok) : recOf r.bytes = r := by
  obtain ⟨n, a, t, x0, x1, x2, x3, x4, x5, rfl⟩ := RecD.ok_cases hr
  have h : ∀ x : BitVec 64, takeW (bytes4 (lo32 x) ++ bytes4 (hi32 x)) = x := fun x => by rw [← bytesN_8, takeW_bytes8]
  show (⟨(takeW (bytes4 n)).setWidth 32, (takeW (bytes4 a)).setWidth 32, takeW (bytes4 (lo32 t) ++ bytes4 (hi32 t)), [takeW (bytes4 (lo32 x0) ++ bytes4 (hi32 x0)), takeW (bytes4 (lo32 x1) ++ bytes4 (hi32 x1)), takeW (bytes4 (lo32 x2) ++ bytes4 (hi32 x2)), takeW (bytes4 (lo32 x3) ++ bytes4 (hi32 x3)), takeW (bytes4 (lo32 x4) ++ bytes4 (hi32 x4)), takeW (bytes4 (lo32 x5) ++ bytes4 (hi32 x5))]⟩ : RecD) = _
  simp only [h, takeW_bytes4]
theorem bytes_recOf (l : List (BitVec 8)) (hl : l.length = 64) : (recOf l).bytes = l := by
  have h4 : ∀ m : List (BitVec 8), m.length = 4 → bytes4 ((takeW m).setWidth 32) = m := fun m hm => by
    have := bytes4_lo (takeW m)
    unfold lo32 at this
    rw [this, ← hm]; exact bytesN_takeW m (by omega)
  have h8 : ∀ m : List (BitVec 8), m.length = 8 → bytes4 (lo32 (takeW m)) ++ bytes4 (hi32 (takeW m)) = m := fun m hm => by
    rw [← bytesN_8]
    have := bytesN_takeW m (by omega)
    rwa [hm] at this
  have hc := chunk_flatten (n := 6) (s := 8) (l.drop 16) (by simp; omega)
  have e0 : ∀ (n a : BitVec 32) (t x0 x1 x2 x3 x4 x5 : BitVec 64), RecD.bytes ⟨n, a, t, [x0, x1, x2, x3, x4, x5]⟩ = bytes4 n ++ (bytes4 a ++ ((bytes4 (lo32 t) ++ bytes4 (hi32 t)) ++ ((bytes4 (lo32 x0) ++ bytes4 (hi32 x0)) ++ ((bytes4 (lo32 x1) ++ bytes4 (hi32 x1)) ++ ((bytes4 (lo32 x2) ++ bytes4 (hi32 x2)) ++ ((bytes4 (lo32 x3) ++ bytes4 (hi32 x3)) ++ ((bytes4 (lo32 x4) ++ bytes4 (hi32 x4)) ++ (bytes4 (lo32 x5) ++ bytes4 (hi32 x5))))))))) := fun _ _ _ _ _ _ _ _ _ => rfl
  have e : (recOf l).bytes = l.take 4 ++ ((l.drop 4).take 4 ++ ((l.drop 8).take 8 ++ l.drop 16)) := by
    rw [hc]
    show RecD.bytes ⟨_, _, _, [takeW ((l.drop 16).take 8), takeW ((l.drop 24).take 8), takeW ((l.drop 32).take 8), takeW ((l.drop 40).take 8), takeW ((l.drop 48).take 8), takeW ((l.drop 56).take 8)]⟩ = _
    rw [e0, h4 _ (by simp; omega), h4 _ (by simp; omega), h8 _ (by simp; omega), h8 _ (by simp; omega), h8 _ (by simp; omega), h8 _ (by simp; omega), h8 _ (by simp; omega), h8 _ (by simp; omega), h8 _ (by simp; omega)]
    simp [List.range, List.range.loop]
  rw [e]
  have e1 : (l.drop 8).take 8 ++ l.drop 16 = l.drop 8 := by rw [show l.drop 16 = (l.drop 8).drop 8 by simp]; exact List.take_append_drop ..
  have e2 : (l.drop 4).take 4 ++ l.drop 8 = l.drop 4 := by rw [show l.drop 8 = (l.drop 4).drop 4 by simp]; exact List.take_append_drop ..
  rw [e1, e2, List.take_append_drop]
theorem words_len (r : RecD) (hr : r.ok) : r.words.length = 16 := by
  obtain ⟨n, a, t, x0, x1, x2, x3, x4, x5, rfl⟩ := RecD.ok_cases hr
  rfl
theorem bytes_len (r : RecD) (hr : r.ok) : r.bytes.length = 64 := by
  obtain ⟨n, a, t, x0, x1, x2, x3, x4, x5, rfl⟩ := RecD.ok_cases hr
  rfl
theorem bytes_word (r : RecD) (i : Nat) (hi : i < r.words.length) : (r.bytes.drop (4 * i)).take 4 = bytes4 r.words[i] := by
  have := flatten_part (sz := 4) (r.words.map bytes4) (by intro x hx; obtain ⟨y, _, rfl⟩ := List.mem_map.1 hx; rfl) i (by simpa using hi)
  rw [List.getElem_map] at this
  rw [← this, Nat.mul_comm, RecD.bytes, List.flatMap_def]
theorem bytes_byte (r : RecD) (hr : r.ok) (i k : Nat) (hi : i < 16) (hk : k < 4) : r.bytes[4 * i + k]'(by rw [bytes_len r hr]; omega) = byteAt (r.words[i]'(by rw [words_len r hr]; omega)) k := by
  have h1 := bytes_word r i (by rw [words_len r hr]; omega)
  have h2 := congrArg (fun l => l[k]?) h1
  simp only [List.getElem?_take, hk, if_true, List.getElem?_drop] at h2
  rw [List.getElem?_eq_getElem (by rw [bytes_len r hr]; omega)] at h2
  have h3 : (bytes4 (r.words[i]'(by rw [words_len r hr]; omega)))[k]? = some (byteAt (r.words[i]'(by rw [words_len r hr]; omega)) k) := by
    have : k = 0 ∨ k = 1 ∨ k = 2 ∨ k = 3 := by omega
    rcases this with rfl | rfl | rfl | rfl <;> rfl
  rw [h3] at h2
  simpa using h2
end Go.AM
