/- CONTRACTS ON THE PRINTED FUNCTIONS: Insn. -/
import Derived.Test.YtjpdppohflailaaF
import Derived.Test.YtjpdppohflailaaAmStr
import Derived.Test.YtjpdppohflailaaAmTyped
set_option linter.all false
/- contracts: insn, ref03 (insn) -/
namespace Go.AM
variable {E : Sy} {H : AH} {Q : Value → AH → Prop}

theorem land_high (x k w : Nat) (h : x < 2 ^ w) : x &&& ((2 ^ (w - k) - 1) <<< k) = (x / 2 ^ k) * 2 ^ k := by
  rw [← Nat.shiftLeft_eq, ← Nat.shiftRight_eq_div_pow]
  apply Nat.eq_of_testBit_eq
  intro i
  simp only [Nat.testBit_and, Nat.testBit_shiftLeft, Nat.testBit_shiftRight, Nat.testBit_two_pow_sub_one]
  by_cases hk : k ≤ i
  · by_cases hw : i < w
    · simp [hk, show i - k < w - k by omega, show k + (i - k) = i by omega]
    · have : x.testBit i = false := Nat.testBit_lt_two_pow (Nat.lt_of_lt_of_le h (Nat.pow_le_pow_right (by omega) (by omega)))
      simp [hk, this, show k + (i - k) = i by omega]
  · simp [hk]

def iclass (c : BitVec 16) : BitVec 16 := c &&& 7#16
theorem S.insn_Class (hE : Fold E) (c : BitVec 16) (hQ : Q (u16 (iclass c)) H) : E.call (E.fid i.insn_Class) [u16 c] H Q := by
  apply hE.insn_Class
  simp [F.insn_Class]
  exact hQ

def inames : List (BitVec 16) := [32, 0, 96, 128, 1, 97, 129, 2, 3, 6, 22, 7, 135, 5, 132]
theorem S.insn_Known_j3 (hE : Fold E) (c : BitVec 16) (t : Bool) (hQ : Q (vb (t && decide (iclass c = 5#16))) H) : F.insn_Known_j3 E Q (u16 c) (vb t) H := by
  unfold F.insn_Known_j3
  cases t with
  | false => simpa using hQ
  | true =>
    simp only [ifB_true]
    apply S.insn_Class hE
    simp
    simpa using hQ
def iknown2 (c : BitVec 16) : Bool := [16, 32, 48, 64].contains (c &&& ~~~((c &&& 8#16) ||| 7#16)) && decide (iclass c = 5#16)
theorem S.insn_Known_j2 (hE : Fold E) (c : BitVec 16) (hQ : Q (vb (iknown2 c)) H) : F.insn_Known_j2 E Q (u16 c) (u16 (c &&& 8#16)) H := by
  simp [F.insn_Known_j2]
  unfold iknown2 at hQ
  iterate 3
    refine ifB_split (fun h => S.insn_Known_j3 hE c (decide _) (by simpa [h] using hQ)) (fun h => ?_)
    try simp
  exact S.insn_Known_j3 hE c (decide _) (by simpa [*] using hQ)

def iknown4 (c : BitVec 16) : Bool := decide (iclass c = 4#16) || iknown2 c
theorem S.insn_Known_j4 (hE : Fold E) (c : BitVec 16) (t : Bool) (hQ : Q (vb ((t && decide (iclass c = 4#16)) || iknown2 c)) H) : F.insn_Known_j4 E Q (u16 c) (u16 (c &&& 8#16)) (vb t) H := by
  unfold F.insn_Known_j4
  cases t with
  | false => exact S.insn_Known_j2 hE c (by simpa using hQ)
  | true =>
    simp only [ifB_true]
    apply S.insn_Class hE
    simp
    refine ifB_split (fun h => by simpa [h] using hQ) (fun h => S.insn_Known_j2 hE c (by simpa [h] using hQ))

def iknown1 (c : BitVec 16) : Bool := ([0, 16, 32, 48, 64, 80, 96, 112, 160].contains (c &&& ~~~((c &&& 8#16) ||| 7#16)) && decide (iclass c = 4#16)) || iknown2 c
theorem S.insn_Known_j1 (hE : Fold E) (c : BitVec 16) (t : Bool) (hQ : Q (vb (t || iknown1 c)) H) : F.insn_Known_j1 E Q (u16 c) (vb t) H := by
  unfold F.insn_Known_j1
  cases t with
  | true => simpa using hQ
  | false =>
    simp
    unfold iknown1 at hQ
    iterate 8
      refine ifB_split (fun h => S.insn_Known_j4 hE c (decide _) (by simpa [h] using hQ)) (fun h => ?_)
      try simp
    exact S.insn_Known_j4 hE c (decide _) (by simpa [*] using hQ)
theorem S.insn_Known (hE : Fold E) (c : BitVec 16) (hQ : Q (vb (inames.contains c || iknown1 c)) H) : E.call (E.fid i.insn_Known) [u16 c] H Q := by
  apply hE.insn_Known
  simp [F.insn_Known]
  unfold inames at hQ
  iterate 14
    refine ifB_split (fun h => S.insn_Known_j1 hE c (decide _) (by simpa [h] using hQ)) (fun h => ?_)
    try simp
  exact S.insn_Known_j1 hE c (decide _) (by simpa [*] using hQ)
end Go.AM
