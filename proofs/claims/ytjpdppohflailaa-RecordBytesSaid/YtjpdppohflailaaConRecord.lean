/- CONTRACTS ON THE PRINTED FUNCTIONS: Record. -/
import Derived.Test.YtjpdppohflailaaF
import Derived.Test.YtjpdppohflailaaAmStr
import Derived.Test.YtjpdppohflailaaAmTyped
set_option linter.all false
/- contracts: record -/
namespace Go.AM
variable {E : Sy} {H : AH} {Q : Value → AH → Prop}

def akind (a : BitVec 32) : BitVec 32 :=
  if a &&& 4294901760#32 = 327680#32 then 327680#32 else if a &&& 4294901760#32 = 2147221504#32 then 2147221504#32 else if a &&& 4294901760#32 = 2147418112#32 then 2147418112#32 else 2147483648#32
theorem S.record_Action_Kind (hE : Fold E) (a : BitVec 32) (hQ : Q (u32 (akind a)) H) : E.call (E.fid i.record_Action_Kind) [u32 a] H Q := by
  apply hE.record_Action_Kind
  simp [F.record_Action_Kind, F.record_Action_Kind_j1, ifB_dec]
  unfold akind at hQ
  repeat' split at hQ
  all_goals (first | (simp [*]; done) | (simp [*]; exact hQ))

def astrength (a : BitVec 32) : Int :=
  if akind a = 2147483648#32 then 3 else if akind a = 327680#32 then 2 else if akind a = 2147221504#32 then 1 else 0
theorem S.record_Action_strength (hE : Fold E) (a : BitVec 32) (hQ : Q (vi (astrength a)) H) : E.call (E.fid i.record_Action_strength) [u32 a] H Q := by
  apply hE.record_Action_strength
  apply S.record_Action_Kind hE
  simp [ifB_dec]
  unfold astrength at hQ
  repeat' split at hQ
  all_goals (first | (simp [*]; done) | (simp [*]; exact hQ))

def astronger (a b : BitVec 32) : BitVec 32 := if astrength a < astrength b then b else a
theorem S.record_Stronger (hE : Fold E) (a b : BitVec 32) (hQ : Q (u32 (astronger a b)) H) : E.call (E.fid i.record_Stronger) [u32 a, u32 b] H Q := by
  apply hE.record_Stronger
  apply S.record_Action_strength hE
  apply S.record_Action_strength hE
  unfold astronger at hQ
  simp [ifB_dec]
  split at hQ <;> simp [*]

def afail (e : Int) : BitVec 32 := 327680#32 ||| BitVec.ofInt 32 (if 4095 < (if 0 > e then 0 else e) then 4095 else (if 0 > e then 0 else e))
theorem S.record_Fail (hE : Fold E) (e : Int) (hQ : Q (u32 (afail e)) H) : E.call (E.fid i.record_Fail) [vi e] H Q := by
  apply hE.record_Fail
  simp [F.record_Fail]
  exact hQ

def anumber (a : BitVec 32) : Int := if akind a ≠ 327680#32 then 0 else ((a &&& 65535#32).toNat : Int)
theorem S.record_Action_Number (hE : Fold E) (a : BitVec 32) (hQ : Q (vi (anumber a)) H) : E.call (E.fid i.record_Action_Number) [u32 a] H Q := by
  apply hE.record_Action_Number
  apply S.record_Action_Kind hE
  by_cases h : akind a = 327680#32
  · simpa [h, anumber] using hQ
  · simpa [h, anumber] using hQ

def rstrength (a : BitVec 32) : Int := if a / 65536#32 = 5#32 then 2 else if a / 65536#32 = 32764#32 then 1 else if a / 65536#32 = 32767#32 then 0 else 3
theorem S.pinfoldref03_Strength (hE : Fold E) (a : BitVec 32) (hQ : Q (vi (rstrength a)) H) : E.call (E.fid i.pinfoldref03_Strength) [u32 a] H Q := by
  apply hE.pinfoldref03_Strength
  simp [F.pinfoldref03_Strength, ifB_dec]
  unfold rstrength at hQ
  repeat' split at hQ
  all_goals (first | (simp [*]; done) | (simp [*]; exact hQ))

theorem S.pinfoldref03_Stronger (hE : Fold E) (a b : BitVec 32) (hQ : Q (u32 (if rstrength a < rstrength b then b else a)) H) : E.call (E.fid i.pinfoldref03_Stronger) [u32 a, u32 b] H Q := by
  apply hE.pinfoldref03_Stronger
  apply S.pinfoldref03_Strength hE
  apply S.pinfoldref03_Strength hE
  simp [ifB_dec]
  split at hQ <;> simp [*]
end Go.AM
