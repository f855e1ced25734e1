/- WHAT THE WAYS ASK FOR, OF BITS. -/
import Derived.Test.YtfobgbnjicmnaaaGreatDoorKb9f5G
set_option linter.all false
set_option maxRecDepth 100000
set_option maxHeartbeats 4000000
namespace Go.Proofs.YtfobgbnjicmnaaaGreatDoor.kernelRefers
open Go.AM
open BitVec
theorem andI_I (a b : BitVec 16) : andI (I a) (I b) = I (a &&& b) := by
  have h : binInt .and (.int .u16 (I a)) (.int .u16 (I b)) = some (.int .u16 (I (a &&& b))) := u16_and a b
  unfold andI; rw [h]
theorem orI_I (a b : BitVec 16) : orI (I a) (I b) = I (a ||| b) := by
  have h : binInt .or (.int .u16 (I a)) (.int .u16 (I b)) = some (.int .u16 (I (a ||| b))) := u16_or a b
  unfold orI; rw [h]
theorem andNotI_I (a b : BitVec 16) : andNotI (I a) (I b) = I (a &&& ~~~b) := by
  have h : binInt .andNot (.int .u16 (I a)) (.int .u16 (I b)) = some (.int .u16 (I (a &&& ~~~b))) := u16_andNot a b
  unfold andNotI; rw [h]
theorem shrI_I (a : BitVec 16) : shrI (I a) 5 = I (a >>> 5) := by
  have h : binInt .shr (.int .u16 (I a)) (.int .i64 5) = some (.int .u16 (I (a >>> 5))) := u16_shr a .i64 5
  unfold shrI; rw [h]
theorem eqlI_I (a b : BitVec 16) : eqlI (I a) (I b) = decide (a = b) := by
  have h : fEql (.int .u16 (I a)) (.int .u16 (I b)) = some (.bool (Nat.beq a.toNat b.toNat)) := rfl
  unfold eqlI; rw [h, nbeq]
  simp only [BitVec.toNat_inj]
theorem neqI_I (a b : BitVec 16) : neqI (I a) (I b) = decide (a ≠ b) := by
  have h : fNeq (.int .u16 (I a)) (.int .u16 (I b)) = some (.bool (bs (Nat.beq a.toNat b.toNat) false true)) := rfl
  unfold neqI; rw [h, nbeq]
  by_cases e : a = b
  · subst e; simp [bs]
  · have : a.toNat ≠ b.toNat := fun h => e (BitVec.eq_of_toNat_eq h)
    simp [bs, e, this]
def hh (X : BitVec 16) : BitVec 16 := (X ||| X >>> 5) &&& 2047#16
theorem hI_I (X : BitVec 16) : hI X = I (hh X) := by unfold hI hh; rw [shrI_I, orI_I, andI_I]
theorem aI_I (X Y : BitVec 16) : aI X Y = I (Y &&& hh X) := by unfold aI; rw [hI_I, andI_I]
theorem bI_I (X Z : BitVec 16) : bI X Z = I (Z &&& hh X) := by unfold bI; rw [hI_I, andI_I]
theorem bit (k : Nat) (hk : k < 16) (v : BitVec 16) : (twoPow 16 k &&& v = 0#16) ↔ v.getLsbD k = false := by
  rw [BitVec.twoPow_and]
  cases v.getLsbD k with
  | true =>
    simp only [if_true, Bool.true_eq_false, iff_false]
    intro h
    have := congrArg (fun v : BitVec 16 => v.getLsbD k) h
    simp [BitVec.getLsbD_twoPow, hk] at this
  | false => simp
theorem or_zero_iff (a b : BitVec 16) : (a ||| b = 0#16) ↔ a = 0#16 ∧ b = 0#16 := by
  constructor
  · intro h
    have h1 : ∀ i, (a.getLsbD i || b.getLsbD i) = false := fun i => by
      have := congrArg (fun v : BitVec 16 => v.getLsbD i) h
      simpa using this
    constructor
    · apply BitVec.eq_of_getLsbD_eq; intro i _; have := h1 i; simp at this ⊢; exact this.1
    · apply BitVec.eq_of_getLsbD_eq; intro i _; have := h1 i; simp at this ⊢; exact this.2
  · rintro ⟨rfl, rfl⟩; rfl
theorem hh_sub (X : BitVec 16) : hh X &&& 2047#16 = hh X := by
  unfold hh; rw [BitVec.and_assoc, show (2047#16 &&& 2047#16) = 2047#16 by decide]
theorem hh_not (X m : BitVec 16) (h : 2047#16 &&& ~~~m = 0#16) : hh X &&& ~~~m = 0#16 := by
  unfold hh; rw [BitVec.and_assoc, h, BitVec.and_zero]
theorem sub_self (Y h : BitVec 16) : Y &&& h &&& ~~~h = 0#16 := by
  rw [BitVec.and_assoc]
  apply BitVec.eq_of_getLsbD_eq; intro i _
  simp
theorem maskB {m : BitVec 16} (k : Nat) (hm : m = twoPow 16 k) (hk : k < 16) (v w : BitVec 16) : (m &&& v &&& ~~~w = 0#16) ↔ (v.getLsbD k && !w.getLsbD k) = false := by
  subst hm
  rw [BitVec.and_assoc, bit k hk, BitVec.getLsbD_and, BitVec.getLsbD_not]
  simp [hk]
theorem mask1 {m : BitVec 16} (k : Nat) (hm : m = twoPow 16 k) (hk : k < 16) (w : BitVec 16) : (m &&& ~~~w = 0#16) ↔ w.getLsbD k = true := by
  subst hm
  rw [bit k hk, BitVec.getLsbD_not]
  simp [hk]
theorem mask0 {m : BitVec 16} (k : Nat) (hm : m = twoPow 16 k) (hk : k < 16) (v : BitVec 16) : (m &&& v &&& ~~~0#16 = 0#16) ↔ v.getLsbD k = false := by
  rw [maskB k hm hk]; simp
theorem deq {p : Prop} [Decidable p] {b : Bool} (h : p ↔ b = true) : decide p = b := by
  cases b with
  | true => exact decide_eq_true (h.2 rfl)
  | false => exact decide_eq_false fun q => by have := h.1 q; cases this
theorem dne {p : Prop} [Decidable p] {b : Bool} (h : p ↔ b = false) : decide (¬ p) = b := by
  cases b with
  | true => exact decide_eq_true fun q => by have := h.1 q; cases this
  | false => exact decide_eq_false fun q => q (h.2 rfl)
theorem deqn {p : Prop} [Decidable p] {b : Bool} (h : p ↔ b = false) : decide p = !b := by
  cases b with
  | true => exact decide_eq_false fun q => by have := h.1 q; cases this
  | false => exact decide_eq_true (h.2 rfl)
section
variable (X Y Z : BitVec 16)
abbrev aA : BitVec 16 := Y &&& hh X
theorem aA_bit (k : Nat) : (aA X Y).getLsbD k = (Y.getLsbD k && (hh X).getLsbD k) := BitVec.getLsbD_and
theorem w2 (Y : BitVec 16) : (Y &&& hh X) &&& ~~~2047#16 = 0#16 := by rw [BitVec.and_assoc, hh_not X 2047#16 (by decide), BitVec.and_zero]
theorem w3 (Y : BitVec 16) : (Y &&& hh X) &&& 2047#16 = Y &&& hh X := by rw [BitVec.and_assoc, hh_sub]
theorem gain : (aA X Z &&& ~~~aA X Y &&& hh X &&& 1031#16) = (aA X Z &&& ~~~aA X Y &&& 1031#16) := by
  congr 1
  apply BitVec.eq_of_getLsbD_eq; intro i _
  simp only [aA, BitVec.getLsbD_and]
  cases Z.getLsbD i <;> cases (hh X).getLsbD i <;> simp
theorem c0 : eqlI (andNotI (hI X) (I 51199#16)) (I 0#16) = true := by
  simp only [hI_I, aI_I, bI_I, andI_I, orI_I, andNotI_I, eqlI_I, neqI_I, BitVec.zero_or, BitVec.or_zero, ne_eq, decide_true]
  exact decide_eq_true (hh_not X 51199#16 (by decide))
theorem c1 : eqlI (andNotI (aI X Y) (hI X)) (I 0#16) = true := by
  simp only [hI_I, aI_I, bI_I, andI_I, orI_I, andNotI_I, eqlI_I, neqI_I, BitVec.zero_or, BitVec.or_zero, ne_eq, decide_true]
  exact decide_eq_true (sub_self Y (hh X))
theorem c2 : eqlI (andNotI (aI X Y) (I 2047#16)) (I 0#16) = true := by
  simp only [hI_I, aI_I, bI_I, andI_I, orI_I, andNotI_I, eqlI_I, neqI_I, BitVec.zero_or, BitVec.or_zero, ne_eq, decide_true]
  exact decide_eq_true (w2 X Y)
theorem c3 : neqI (andI (aI X Y) (I 2047#16)) (aI X Y) = false := by
  simp only [hI_I, aI_I, bI_I, andI_I, orI_I, andNotI_I, eqlI_I, neqI_I, BitVec.zero_or, BitVec.or_zero, ne_eq, decide_true]
  exact decide_eq_false (fun h => h (w3 X Y))
theorem c4 : eqlI (andNotI (bI X Z) (hI X)) (I 0#16) = true := by
  simp only [hI_I, aI_I, bI_I, andI_I, orI_I, andNotI_I, eqlI_I, neqI_I, BitVec.zero_or, BitVec.or_zero, ne_eq, decide_true]
  exact decide_eq_true (sub_self Z (hh X))
theorem c5 : eqlI (andNotI (bI X Z) (I 2047#16)) (I 0#16) = true := by
  simp only [hI_I, aI_I, bI_I, andI_I, orI_I, andNotI_I, eqlI_I, neqI_I, BitVec.zero_or, BitVec.or_zero, ne_eq, decide_true]
  exact decide_eq_true (w2 X Z)
theorem c6 : neqI (andI (bI X Z) (I 2047#16)) (bI X Z) = false := by
  simp only [hI_I, aI_I, bI_I, andI_I, orI_I, andNotI_I, eqlI_I, neqI_I, BitVec.zero_or, BitVec.or_zero, ne_eq, decide_true]
  exact decide_eq_false (fun h => h (w3 X Z))
theorem c7 : eqlI (andNotI (I 512#16) (hI X)) (I 0#16) = (hh X).getLsbD 9 := by
  simp only [hI_I, aI_I, bI_I, andI_I, orI_I, andNotI_I, eqlI_I, neqI_I, BitVec.zero_or, BitVec.or_zero, ne_eq, decide_true]
  exact deq (mask1 9 (by decide) (by decide) _)
theorem c8 : eqlI (andNotI (I 512#16) (aI X Y)) (I 0#16) = (Y.getLsbD 9 && (hh X).getLsbD 9) := by
  simp only [hI_I, aI_I, bI_I, andI_I, orI_I, andNotI_I, eqlI_I, neqI_I, BitVec.zero_or, BitVec.or_zero, ne_eq, decide_true]
  exact deq (by rw [mask1 9 (by decide) (by decide), BitVec.getLsbD_and])
theorem c9 : eqlI (andNotI (I 512#16) (bI X Z)) (I 0#16) = (Z.getLsbD 9 && (hh X).getLsbD 9) := by
  simp only [hI_I, aI_I, bI_I, andI_I, orI_I, andNotI_I, eqlI_I, neqI_I, BitVec.zero_or, BitVec.or_zero, ne_eq, decide_true]
  exact deq (by rw [mask1 9 (by decide) (by decide), BitVec.getLsbD_and])
theorem c10 : eqlI (orI (I 0#16) (andNotI (andI (I 128#16) (hI X)) (orI (orI (I 0#16) (orI (I 0#16) (aI X Y))) (I 0#16)))) (I 0#16) = !((hh X).getLsbD 7 && !(Y.getLsbD 7 && (hh X).getLsbD 7)) := by
  simp only [hI_I, aI_I, bI_I, andI_I, orI_I, andNotI_I, eqlI_I, neqI_I, BitVec.zero_or, BitVec.or_zero, ne_eq, decide_true]
  exact deqn (by rw [maskB 7 (by decide) (by decide), BitVec.getLsbD_and])
theorem c11 : eqlI (orI (I 0#16) (andNotI (andI (I 128#16) (hI X)) (orI (orI (I 0#16) (orI (I 0#16) (bI X Z))) (I 0#16)))) (I 0#16) = !((hh X).getLsbD 7 && !(Z.getLsbD 7 && (hh X).getLsbD 7)) := by
  simp only [hI_I, aI_I, bI_I, andI_I, orI_I, andNotI_I, eqlI_I, neqI_I, BitVec.zero_or, BitVec.or_zero, ne_eq, decide_true]
  exact deqn (by rw [maskB 7 (by decide) (by decide), BitVec.getLsbD_and])
theorem c12 : eqlI (orI (I 0#16) (andNotI (andI (I 128#16) (hI X)) (I 0#16))) (I 0#16) = !(hh X).getLsbD 7 := by
  simp only [hI_I, aI_I, bI_I, andI_I, orI_I, andNotI_I, eqlI_I, neqI_I, BitVec.zero_or, BitVec.or_zero, ne_eq, decide_true]
  exact deqn (mask0 7 (by decide) (by decide) _)
theorem c13 : eqlI (orI (I 0#16) (andNotI (andI (I 32#16) (hI X)) (orI (orI (I 0#16) (orI (I 0#16) (aI X Y))) (I 0#16)))) (I 0#16) = !((hh X).getLsbD 5 && !(Y.getLsbD 5 && (hh X).getLsbD 5)) := by
  simp only [hI_I, aI_I, bI_I, andI_I, orI_I, andNotI_I, eqlI_I, neqI_I, BitVec.zero_or, BitVec.or_zero, ne_eq, decide_true]
  exact deqn (by rw [maskB 5 (by decide) (by decide), BitVec.getLsbD_and])
theorem c14 : eqlI (orI (I 0#16) (andNotI (andI (I 32#16) (hI X)) (I 0#16))) (I 0#16) = !(hh X).getLsbD 5 := by
  simp only [hI_I, aI_I, bI_I, andI_I, orI_I, andNotI_I, eqlI_I, neqI_I, BitVec.zero_or, BitVec.or_zero, ne_eq, decide_true]
  exact deqn (mask0 5 (by decide) (by decide) _)
theorem c15 : eqlI (I 0#16) (I 0#16) = true := by
  simp only [hI_I, aI_I, bI_I, andI_I, orI_I, andNotI_I, eqlI_I, neqI_I, BitVec.zero_or, BitVec.or_zero, ne_eq, decide_true]
theorem c16 : neqI (andI (andI (andNotI (orI (orI (I 0#16) (orI (I 0#16) (bI X Z))) (I 0#16)) (orI (orI (I 0#16) (orI (I 0#16) (aI X Y))) (I 0#16))) (hI X)) (I 1031#16)) (I 0#16) = decide (¬ (Z &&& hh X &&& ~~~(Y &&& hh X) &&& 1031#16) = 0#16) := by
  simp only [hI_I, aI_I, bI_I, andI_I, orI_I, andNotI_I, eqlI_I, neqI_I, BitVec.zero_or, BitVec.or_zero, ne_eq, decide_true]
  rw [gain X Y Z]
theorem c17 : neqI (andI (andNotI (bI X Z) (aI X Y)) (I 1031#16)) (I 0#16) = decide (¬ (Z &&& hh X &&& ~~~(Y &&& hh X) &&& 1031#16) = 0#16) := by
  simp only [hI_I, aI_I, bI_I, andI_I, orI_I, andNotI_I, eqlI_I, neqI_I, BitVec.zero_or, BitVec.or_zero, ne_eq, decide_true]
theorem c18 : neqI (aI X Y) (I 0#16) = decide (¬ (Y &&& hh X) = 0#16) := by
  simp only [hI_I, aI_I, bI_I, andI_I, orI_I, andNotI_I, eqlI_I, neqI_I, BitVec.zero_or, BitVec.or_zero, ne_eq, decide_true]
theorem c19 : neqI (bI X Z) (I 0#16) = decide (¬ (Z &&& hh X) = 0#16) := by
  simp only [hI_I, aI_I, bI_I, andI_I, orI_I, andNotI_I, eqlI_I, neqI_I, BitVec.zero_or, BitVec.or_zero, ne_eq, decide_true]
theorem c20 : neqI (andNotI (andI (I 128#16) (hI X)) (bI X Z)) (I 0#16) = ((hh X).getLsbD 7 && !(Z.getLsbD 7 && (hh X).getLsbD 7)) := by
  simp only [hI_I, aI_I, bI_I, andI_I, orI_I, andNotI_I, eqlI_I, neqI_I, BitVec.zero_or, BitVec.or_zero, ne_eq, decide_true]
  exact dne (by rw [maskB 7 (by decide) (by decide), BitVec.getLsbD_and])
theorem c21 : neqI (andNotI (andI (I 160#16) (hI X)) (aI X Y)) (I 0#16) = (((hh X).getLsbD 7 && !(Y.getLsbD 7 && (hh X).getLsbD 7)) || ((hh X).getLsbD 5 && !(Y.getLsbD 5 && (hh X).getLsbD 5))) := by
  simp only [hI_I, aI_I, bI_I, andI_I, orI_I, andNotI_I, eqlI_I, neqI_I, BitVec.zero_or, BitVec.or_zero, ne_eq, decide_true]
  refine dne ?_
  rw [show (160#16 : BitVec 16) = 128#16 ||| 32#16 by decide]
  have e : (128#16 ||| 32#16) &&& hh X &&& ~~~(Y &&& hh X) = (128#16 &&& hh X &&& ~~~(Y &&& hh X)) ||| (32#16 &&& hh X &&& ~~~(Y &&& hh X)) := by
    apply BitVec.eq_of_getLsbD_eq; intro i _
    simp only [BitVec.getLsbD_and, BitVec.getLsbD_or]
    cases (128#16 : BitVec 16).getLsbD i <;> cases (32#16 : BitVec 16).getLsbD i <;> simp
  rw [e, or_zero_iff, maskB 7 (by decide) (by decide), maskB 5 (by decide) (by decide), BitVec.getLsbD_and, BitVec.getLsbD_and, Bool.or_eq_false_iff]
theorem c22 : neqI (andNotI (andI (I 512#16) (hI X)) (orI (orI (I 0#16) (orI (I 0#16) (aI X Y))) (I 0#16))) (I 0#16) = ((hh X).getLsbD 9 && !(Y.getLsbD 9 && (hh X).getLsbD 9)) := by
  simp only [hI_I, aI_I, bI_I, andI_I, orI_I, andNotI_I, eqlI_I, neqI_I, BitVec.zero_or, BitVec.or_zero, ne_eq, decide_true]
  exact dne (by rw [maskB 9 (by decide) (by decide), BitVec.getLsbD_and])
theorem c23 : neqI (andNotI (andI (I 512#16) (hI X)) (orI (orI (I 0#16) (orI (I 0#16) (bI X Z))) (I 0#16))) (I 0#16) = ((hh X).getLsbD 9 && !(Z.getLsbD 9 && (hh X).getLsbD 9)) := by
  simp only [hI_I, aI_I, bI_I, andI_I, orI_I, andNotI_I, eqlI_I, neqI_I, BitVec.zero_or, BitVec.or_zero, ne_eq, decide_true]
  exact dne (by rw [maskB 9 (by decide) (by decide), BitVec.getLsbD_and])
theorem c24 : neqI (andNotI (andI (I 512#16) (hI X)) (I 0#16)) (I 0#16) = (hh X).getLsbD 9 := by
  simp only [hI_I, aI_I, bI_I, andI_I, orI_I, andNotI_I, eqlI_I, neqI_I, BitVec.zero_or, BitVec.or_zero, ne_eq, decide_true]
  exact dne (mask0 9 (by decide) (by decide) _)
theorem c25 : neqI (orI (andNotI (andI (I 128#16) (hI X)) (bI X Z)) (andNotI (andI (I 32#16) (hI X)) (aI X Y))) (I 0#16) = (((hh X).getLsbD 7 && !(Z.getLsbD 7 && (hh X).getLsbD 7)) || ((hh X).getLsbD 5 && !(Y.getLsbD 5 && (hh X).getLsbD 5))) := by
  simp only [hI_I, aI_I, bI_I, andI_I, orI_I, andNotI_I, eqlI_I, neqI_I, BitVec.zero_or, BitVec.or_zero, ne_eq, decide_true]
  exact dne (by rw [or_zero_iff, maskB 7 (by decide) (by decide), maskB 5 (by decide) (by decide), BitVec.getLsbD_and, BitVec.getLsbD_and, Bool.or_eq_false_iff])
def Tq.B : Tq → Bool
  | .done => true
  | .take c b t => (c == b) && t.B
  | .both c t f => bif c then t.B else f.B
  | .ord _ t => t.B
  | .same _ t => t.B
theorem ordP_ok {p : Prop} (h : p) : ∀ n, ordP n p
  | 0 => trivial
  | n + 1 => ⟨h, ordP_ok h n⟩
theorem Tq.ok : ∀ (t : Tq), t.B = true → t.P
  | .done, _ => trivial
  | .take c b t, h => by
    have h : ((c == b) && t.B) = true := h
    rw [Bool.and_eq_true, beq_iff_eq] at h
    exact ⟨h.1, Tq.ok t h.2⟩
  | .both c t f, h => by
    have h : (bif c then t.B else f.B) = true := h
    refine ⟨fun e => ?_, fun e => ?_⟩ <;> subst e
    · exact Tq.ok t h
    · exact Tq.ok f h
  | .ord n t, h => ordP_ok (Tq.ok t h) n
  | .same v t, h => ⟨rfl, Tq.ok t h⟩
theorem impB {p q : Bool} (h : p = true → q = true) : (!p || q) = true := by cases p with | true => exact h rfl | false => rfl
theorem andB {p q : Bool} (h : p = true) (k : q = true) : (p && q) = true := by rw [h, k]; rfl
theorem eqB {p q : Bool} (h : p = q) : (p == q) = true := by subst h; exact beq_self_eq_true p
theorem nz (k : Nat) (Y : BitVec 16) (h : (Y.getLsbD k && (hh X).getLsbD k) = true) : decide (¬ (Y &&& hh X) = 0#16) = true := by
  refine decide_eq_true fun e => ?_
  have := congrArg (fun v : BitVec 16 => v.getLsbD k) e
  simp only [BitVec.getLsbD_and, h] at this
  simp at this
theorem gz (h : decide (¬ (Z &&& hh X &&& ~~~(Y &&& hh X) &&& 1031#16) = 0#16) = true) : decide (¬ (Z &&& hh X) = 0#16) = true := by
  refine decide_eq_true fun e => ?_
  rw [e] at h
  simp at h
end
end Go.Proofs.YtfobgbnjicmnaaaGreatDoor.kernelRefers
