/- THE WAYS, AS A CONTRACT: whatever the arguments, the call returns true and leaves what was there as it was. -/
import Derived.Test.YtfobgbnjicmnaaaGreatDoorKb9f5G0
import Derived.Test.YtfobgbnjicmnaaaGreatDoorKb9f5G1
import Derived.Test.YtfobgbnjicmnaaaGreatDoorKb9f5G2
import Derived.Test.YtfobgbnjicmnaaaGreatDoorKb9f5G3
import Derived.Test.YtfobgbnjicmnaaaGreatDoorKb9f5RA
import Derived.Test.YtfobgbnjicmnaaaGreatDoorKb9f5R0
import Derived.Test.YtfobgbnjicmnaaaGreatDoorKb9f5R1
import Derived.Test.YtfobgbnjicmnaaaGreatDoorKb9f5R2
import Derived.Test.YtfobgbnjicmnaaaGreatDoorKb9f5R3
import Derived.Test.YtfobgbnjicmnaaaGreatDoorKb9f5R4
import Derived.Test.YtfobgbnjicmnaaaGreatDoorKb9f5R5
import Derived.Test.YtfobgbnjicmnaaaGreatDoorKb9f5R6
import Derived.Test.YtfobgbnjicmnaaaGreatDoorKb9f5R7
import Derived.Test.YtfobgbnjicmnaaaGreatDoorKb9f5R8
import Derived.Test.YtfobgbnjicmnaaaGreatDoorKb9f5R9
import Derived.Test.YtfobgbnjicmnaaaGreatDoorKb9f5R10
import Derived.Test.YtfobgbnjicmnaaaGreatDoorKb9f5R11
import Derived.Test.YtfobgbnjicmnaaaGreatDoorKb9f5R12
import Derived.Test.YtfobgbnjicmnaaaGreatDoorKb9f5R13
import Derived.Test.YtfobgbnjicmnaaaGreatDoorKb9f5R14
import Derived.Test.YtfobgbnjicmnaaaGreatDoorKb9f5R15
import Derived.Test.YtfobgbnjicmnaaaGreatDoorKb9f5R16
import Derived.Test.YtfobgbnjicmnaaaGreatDoorKb9f5R17
import Derived.Test.YtfobgbnjicmnaaaGreatDoorKb9f5R18
import Derived.Test.YtfobgbnjicmnaaaGreatDoorKb9f5O0
import Derived.Test.YtfobgbnjicmnaaaGreatDoorKb9f5O1
set_option linter.all false
set_option maxRecDepth 100000
set_option maxHeartbeats 4000000
namespace Go.Proofs.YtfobgbnjicmnaaaGreatDoor.kernelRefers
open Go.AM
theorem good (f : Nat) (h : tb mask f = true) : goodN Tryz.prog f = true := by
  by_cases h0 : f < 114
  · exact goodR_at good0 f (by omega) (by omega) h
  by_cases h1 : f < 228
  · exact goodR_at good1 f (by omega) (by omega) h
  by_cases h2 : f < 342
  · exact goodR_at good2 f (by omega) (by omega) h
  by_cases h3 : f < 456
  · exact goodR_at good3 f (by omega) (by omega) h
  unfold goodN
  rw [show Tryz.prog.funcs[f]? = none from Array.getElem?_eq_none (by rw [show Tryz.prog.funcs.size = 453 from by kernel_rfl]; omega)]
theorem xOk : CallOk Tryz.prog (extX ids) := by
  rintro f args H K (⟨rfl, h⟩ | ⟨rfl, h⟩ | ⟨rfl, h⟩ | ⟨rfl, h⟩ | ⟨h, _⟩)
  · exact atomicAdd_told Tryz.func89 (by kernel_rfl) (by kernel_rfl) (by kernel_rfl) (by kernel_rfl) h
  · exact atomicLoad_told Tryz.func115 (by kernel_rfl) (by kernel_rfl) (by kernel_rfl) (by kernel_rfl) h
  · exact byteCount_told Tryz.func389 (by kernel_rfl) (by kernel_rfl) (by kernel_rfl) (by kernel_rfl) h
  · exact byteIndex_told Tryz.func406 (by kernel_rfl) (by kernel_rfl) (by kernel_rfl) (by kernel_rfl) h
  · cases h
theorem awakeTold {H : AH} {K : Value → AH → Prop} (hk : K (.bool true) H) : AM.Told Tryz.prog 11 [] H K :=
  run_told (by kernel_rfl) (L := lib0) (ext := extX ids) (fun f fn h => libX_fn good h) (fun f callk _ args H k K _ hk h => libX_ext (fun _ _ _ _ h => h) f callk args H k K hk h) xOk rfl rfl rfl (awake ▸ trivial) hk
theorem goodA (f : Nat) (h : tb maskA f = true) : goodN Tryz.prog f = true := good f (by
  revert h
  have hb : ∀ m k n : Nat, tb m n = m.testBit n := fun m _ n => by
    unfold tb
    rw [Nat.testBit_eq_decide_div_mod_eq, nbeq]
    show decide (m >>> n % 2 = 1) = _
    rw [Nat.shiftRight_eq_div_pow]
  rw [hb maskA 0 f, hb mask 0 f]
  have e : maskA = mask &&& maskA := by decide +kernel
  intro h
  rw [e, Nat.testBit_and, Bool.and_eq_true] at h
  exact h.1)
theorem xOkA : CallOk Tryz.prog (extX idsA) := by
  rintro f args H K (⟨rfl, h⟩ | ⟨rfl, h⟩ | ⟨rfl, h⟩ | ⟨rfl, h⟩ | ⟨hs, rfl, h⟩)
  · exact atomicAdd_told Tryz.func89 (by kernel_rfl) (by kernel_rfl) (by kernel_rfl) (by kernel_rfl) h
  · exact atomicLoad_told Tryz.func115 (by kernel_rfl) (by kernel_rfl) (by kernel_rfl) (by kernel_rfl) h
  · exact byteCount_told Tryz.func389 (by kernel_rfl) (by kernel_rfl) (by kernel_rfl) (by kernel_rfl) h
  · exact byteIndex_told Tryz.func406 (by kernel_rfl) (by kernel_rfl) (by kernel_rfl) (by kernel_rfl) h
  · cases hs
    exact awakeTold h
theorem told {dt : DT} {st : Nat → Nat → Nat → Option Ast} {args : List Value} (hargs : args.all flat = true) {H : AH} {K : Value → AH → Prop} (hk : K (.bool true) H) (h : runF Tryz.prog (base0 Tryz.prog) (lib st) 60 7 args (runD dt) (isV (.bool true))) : AM.Told Tryz.prog 7 args H K :=
  run_told (by kernel_rfl) (L := lib st) (ext := extX idsA) (fun f fn h => libX_fn goodA h) (fun f callk _ args H k K _ hk h => libX_ext (fun _ _ _ _ h => h) f callk args H k K hk h) xOkA hargs rfl rfl h hk
theorem toldE {dt : DT} {st : Nat → Nat → Nat → Option Ast} {args : List Value} {C : Prop} (e : runF Tryz.prog (base0 Tryz.prog) (lib st) 60 7 args (runD dt) (isV (.bool true)) = C) (hargs : args.all flat = true) {H : AH} {K : Value → AH → Prop} (hk : K (.bool true) H) (c : C) : AM.Told Tryz.prog 7 args H K := told hargs hk (Eq.mpr e c)
def isArgs (args : List Value) : Prop := ∃ (X Y Z : BitVec 16) (l : Bool), args = [.int .u16 (I X), .int .u16 (I Y), .int .u16 (I Z), .bool l]
def ext : CallT := fun f args H Q => f = 7 ∧ isArgs args ∧ Q (.bool true) H
noncomputable def kps (f : FuncId) : Keep := kpsR Tryz.prog f
theorem extOk : CallOk Tryz.prog ext := by
  rintro f args H K ⟨rfl, ha, hk⟩
  obtain ⟨X, Y, Z, l, rfl⟩ := ha
  cases l with
  | true =>
    cases g0 : neqI (aI X Y) (I 0#16) with
    | true =>
      cases g1 : neqI (bI X Z) (I 0#16) with
      | true =>
        cases g2 : neqI (andNotI (andI (I 128#16) (hI X)) (bI X Z)) (I 0#16) with
        | true =>
          exact toldE (way13 X Y Z) rfl hk (ok13 X Y Z g0 g1 g2)
        | false =>
          cases g3 : eqlI (andNotI (I 512#16) (hI X)) (I 0#16) with
          | true =>
            cases g4 : eqlI (andNotI (I 512#16) (aI X Y)) (I 0#16) with
            | true =>
              cases g5 : eqlI (andNotI (I 512#16) (bI X Z)) (I 0#16) with
              | true =>
                cases g6 : neqI (andI (andNotI (bI X Z) (aI X Y)) (I 1031#16)) (I 0#16) with
                | true =>
                  exact toldE (way14 X Y Z) rfl hk (ok14 X Y Z g0 g1 g2 g3 g4 g5 g6)
                | false =>
                  exact toldE (way15 X Y Z) rfl hk (ok15 X Y Z g0 g1 g2 g3 g4 g5 g6)
              | false =>
                exact toldE (way16 X Y Z) rfl hk (ok16 X Y Z g0 g1 g2 g3 g4 g5)
            | false =>
              exact toldE (way17 X Y Z) rfl hk (ok17 X Y Z g0 g1 g2 g3 g4)
          | false =>
            exact toldE (way18 X Y Z) rfl hk (ok18 X Y Z g0 g1 g2 g3)
      | false =>
        cases g2 : neqI (andNotI (andI (I 128#16) (hI X)) (bI X Z)) (I 0#16) with
        | true =>
          exact toldE (way6 X Y Z) rfl hk (ok6 X Y Z g0 g1 g2)
        | false =>
          exact toldE (way7 X Y Z) rfl hk (ok7 X Y Z g0 g1 g2)
    | false =>
      cases g1 : neqI (bI X Z) (I 0#16) with
      | true =>
        cases g2 : neqI (andNotI (andI (I 128#16) (hI X)) (bI X Z)) (I 0#16) with
        | true =>
          exact toldE (way3 X Y Z) rfl hk (ok3 X Y Z g0 g1 g2)
        | false =>
          exact toldE (way4 X Y Z) rfl hk (ok4 X Y Z g0 g1 g2)
      | false =>
        exact toldE (way1 X Y Z) rfl hk (ok1 X Y Z g0 g1)
  | false =>
    cases g0 : neqI (aI X Y) (I 0#16) with
    | true =>
      cases g1 : neqI (bI X Z) (I 0#16) with
      | true =>
        cases g2 : neqI (orI (andNotI (andI (I 128#16) (hI X)) (bI X Z)) (andNotI (andI (I 32#16) (hI X)) (aI X Y))) (I 0#16) with
        | true =>
          exact toldE (way8 X Y Z) rfl hk (ok8 X Y Z g0 g1 g2)
        | false =>
          cases g3 : eqlI (andNotI (I 512#16) (hI X)) (I 0#16) with
          | true =>
            cases g4 : eqlI (andNotI (I 512#16) (aI X Y)) (I 0#16) with
            | true =>
              cases g5 : eqlI (andNotI (I 512#16) (bI X Z)) (I 0#16) with
              | true =>
                exact toldE (way9 X Y Z) rfl hk (ok9 X Y Z g0 g1 g2 g3 g4 g5)
              | false =>
                exact toldE (way10 X Y Z) rfl hk (ok10 X Y Z g0 g1 g2 g3 g4 g5)
            | false =>
              exact toldE (way11 X Y Z) rfl hk (ok11 X Y Z g0 g1 g2 g3 g4)
          | false =>
            exact toldE (way12 X Y Z) rfl hk (ok12 X Y Z g0 g1 g2 g3)
      | false =>
        exact toldE (way5 X Y Z) rfl hk (ok5 X Y Z g0 g1)
    | false =>
      cases g1 : neqI (bI X Z) (I 0#16) with
      | true =>
        exact toldE (way2 X Y Z) rfl hk (ok2 X Y Z g0 g1)
      | false =>
        exact toldE (way0 X Y Z) rfl hk (ok0 X Y Z g0 g1)
end Go.Proofs.YtfobgbnjicmnaaaGreatDoor.kernelRefers
