/- THE RUNS, AS A CONTRACT: whatever the arguments, the call returns true and leaves what was there as it was. -/
import Derived.Test.YtfobgbnjicmnaaaGreatDoorKf8faG0
import Derived.Test.YtfobgbnjicmnaaaGreatDoorKf8faG1
import Derived.Test.YtfobgbnjicmnaaaGreatDoorKf8faG2
import Derived.Test.YtfobgbnjicmnaaaGreatDoorKf8faG3
import Derived.Test.YtfobgbnjicmnaaaGreatDoorKf8faR0
import Derived.Test.YtfobgbnjicmnaaaGreatDoorKf8faR1
import Derived.Test.YtfobgbnjicmnaaaGreatDoorKf8faR2
import Derived.Test.YtfobgbnjicmnaaaGreatDoorKf8faR3
import Derived.Test.YtfobgbnjicmnaaaGreatDoorKf8faR4
import Derived.Test.YtfobgbnjicmnaaaGreatDoorKf8faR5
import Derived.Test.YtfobgbnjicmnaaaGreatDoorKf8faR6
import Derived.Test.YtfobgbnjicmnaaaGreatDoorKf8faR7
set_option linter.all false
set_option maxRecDepth 100000
set_option maxHeartbeats 4000000
namespace Go.Proofs.YtfobgbnjicmnaaaGreatDoor.kernelMounts
open Go.AM
theorem good (f : Nat) (h : tb mask f = true) : goodN Tryz.prog f = true := by
  by_cases h0 : f < 114
  · exact goodR_at good0 f (by omega) (by omega) h
  by_cases h1 : f < 228
  · exact goodR_at good1 f (by omega) (by omega) h
  by_cases h2 : f < 342
  · exact goodR_at good2 f (by omega) (by omega) h
  by_cases h3 : f < 456
  · exact goodR_at good3 f (by omega) (by omega) h
  unfold goodN
  rw [show Tryz.prog.funcs[f]? = none from Array.getElem?_eq_none (by rw [show Tryz.prog.funcs.size = 453 from by kernel_rfl]; omega)]
theorem xOk : CallOk Tryz.prog (extX ids) := by
  rintro f args H K (⟨rfl, h⟩ | ⟨rfl, h⟩ | ⟨rfl, h⟩ | ⟨rfl, h⟩)
  · exact atomicAdd_told Tryz.func89 (by kernel_rfl) (by kernel_rfl) (by kernel_rfl) (by kernel_rfl) h
  · exact atomicLoad_told Tryz.func115 (by kernel_rfl) (by kernel_rfl) (by kernel_rfl) (by kernel_rfl) h
  · exact byteCount_told Tryz.func389 (by kernel_rfl) (by kernel_rfl) (by kernel_rfl) (by kernel_rfl) h
  · exact byteIndex_told Tryz.func406 (by kernel_rfl) (by kernel_rfl) (by kernel_rfl) (by kernel_rfl) h
def ext : CallT := fun f args H Q => f = 6 ∧ (∃ b0 b1 b2 : Bool, args = [.bool b0, .bool b1, .bool b2]) ∧ Q (.bool true) H
noncomputable def kps (f : FuncId) : Keep := kpsR Tryz.prog f
theorem told {args : List Value} (hargs : args.all flat = true) (h : runF Tryz.prog (base0 Tryz.prog) lib 60 6 args run0 (isV (.bool true)) = True) {H : AH} {K : Value → AH → Prop} (hk : K (.bool true) H) : AM.Told Tryz.prog 6 args H K :=
  run_told (by kernel_rfl) (L := lib) (ext := extX ids) (fun f fn h => libX_fn good h) (fun f callk _ args H k K _ hk h => libX_ext (fun _ _ _ _ h => h) f callk args H k K hk h) xOk hargs rfl h hk
theorem extOk : CallOk Tryz.prog ext := by
  rintro f args H K ⟨rfl, ⟨b0, b1, b2, rfl⟩, hk⟩
  cases b0 <;> cases b1 <;> cases b2
  · exact told rfl way7 hk
  · exact told rfl way6 hk
  · exact told rfl way5 hk
  · exact told rfl way4 hk
  · exact told rfl way3 hk
  · exact told rfl way2 hk
  · exact told rfl way1 hk
  · exact told rfl way0 hk
end Go.Proofs.YtfobgbnjicmnaaaGreatDoor.kernelMounts
