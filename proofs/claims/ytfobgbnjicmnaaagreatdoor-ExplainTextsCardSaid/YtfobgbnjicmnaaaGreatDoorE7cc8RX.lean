/- THE CLOSED FACT, AS A CONTRACT. -/
import Derived.Test.YtfobgbnjicmnaaaGreatDoorE7cc8G0
import Derived.Test.YtfobgbnjicmnaaaGreatDoorE7cc8G1
import Derived.Test.YtfobgbnjicmnaaaGreatDoorE7cc8G2
import Derived.Test.YtfobgbnjicmnaaaGreatDoorE7cc8G3
import Derived.Test.YtfobgbnjicmnaaaGreatDoorE7cc8RA
set_option linter.all false
set_option maxRecDepth 100000
set_option maxHeartbeats 4000000
namespace Go.Proofs.YtfobgbnjicmnaaaGreatDoor.explainTexts
open Go.AM
theorem good (f : Nat) (h : tb mask f = true) : goodN Tryz.prog f = true := by
  by_cases h0 : f < 114
  · exact goodR_at good0 f (by omega) (by omega) h
  by_cases h1 : f < 228
  · exact goodR_at good1 f (by omega) (by omega) h
  by_cases h2 : f < 342
  · exact goodR_at good2 f (by omega) (by omega) h
  by_cases h3 : f < 456
  · exact goodR_at good3 f (by omega) (by omega) h
  unfold goodN
  rw [show Tryz.prog.funcs[f]? = none from Array.getElem?_eq_none (by rw [show Tryz.prog.funcs.size = 453 from by kernel_rfl]; omega)]
theorem xOk : CallOk Tryz.prog (extX ids) := by
  rintro f args H K (⟨rfl, h⟩ | ⟨rfl, h⟩ | ⟨rfl, h⟩ | ⟨rfl, h⟩ | ⟨h, _⟩)
  · exact atomicAdd_told Tryz.func89 (by kernel_rfl) (by kernel_rfl) (by kernel_rfl) (by kernel_rfl) h
  · exact atomicLoad_told Tryz.func115 (by kernel_rfl) (by kernel_rfl) (by kernel_rfl) (by kernel_rfl) h
  · exact byteCount_told Tryz.func389 (by kernel_rfl) (by kernel_rfl) (by kernel_rfl) (by kernel_rfl) h
  · exact byteIndex_told Tryz.func406 (by kernel_rfl) (by kernel_rfl) (by kernel_rfl) (by kernel_rfl) h
  · cases h
theorem awakeTold {args : List Value} {H : AH} {K : Value -> AH -> Prop} (h : args = [] /\ K (.bool true) H) : AM.Told Tryz.prog 35 args H K := by
  obtain ⟨rfl, hk⟩ := h
  exact run_told (by kernel_rfl) (L := lib0) (ext := extX ids) (fun f fn h => libX_fn good h) (fun f callk _ args H k K _ hk h => libX_ext (fun _ _ _ _ h => h) f callk args H k K hk h) xOk rfl rfl rfl (awake ▸ trivial) hk
end Go.Proofs.YtfobgbnjicmnaaaGreatDoor.explainTexts
