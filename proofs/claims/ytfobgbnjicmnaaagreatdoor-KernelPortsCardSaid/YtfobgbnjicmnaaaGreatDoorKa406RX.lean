/- THE CLOSED FACT, AS A CONTRACT. -/
import Derived.Test.YtfobgbnjicmnaaaGreatDoorKa406G0
import Derived.Test.YtfobgbnjicmnaaaGreatDoorKa406G1
import Derived.Test.YtfobgbnjicmnaaaGreatDoorKa406G2
import Derived.Test.YtfobgbnjicmnaaaGreatDoorKa406G3
import Derived.Test.YtfobgbnjicmnaaaGreatDoorKa406RA
set_option linter.all false
set_option maxRecDepth 100000
set_option maxHeartbeats 4000000
namespace Go.Proofs.YtfobgbnjicmnaaaGreatDoor.kernelPorts
open Go.AM
theorem aPE (f : Nat) (h : tb mask f = true) : aBe Tryz.prog f = true := by
  by_cases h0 : f < 114
  · exact pH aO2 f (by omega) (by omega) h
  by_cases h1 : f < 228
  · exact pH aO9 f (by omega) (by omega) h
  by_cases h2 : f < 342
  · exact pH aOE f (by omega) (by omega) h
  by_cases h3 : f < 456
  · exact pH aO6 f (by omega) (by omega) h
  unfold aBe;rw [show Tryz.prog.funcs[f]? = none from Array.getElem?_eq_none (by rw [show Tryz.prog.funcs.size = 453 from by kernel_rfl]; omega)]
theorem xOk : gP Tryz.prog (aNz ids) := by
  rintro f args H K (⟨rfl, h⟩ | ⟨rfl, h⟩ | ⟨rfl, h⟩ | ⟨rfl, h⟩ | ⟨h, _⟩)
  · exact pK Tryz.func89 (by kernel_rfl) (by kernel_rfl) (by kernel_rfl) (by kernel_rfl) h
  · exact wS Tryz.func115 (by kernel_rfl) (by kernel_rfl) (by kernel_rfl) (by kernel_rfl) h
  · exact xM Tryz.func389 (by kernel_rfl) (by kernel_rfl) (by kernel_rfl) (by kernel_rfl) h
  · exact zG Tryz.func406 (by kernel_rfl) (by kernel_rfl) (by kernel_rfl) (by kernel_rfl) h
  · cases h
theorem awakeTold {args : List Value} {H : AH} {K : Value -> AH -> Prop} (h : args = [] /\ K (.bool true) H) : AM.nT Tryz.prog 11 args H K := by
  obtain ⟨rfl, hk⟩ := h;exact aJz (by kernel_rfl) (L := aOy) (ext := aNz ids) (fun f fn h => aLa aPE h) (fun f callk _ args H k K _ hk h => aJL (fun _ _ _ _ h => h) f callk args H k K hk h) xOk rfl rfl rfl (aOn ▸ trivial) hk
end Go.Proofs.YtfobgbnjicmnaaaGreatDoor.kernelPorts
