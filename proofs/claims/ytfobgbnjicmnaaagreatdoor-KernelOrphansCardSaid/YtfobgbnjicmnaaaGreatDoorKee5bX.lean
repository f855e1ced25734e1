/- THE WAYS, AS A CONTRACT: whatever the arguments, the call returns true and leaves what was there as it was. -/
import Derived.Test.YtfobgbnjicmnaaaGreatDoorKee5bG0
import Derived.Test.YtfobgbnjicmnaaaGreatDoorKee5bG1
import Derived.Test.YtfobgbnjicmnaaaGreatDoorKee5bG2
import Derived.Test.YtfobgbnjicmnaaaGreatDoorKee5bG3
import Derived.Test.YtfobgbnjicmnaaaGreatDoorKee5bR0
import Derived.Test.YtfobgbnjicmnaaaGreatDoorKee5bR1
import Derived.Test.YtfobgbnjicmnaaaGreatDoorKee5bR2
import Derived.Test.YtfobgbnjicmnaaaGreatDoorKee5bR3
import Derived.Test.YtfobgbnjicmnaaaGreatDoorKee5bR4
import Derived.Test.YtfobgbnjicmnaaaGreatDoorKee5bR5
import Derived.Test.YtfobgbnjicmnaaaGreatDoorKee5bR6
import Derived.Test.YtfobgbnjicmnaaaGreatDoorKee5bR7
import Derived.Test.YtfobgbnjicmnaaaGreatDoorKee5bR8
import Derived.Test.YtfobgbnjicmnaaaGreatDoorKee5bR9
import Derived.Test.YtfobgbnjicmnaaaGreatDoorKee5bR10
set_option linter.all false
set_option maxRecDepth 100000
set_option maxHeartbeats 4000000
namespace Go.Proofs.YtfobgbnjicmnaaaGreatDoor.kernelOrphans
open Go.AM
theorem good (f : Nat) (h : tb mask f = true) : goodN Tryz.prog f = true := by
  by_cases h0 : f < 114
  · exact goodR_at good0 f (by omega) (by omega) h
  by_cases h1 : f < 228
  · exact goodR_at good1 f (by omega) (by omega) h
  by_cases h2 : f < 342
  · exact goodR_at good2 f (by omega) (by omega) h
  by_cases h3 : f < 456
  · exact goodR_at good3 f (by omega) (by omega) h
  unfold goodN
  rw [show Tryz.prog.funcs[f]? = none from Array.getElem?_eq_none (by rw [show Tryz.prog.funcs.size = 453 from by kernel_rfl]; omega)]
theorem xOk : CallOk Tryz.prog (extX ids) := by
  rintro f args H K (⟨rfl, h⟩ | ⟨rfl, h⟩ | ⟨rfl, h⟩ | ⟨rfl, h⟩)
  · exact atomicAdd_told Tryz.func89 (by kernel_rfl) (by kernel_rfl) (by kernel_rfl) (by kernel_rfl) h
  · exact atomicLoad_told Tryz.func115 (by kernel_rfl) (by kernel_rfl) (by kernel_rfl) (by kernel_rfl) h
  · exact byteCount_told Tryz.func389 (by kernel_rfl) (by kernel_rfl) (by kernel_rfl) (by kernel_rfl) h
  · exact byteIndex_told Tryz.func406 (by kernel_rfl) (by kernel_rfl) (by kernel_rfl) (by kernel_rfl) h
theorem told {st : Nat → Nat → Nat → Option Ast} {args : List Value} (hargs : args.all flat = true) {H : AH} {K : Value → AH → Prop} (hk : K (.bool true) H) (h : runF Tryz.prog (base0 Tryz.prog) (lib st) 60 9 args run0 (isV (.bool true))) : AM.Told Tryz.prog 9 args H K :=
  run_told (by kernel_rfl) (L := lib st) (ext := extX ids) (fun f fn h => libX_fn good h) (fun f callk _ args H k K _ hk h => libX_ext (fun _ _ _ _ h => h) f callk args H k K hk h) xOk hargs rfl rfl h hk
def isArgs (args : List Value) : Prop := ∃ (x : BitVec 8) (s : ByteArray) (e : Bool), args = [.int .u8 (x.toNat : Int), .string s, .bool e]
def ext : CallT := fun f args H Q => f = 9 ∧ isArgs args ∧ Q (.bool true) H
noncomputable def kps (f : FuncId) : Keep := kpsR Tryz.prog f
theorem extOk : CallOk Tryz.prog ext := by
  rintro f args H K ⟨rfl, ha, hk⟩
  obtain ⟨x, s, e, rfl⟩ := ha
  by_cases hs : 100 < s.size
  · exact told (st := stLong) rfl hk ((way0 _ s e).mpr ⟨(fGtr_nn s.size 100).trans (by rw [blt_t hs]), trivial⟩)
  have c1 : fGtr (cN s) (.int .i64 100) = some (.bool false) := (fGtr_nn s.size 100).trans (by rw [blt_f hs])
  have c2 : bytesO (.string s) = some (.cells (cD s) (some 1), mkSlc s.size s.size) := bytesO_s (by omega)
  have c3 : fGtr (cN s) (.int .i64 1024) = some (.bool false) := (fGtr_nn s.size 1024).trans (by rw [blt_f (by omega)])
  have c4 : fAdd (.int .i64 0) (cN s) = some (cN s) := fAdd_0n (by omega)
  have c5 : fold2 max2 [.int .i64 0, cN s] = some (cN s) := max2_0n s.size
  have c6 : makeS 1 1 #[.int .u8 0] (cN s) (cN s) = some (.cells (cZ s) none, mkSlc s.size s.size) := makeS_nn (by omega) _
  have c7 : Nat.min 0 s.size = 0 ∧ 0 ≤ (cZ s).length ∧ cZ s = cZ s := ⟨Nat.zero_min _, Nat.zero_le _, rfl⟩
  have c8 : copyL 1 (cZ s) 0 s.size (cD s) 0 s.size = some (cD s) := copyL_whole (by simp [cZ]) (by simp [cD]) (map_plain _)
  have c9 : strL (cD s) 0 s.size = some s := strL_whole s
  have hr : ∀ {r : Nat}, x.toNat % 5 = r → binInt .rem (.int .u8 (x.toNat : Int)) (.int .u8 5) = some (.int .u8 (r : Int)) := fun h => rem_u8 h
  have h5 : x.toNat % 5 < 5 := Nat.mod_lt _ (by decide)
  by_cases h0 : x.toNat % 5 = 0
  · cases e with
    | true => exact told rfl hk ((way1 _ s).mpr ⟨c1, hr h0, c2, c3, c4, c5, c6, c7, cutV_0 _ _, c8, c4, c9, neq_self s, trivial⟩)
    | false => exact told rfl hk ((way2 _ s).mpr ⟨c1, hr h0, c2, c3, c4, c5, c6, c7, cutV_0 _ _, c8, c4, c9, neq_self s, trivial⟩)
  by_cases h1 : x.toNat % 5 = 1
  · cases e with
    | true => exact told rfl hk ((way3 _ s).mpr ⟨c1, hr h1, c2, c3, c4, c5, c6, c7, cutV_0 _ _, c8, c4, c9, neq_self s, trivial⟩)
    | false => exact told rfl hk ((way4 _ s).mpr ⟨c1, hr h1, c2, c3, c4, c5, c6, c7, cutV_0 _ _, c8, c4, c9, neq_self s, trivial⟩)
  by_cases h2 : x.toNat % 5 = 2
  · cases e with
    | true => exact told rfl hk ((way5 _ s).mpr ⟨c1, hr h2, c2, c3, c4, c5, c6, c7, cutV_0 _ _, c8, c4, c9, neq_self s, trivial⟩)
    | false => exact told rfl hk ((way6 _ s).mpr ⟨c1, hr h2, c2, c3, c4, c5, c6, c7, cutV_0 _ _, c8, c4, c9, neq_self s, trivial⟩)
  by_cases h3 : x.toNat % 5 = 3
  · cases e with
    | true => exact told rfl hk ((way7 _ s).mpr ⟨c1, hr h3, c2, c3, c4, c5, c6, c7, cutV_0 _ _, c8, c4, c9, neq_self s, trivial⟩)
    | false => exact told rfl hk ((way8 _ s).mpr ⟨c1, hr h3, c2, c3, c4, c5, c6, c7, cutV_0 _ _, c8, c4, c9, neq_self s, trivial⟩)
  by_cases h4 : x.toNat % 5 = 4
  · cases e with
    | true => exact told rfl hk ((way9 _ s).mpr ⟨c1, hr h4, c2, c3, c4, c5, c6, c7, cutV_0 _ _, c8, c4, c9, neq_self s, trivial⟩)
    | false => exact told rfl hk ((way10 _ s).mpr ⟨c1, hr h4, c2, c3, c4, c5, c6, c7, cutV_0 _ _, c8, c4, c9, neq_self s, trivial⟩)
  omega
end Go.Proofs.YtfobgbnjicmnaaaGreatDoor.kernelOrphans
