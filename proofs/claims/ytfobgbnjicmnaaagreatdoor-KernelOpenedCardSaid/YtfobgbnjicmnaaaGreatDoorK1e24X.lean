/- THE WAYS, AS A CONTRACT: whatever the arguments, the call returns true and leaves what was there as it was. -/
import Derived.Test.YtfobgbnjicmnaaaGreatDoorK1e24G0
import Derived.Test.YtfobgbnjicmnaaaGreatDoorK1e24G1
import Derived.Test.YtfobgbnjicmnaaaGreatDoorK1e24G2
import Derived.Test.YtfobgbnjicmnaaaGreatDoorK1e24G3
import Derived.Test.YtfobgbnjicmnaaaGreatDoorK1e24RA
import Derived.Test.YtfobgbnjicmnaaaGreatDoorK1e24R0
import Derived.Test.YtfobgbnjicmnaaaGreatDoorK1e24R1
import Derived.Test.YtfobgbnjicmnaaaGreatDoorK1e24R2
import Derived.Test.YtfobgbnjicmnaaaGreatDoorK1e24R3
import Derived.Test.YtfobgbnjicmnaaaGreatDoorK1e24R4
import Derived.Test.YtfobgbnjicmnaaaGreatDoorK1e24R5
import Derived.Test.YtfobgbnjicmnaaaGreatDoorK1e24R6
import Derived.Test.YtfobgbnjicmnaaaGreatDoorK1e24R7
import Derived.Test.YtfobgbnjicmnaaaGreatDoorK1e24R8
import Derived.Test.YtfobgbnjicmnaaaGreatDoorK1e24R9
import Derived.Test.YtfobgbnjicmnaaaGreatDoorK1e24R10
import Derived.Test.YtfobgbnjicmnaaaGreatDoorK1e24R11
import Derived.Test.YtfobgbnjicmnaaaGreatDoorK1e24R12
import Derived.Test.YtfobgbnjicmnaaaGreatDoorK1e24R13
import Derived.Test.YtfobgbnjicmnaaaGreatDoorK1e24R14
import Derived.Test.YtfobgbnjicmnaaaGreatDoorK1e24R15
set_option linter.all false
set_option maxRecDepth 100000
set_option maxHeartbeats 4000000
namespace Go.Proofs.YtfobgbnjicmnaaaGreatDoor.kernelOpened
open Go.AM
theorem good (f : Nat) (h : tb mask f = true) : goodN Tryz.prog f = true := by
  by_cases h0 : f < 114
  · exact goodR_at good0 f (by omega) (by omega) h
  by_cases h1 : f < 228
  · exact goodR_at good1 f (by omega) (by omega) h
  by_cases h2 : f < 342
  · exact goodR_at good2 f (by omega) (by omega) h
  by_cases h3 : f < 456
  · exact goodR_at good3 f (by omega) (by omega) h
  unfold goodN
  rw [show Tryz.prog.funcs[f]? = none from Array.getElem?_eq_none (by rw [show Tryz.prog.funcs.size = 453 from by kernel_rfl]; omega)]
theorem xOk : CallOk Tryz.prog (extX ids) := by
  rintro f args H K (⟨rfl, h⟩ | ⟨rfl, h⟩ | ⟨rfl, h⟩ | ⟨rfl, h⟩ | ⟨h, _⟩)
  · exact atomicAdd_told Tryz.func89 (by kernel_rfl) (by kernel_rfl) (by kernel_rfl) (by kernel_rfl) h
  · exact atomicLoad_told Tryz.func115 (by kernel_rfl) (by kernel_rfl) (by kernel_rfl) (by kernel_rfl) h
  · exact byteCount_told Tryz.func389 (by kernel_rfl) (by kernel_rfl) (by kernel_rfl) (by kernel_rfl) h
  · exact byteIndex_told Tryz.func406 (by kernel_rfl) (by kernel_rfl) (by kernel_rfl) (by kernel_rfl) h
  · cases h
theorem awakeTold {H : AH} {K : Value → AH → Prop} (hk : K (.bool true) H) : AM.Told Tryz.prog 11 [] H K :=
  run_told (by kernel_rfl) (L := lib0) (ext := extX ids) (fun f fn h => libX_fn good h) (fun f callk _ args H k K _ hk h => libX_ext (fun _ _ _ _ h => h) f callk args H k K hk h) xOk rfl rfl rfl (awake ▸ trivial) hk
theorem goodA (f : Nat) (h : tb maskA f = true) : goodN Tryz.prog f = true := good f (by
  revert h
  have hb : ∀ m k n : Nat, tb m n = m.testBit n := fun m _ n => by
    unfold tb
    rw [Nat.testBit_eq_decide_div_mod_eq, nbeq]
    show decide (m >>> n % 2 = 1) = _
    rw [Nat.shiftRight_eq_div_pow]
  rw [hb maskA 0 f, hb mask 0 f]
  have e : maskA = mask &&& maskA := by decide +kernel
  intro h
  rw [e, Nat.testBit_and, Bool.and_eq_true] at h
  exact h.1)
theorem xOkA : CallOk Tryz.prog (extX idsA) := by
  rintro f args H K (⟨rfl, h⟩ | ⟨rfl, h⟩ | ⟨rfl, h⟩ | ⟨rfl, h⟩ | ⟨hs, rfl, h⟩)
  · exact atomicAdd_told Tryz.func89 (by kernel_rfl) (by kernel_rfl) (by kernel_rfl) (by kernel_rfl) h
  · exact atomicLoad_told Tryz.func115 (by kernel_rfl) (by kernel_rfl) (by kernel_rfl) (by kernel_rfl) h
  · exact byteCount_told Tryz.func389 (by kernel_rfl) (by kernel_rfl) (by kernel_rfl) (by kernel_rfl) h
  · exact byteIndex_told Tryz.func406 (by kernel_rfl) (by kernel_rfl) (by kernel_rfl) (by kernel_rfl) h
  · cases hs
    exact awakeTold h
theorem told {st : Nat → Nat → Nat → Option Ast} {args : List Value} (hargs : args.all flat = true) {H : AH} {K : Value → AH → Prop} (hk : K (.bool true) H) (h : runF Tryz.prog (base0 Tryz.prog) (lib st) 60 4 args run0 (isV (.bool true))) : AM.Told Tryz.prog 4 args H K :=
  run_told (by kernel_rfl) (L := lib st) (ext := extX idsA) (fun f fn h => libX_fn goodA h) (fun f callk _ args H k K _ hk h => libX_ext (fun _ _ _ _ h => h) f callk args H k K hk h) xOkA hargs rfl rfl h hk
def isArgs (args : List Value) : Prop := ∃ (x : BitVec 16) (y : BitVec 8) (s : ByteArray), args = [.int .u16 (x.toNat : Int), .int .u8 (y.toNat : Int), .string s]
def ext : CallT := fun f args H Q => f = 4 ∧ isArgs args ∧ Q (.bool true) H
noncomputable def kps (f : FuncId) : Keep := kpsR Tryz.prog f
theorem extOk : CallOk Tryz.prog ext := by
  rintro f args H K ⟨rfl, ha, hk⟩
  obtain ⟨x, y, s, rfl⟩ := ha
  by_cases hs : 100 < s.size
  · exact told (st := stLong) rfl hk ((way0 x y s).mpr ⟨(fGtr_nn s.size 100).trans (by rw [blt_t hs]), trivial⟩)
  have c1 : fGtr (cN s) (.int .i64 100) = some (.bool false) := (fGtr_nn s.size 100).trans (by rw [blt_f hs])
  have c2 : bytesO (.string s) = some (.cells (cD s) (some 1), mkSlc s.size s.size) := bytesO_s (by omega)
  have c3 : fGtr (cN s) (.int .i64 1024) = some (.bool false) := (fGtr_nn s.size 1024).trans (by rw [blt_f (by omega)])
  have c4 : fAdd (.int .i64 0) (cN s) = some (cN s) := fAdd_0n (by omega)
  have c5 : fold2 max2 [.int .i64 0, cN s] = some (cN s) := max2_0n s.size
  have c6 : makeS 1 1 #[.int .u8 0] (cN s) (cN s) = some (.cells (cZ s) none, mkSlc s.size s.size) := makeS_nn (by omega) _
  have c7 : Nat.min 0 s.size = 0 ∧ 0 ≤ (cZ s).length ∧ cZ s = cZ s := ⟨Nat.zero_min _, Nat.zero_le _, rfl⟩
  have c8 : copyL 1 (cZ s) 0 s.size (cD s) 0 s.size = some (cD s) := copyL_whole (by simp [cZ]) (by simp [cD]) (map_plain _)
  have c9 : strL (cD s) 0 s.size = some s := strL_whole s
  have e4 : fAdd (.int .i64 0) (.int .i64 ((0 + s.size : Nat) : Int)) = some (cN s) := by rw [Nat.zero_add]; exact c4
  have e9 : strL (cD s) 0 (0 + s.size) = some s := by rw [Nat.zero_add]; exact c9
  have d2 : fSub (cN s) (.int .i64 0) = some (cN s) := fSub_n0 (by omega)
  have d3 : fold2 min2 [.int .i64 500, cN s] = some (cN s) := min2_nn (a := 500) (by omega)
  have hd : (cD s).length = s.size := by simp [cD]
  have h1 : binInt .and (.int .u16 (x.toNat : Int)) (.int .u16 2047) = some (cH x) := and_u16 x 2047#16
  have h2 : binInt .andNot (cH x) (.int .u16 51199) = some (.int .u16 0) := by
    have e : (x &&& 2047#16) &&& ~~~51199#16 = 0#16 := by
      rw [BitVec.and_assoc, show (2047#16 &&& ~~~51199#16) = 0#16 by decide, BitVec.and_zero]
    have := andNot_u16 (x &&& 2047#16) 51199#16
    rw [e] at this
    exact this
  have hr : ∀ {r : Nat}, y.toNat % 3 = r → binInt .rem (.int .u8 (y.toNat : Int)) (.int .u8 3) = some (.int .u8 (r : Int)) := fun h => remK_u8 (k := 3) (by decide) h
  have hm : ∀ {m : BitVec 16} {k : Nat}, (m &&& (x &&& 2047#16)).toNat = k → binInt .and (.int .u16 (m.toNat : Int)) (cH x) = some (.int .u16 (k : Int)) := fun {m k} h => by
    have := and_u16 m (x &&& 2047#16)
    rw [h] at this
    exact this
  have h3 : y.toNat % 3 < 3 := Nat.mod_lt _ (by decide)
  have m4 := and_few 4#16 (x &&& 2047#16)
  have m2 := and_few 2#16 (x &&& 2047#16)
  have m6 := and_few 6#16 (x &&& 2047#16)
  have mt := and_few 1024#16 (x &&& 2047#16)
  have f4 : (4#16 &&& (x &&& 2047#16)).toNat = 0 ∨ (4#16 &&& (x &&& 2047#16)).toNat = 4 := by
    rw [show ((List.range ((4#16 : BitVec 16).toNat + 1)).filter fun k => BitVec.ofNat 16 k &&& 4#16 == BitVec.ofNat 16 k) = [0, 4] by decide +kernel] at m4; simpa using m4
  have f2 : (2#16 &&& (x &&& 2047#16)).toNat = 0 ∨ (2#16 &&& (x &&& 2047#16)).toNat = 2 := by
    rw [show ((List.range ((2#16 : BitVec 16).toNat + 1)).filter fun k => BitVec.ofNat 16 k &&& 2#16 == BitVec.ofNat 16 k) = [0, 2] by decide +kernel] at m2; simpa using m2
  have f6 : (6#16 &&& (x &&& 2047#16)).toNat = 0 ∨ (6#16 &&& (x &&& 2047#16)).toNat = 2 ∨ (6#16 &&& (x &&& 2047#16)).toNat = 4 ∨ (6#16 &&& (x &&& 2047#16)).toNat = 6 := by
    rw [show ((List.range ((6#16 : BitVec 16).toNat + 1)).filter fun k => BitVec.ofNat 16 k &&& 6#16 == BitVec.ofNat 16 k) = [0, 2, 4, 6] by decide +kernel] at m6; simpa using m6
  have ft : (1024#16 &&& (x &&& 2047#16)).toNat = 0 ∨ (1024#16 &&& (x &&& 2047#16)).toNat = 1024 := by
    rw [show ((List.range ((1024#16 : BitVec 16).toNat + 1)).filter fun k => BitVec.ofNat 16 k &&& 1024#16 == BitVec.ofNat 16 k) = [0, 1024] by decide +kernel] at mt; simpa using mt
  by_cases hy : y.toNat % 3 = 0
  · rcases f4 with g | g
    · exact told rfl hk ((way1 x y s).mpr ⟨c1, h1, h2, hr hy, rfl, hm (m := 4#16) g, hm (m := 4#16) g, trivial⟩)
    · exact told rfl hk ((way2 x y s).mpr ⟨c1, h1, h2, hr hy, rfl, hm (m := 4#16) g, hm (m := 4#16) g, trivial⟩)
  by_cases hy : y.toNat % 3 = 1
  · rcases f2 with g | g
    · rcases ft with gt | gt
      · exact told rfl hk ((way3 x y s).mpr ⟨c1, h1, h2, hr hy, rfl, c2, c3, c4, c5, c6, c7, cutV_0 _ _, c8, c4, hm (m := 2#16) g, hm (m := 1024#16) gt, hm (m := 2#16) g, trivial⟩)
      · exact told rfl hk ((way4 x y s).mpr ⟨c1, h1, h2, hr hy, rfl, c2, c3, c4, c5, c6, c7, cutV_0 _ _, c8, c4, hm (m := 2#16) g, hm (m := 1024#16) gt, hm (m := 2#16) g, trivial⟩)
    · exact told rfl hk ((way5 x y s).mpr ⟨c1, h1, h2, hr hy, rfl, c2, c3, c4, c5, c6, c7, cutV_0 _ _, c8, c4, hm (m := 2#16) g, hm (m := 2#16) g, trivial⟩)
  have hy : y.toNat % 3 = 2 := by omega
  by_cases h0 : s.size = 0
  · have : s = ⟨#[]⟩ := by
      cases s with
      | mk d => exact congrArg ByteArray.mk (Array.eq_empty_of_size_eq_zero h0)
    subst this
    rcases f6 with g | g | g | g
    · rcases ft with gt | gt
      · exact told rfl hk ((way7 x y).mpr ⟨h1, h2, hr hy, rfl, hm (m := 6#16) g, hm (m := 1024#16) gt, hm (m := 6#16) g, trivial⟩)
      · exact told rfl hk ((way9 x y).mpr ⟨h1, h2, hr hy, rfl, hm (m := 6#16) g, hm (m := 1024#16) gt, hm (m := 6#16) g, trivial⟩)
    · exact told rfl hk ((way11 x y).mpr ⟨h1, h2, hr hy, rfl, hm (m := 6#16) g, hm (m := 6#16) g, trivial⟩)
    · exact told rfl hk ((way13 x y).mpr ⟨h1, h2, hr hy, rfl, hm (m := 6#16) g, hm (m := 6#16) g, trivial⟩)
    · exact told rfl hk ((way15 x y).mpr ⟨h1, h2, hr hy, rfl, hm (m := 6#16) g, hm (m := 6#16) g, trivial⟩)
  have d1 : fGeq (.int .i64 0) (cN s) = some (.bool false) := (fGeq_nn 0 s.size).trans (by rw [ble_f (by omega)])
  have d6 : appL 1 1 [] 0 0 0 (cD s) 0 s.size = some (cD s) := appL_0 (by omega) (by omega) hd (map_plain _)
  rcases f6 with g | g | g | g
  · rcases ft with gt | gt
    · exact told rfl hk ((way6 x y s).mpr ⟨c1, h1, h2, hr hy, rfl, c2, c3, c4, c5, c6, c7, cutV_0 _ _, c8, c4, d1, d2, d3, c4, cutV_0n _ _, d6, e4, hm (m := 6#16) g, hm (m := 1024#16) gt, hm (m := 6#16) g, e9, eql_self s, trivial⟩)
    · exact told rfl hk ((way8 x y s).mpr ⟨c1, h1, h2, hr hy, rfl, c2, c3, c4, c5, c6, c7, cutV_0 _ _, c8, c4, d1, d2, d3, c4, cutV_0n _ _, d6, e4, hm (m := 6#16) g, hm (m := 1024#16) gt, hm (m := 6#16) g, e9, eql_self s, trivial⟩)
  · exact told rfl hk ((way10 x y s).mpr ⟨c1, h1, h2, hr hy, rfl, c2, c3, c4, c5, c6, c7, cutV_0 _ _, c8, c4, d1, d2, d3, c4, cutV_0n _ _, d6, e4, hm (m := 6#16) g, hm (m := 6#16) g, e9, eql_self s, trivial⟩)
  · exact told rfl hk ((way12 x y s).mpr ⟨c1, h1, h2, hr hy, rfl, c2, c3, c4, c5, c6, c7, cutV_0 _ _, c8, c4, d1, d2, d3, c4, cutV_0n _ _, d6, e4, hm (m := 6#16) g, hm (m := 6#16) g, e9, eql_self s, trivial⟩)
  · exact told rfl hk ((way14 x y s).mpr ⟨c1, h1, h2, hr hy, rfl, c2, c3, c4, c5, c6, c7, cutV_0 _ _, c8, c4, d1, d2, d3, c4, cutV_0n _ _, d6, e4, hm (m := 6#16) g, hm (m := 6#16) g, e9, eql_self s, trivial⟩)
end Go.Proofs.YtfobgbnjicmnaaaGreatDoor.kernelOpened
