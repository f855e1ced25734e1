/- THE WAYS, AS A CONTRACT: whatever the arguments, the call returns true and leaves what was there as it was. -/
import Derived.Test.YtfobgbnjicmnaaaGreatDoorK2206G0
import Derived.Test.YtfobgbnjicmnaaaGreatDoorK2206G1
import Derived.Test.YtfobgbnjicmnaaaGreatDoorK2206G2
import Derived.Test.YtfobgbnjicmnaaaGreatDoorK2206G3
import Derived.Test.YtfobgbnjicmnaaaGreatDoorK2206RA
import Derived.Test.YtfobgbnjicmnaaaGreatDoorK2206R0
import Derived.Test.YtfobgbnjicmnaaaGreatDoorK2206R1
import Derived.Test.YtfobgbnjicmnaaaGreatDoorK2206R2
import Derived.Test.YtfobgbnjicmnaaaGreatDoorK2206R3
import Derived.Test.YtfobgbnjicmnaaaGreatDoorK2206R4
import Derived.Test.YtfobgbnjicmnaaaGreatDoorK2206R5
import Derived.Test.YtfobgbnjicmnaaaGreatDoorK2206R6
import Derived.Test.YtfobgbnjicmnaaaGreatDoorK2206R7
import Derived.Test.YtfobgbnjicmnaaaGreatDoorK2206R8
import Derived.Test.YtfobgbnjicmnaaaGreatDoorK2206R9
set_option linter.all false
set_option maxRecDepth 100000
set_option maxHeartbeats 4000000
namespace Go.Proofs.YtfobgbnjicmnaaaGreatDoor.kernelFiles
open Go.AM
theorem good (f : Nat) (h : tb mask f = true) : goodN Tryz.prog f = true := by
  by_cases h0 : f < 114
  · exact goodR_at good0 f (by omega) (by omega) h
  by_cases h1 : f < 228
  · exact goodR_at good1 f (by omega) (by omega) h
  by_cases h2 : f < 342
  · exact goodR_at good2 f (by omega) (by omega) h
  by_cases h3 : f < 456
  · exact goodR_at good3 f (by omega) (by omega) h
  unfold goodN
  rw [show Tryz.prog.funcs[f]? = none from Array.getElem?_eq_none (by rw [show Tryz.prog.funcs.size = 453 from by kernel_rfl]; omega)]
theorem xOk : CallOk Tryz.prog (extX ids) := by
  rintro f args H K (⟨rfl, h⟩ | ⟨rfl, h⟩ | ⟨rfl, h⟩ | ⟨rfl, h⟩ | ⟨h, _⟩)
  · exact atomicAdd_told Tryz.func89 (by kernel_rfl) (by kernel_rfl) (by kernel_rfl) (by kernel_rfl) h
  · exact atomicLoad_told Tryz.func115 (by kernel_rfl) (by kernel_rfl) (by kernel_rfl) (by kernel_rfl) h
  · exact byteCount_told Tryz.func389 (by kernel_rfl) (by kernel_rfl) (by kernel_rfl) (by kernel_rfl) h
  · exact byteIndex_told Tryz.func406 (by kernel_rfl) (by kernel_rfl) (by kernel_rfl) (by kernel_rfl) h
  · cases h
theorem awakeTold {H : AH} {K : Value → AH → Prop} (hk : K (.bool true) H) : AM.Told Tryz.prog 11 [] H K :=
  run_told (by kernel_rfl) (L := lib0) (ext := extX ids) (fun f fn h => libX_fn good h) (fun f callk _ args H k K _ hk h => libX_ext (fun _ _ _ _ h => h) f callk args H k K hk h) xOk rfl rfl rfl (awake ▸ trivial) hk
theorem goodA (f : Nat) (h : tb maskA f = true) : goodN Tryz.prog f = true := good f (by
  revert h
  have hb : ∀ m k n : Nat, tb m n = m.testBit n := fun m _ n => by
    unfold tb
    rw [Nat.testBit_eq_decide_div_mod_eq, nbeq]
    show decide (m >>> n % 2 = 1) = _
    rw [Nat.shiftRight_eq_div_pow]
  rw [hb maskA 0 f, hb mask 0 f]
  have e : maskA = mask &&& maskA := by decide +kernel
  intro h
  rw [e, Nat.testBit_and, Bool.and_eq_true] at h
  exact h.1)
theorem xOkA : CallOk Tryz.prog (extX idsA) := by
  rintro f args H K (⟨rfl, h⟩ | ⟨rfl, h⟩ | ⟨rfl, h⟩ | ⟨rfl, h⟩ | ⟨hs, rfl, h⟩)
  · exact atomicAdd_told Tryz.func89 (by kernel_rfl) (by kernel_rfl) (by kernel_rfl) (by kernel_rfl) h
  · exact atomicLoad_told Tryz.func115 (by kernel_rfl) (by kernel_rfl) (by kernel_rfl) (by kernel_rfl) h
  · exact byteCount_told Tryz.func389 (by kernel_rfl) (by kernel_rfl) (by kernel_rfl) (by kernel_rfl) h
  · exact byteIndex_told Tryz.func406 (by kernel_rfl) (by kernel_rfl) (by kernel_rfl) (by kernel_rfl) h
  · cases hs
    exact awakeTold h
theorem told {st : Nat → Nat → Nat → Option Ast} {args : List Value} (hargs : args.all flat = true) {H : AH} {K : Value → AH → Prop} (hk : K (.bool true) H) (h : runF Tryz.prog (base0 Tryz.prog) (lib st) 60 3 args run0 (isV (.bool true))) : AM.Told Tryz.prog 3 args H K :=
  run_told (by kernel_rfl) (L := lib st) (ext := extX idsA) (fun f fn h => libX_fn goodA h) (fun f callk _ args H k K _ hk h => libX_ext (fun _ _ _ _ h => h) f callk args H k K hk h) xOkA hargs rfl rfl h hk
theorem toldE {st : Nat → Nat → Nat → Option Ast} {args : List Value} {C : Prop} (e : runF Tryz.prog (base0 Tryz.prog) (lib st) 60 3 args run0 (isV (.bool true)) = C) (hargs : args.all flat = true) {H : AH} {K : Value → AH → Prop} (hk : K (.bool true) H) (c : C) : AM.Told Tryz.prog 3 args H K := told hargs hk (Eq.mpr e c)
def isArgs (args : List Value) : Prop := ∃ (b c : ByteArray) (x y : BitVec 16), args = [.string b, .string c, .int .u16 (x.toNat : Int), .int .u16 (y.toNat : Int)]
def ext : CallT := fun f args H Q => f = 3 ∧ isArgs args ∧ Q (.bool true) H
noncomputable def kps (f : FuncId) : Keep := kpsR Tryz.prog f
theorem extOk : CallOk Tryz.prog ext := by
  rintro f args H K ⟨rfl, ha, hk⟩
  obtain ⟨b, c, x, y, rfl⟩ := ha
  by_cases hb : 100 < b.size
  · exact toldE (way0 b c x y) rfl hk ⟨gtr_t .i64 (b := 100) hb, trivial⟩
  by_cases hc : 100 < c.size
  · exact toldE (way1 b c x y) rfl hk ⟨gtr_f .i64 (b := 100) hb, gtr_t .i64 (b := 100) hc, trivial⟩
  obtain ⟨n, hn⟩ : ∃ n, n = x.toNat % 800 := ⟨_, rfl⟩
  obtain ⟨m, hm'⟩ : ∃ m, m = y.toNat % 900 := ⟨_, rfl⟩
  have hxn : binInt .rem (.int .u16 (x.toNat : Int)) (.int .u16 800) = some (.int .u16 (n : Int)) := by rw [hn]; exact rem_u16 (k := 800) (by decide)
  have hym : binInt .rem (.int .u16 (y.toNat : Int)) (.int .u16 900) = some (.int .u16 (m : Int)) := by rw [hm']; exact rem_u16 (k := 900) (by decide)
  have bn : n < 800 := by rw [hn]; exact Nat.mod_lt _ (by decide)
  have bm : m < 900 := by rw [hm']; exact Nat.mod_lt _ (by decide)
  clear hn hm'
  have h1 := L2_b b c n
  have h2 := L2_c b c n
  have h3 : L2 b c n ≤ 1000 := L2_u (by omega) (by omega)
  by_cases h0 : c.size = 0
  · have : c = ⟨#[]⟩ := by
      cases c with
      | mk d => exact congrArg ByteArray.mk (Array.eq_empty_of_size_eq_zero h0)
    subst this
    by_cases hg : n < b.size
    · by_cases hm : m = 0
      · subst hm
        exact toldE (way2 b x y n) rfl hk ⟨(gtr_f .i64 (b := 100) (by omega)), hxn, (fConv_n .u64 .u16 (show n < 9223372036854775808 by omega)), hym, (bytesO_s (by omega)), (gtr_f .i64 (b := 1024) (by omega)), (fAdd_0n (by omega)), (max2_0n _), (by rw [cB_zB]; exact makeS_nn (by omega) _), ⟨Nat.zero_min _, Nat.zero_le _, rfl⟩, (cutV_0 _ _), (copyL_whole (by rw [cB_len, zB_len]) (by rw [cB_len]; exact bl b) (cB_plain _)), (fAdd_0n (by omega)), (gtr_f .u64 (b := 1024) (by omega)), (fConv_n .i64 .u64 (show n < 9223372036854775808 by omega)), (lss_f .i64 (b := 0) (by omega)), (gtr_f .i64 (b := 1024) (by omega)), (fSub_nn (a := 1024) (by omega) (by omega)), (gtr_f .i64 (a := 0) (by omega)), (fAdd_nn (b := 0) (by omega)), (max2_nn _ _), (by rw [cB_zB]; exact makeS_nn (by omega) _), (copyB (by rw [zB_len]; omega) (by rw [bl]; omega)), (cutV_from .i64 _ (by omega)), cE_gt, (fAdd_nn (b := 0) (by omega)), (fConv_n .i64 .u64 (show n < 9223372036854775808 by omega)), (fAdd_nn (b := 0) (by omega)), (max2_nn _ _), (by rw [cB_zB]; exact makeS_nn (by omega) _), (fConv_n .i64 .u64 (show n < 9223372036854775808 by omega)), (max2_nn _ _), (by rw [cB_zB]; exact makeS_nn (by omega) _), ⟨rfl, (copyB (by rw [zB_len]; omega) (by rw [bl]; omega))⟩, (cutV_from .u64 _ (by omega)), ⟨rfl, cE_gt⟩, (geq_f .i64 (a := 0) (by omega)), (fSub_n0 (by omega)), (min2_nn (a := 1024) (by omega)), (fAdd_0n (by omega)), (cutV_0n _ _), (appL_B (by omega) (by omega) (E2_len _ _ _)), (by rw [Nat.zero_add]; exact fAdd_0n (by omega)), cG_0, cG_0, (eql_t .i64 _), (fConv_n .i64 .u64 (show n < 9223372036854775808 by omega)), (eql_t .i64 _), (strL_B (by rw [Nat.zero_add]; exact E2_len _ _ _)), (strL_B (E2_len _ _ _)), (eql_self _), trivial⟩
      exact toldE (way3 b x y n m) rfl hk ⟨(gtr_f .i64 (b := 100) (by omega)), hxn, (fConv_n .u64 .u16 (show n < 9223372036854775808 by omega)), hym, (fConv_n .u64 .u16 (show m < 9223372036854775808 by omega)), (bytesO_s (by omega)), (gtr_f .i64 (b := 1024) (by omega)), (fAdd_0n (by omega)), (max2_0n _), (by rw [cB_zB]; exact makeS_nn (by omega) _), ⟨Nat.zero_min _, Nat.zero_le _, rfl⟩, (cutV_0 _ _), (copyL_whole (by rw [cB_len, zB_len]) (by rw [cB_len]; exact bl b) (cB_plain _)), (fAdd_0n (by omega)), (gtr_f .u64 (b := 1024) (by omega)), (fConv_n .i64 .u64 (show n < 9223372036854775808 by omega)), (lss_f .i64 (b := 0) (by omega)), (gtr_f .i64 (b := 1024) (by omega)), (fSub_nn (a := 1024) (by omega) (by omega)), (gtr_f .i64 (a := 0) (by omega)), (fAdd_nn (b := 0) (by omega)), (max2_nn _ _), (by rw [cB_zB]; exact makeS_nn (by omega) _), (copyB (by rw [zB_len]; omega) (by rw [bl]; omega)), (cutV_from .i64 _ (by omega)), cE_gt, (fAdd_nn (b := 0) (by omega)), (fConv_n .i64 .u64 (show n < 9223372036854775808 by omega)), (fAdd_nn (b := 0) (by omega)), (max2_nn _ _), (by rw [cB_zB]; exact makeS_nn (by omega) _), (fConv_n .i64 .u64 (show n < 9223372036854775808 by omega)), (max2_nn _ _), (by rw [cB_zB]; exact makeS_nn (by omega) _), ⟨rfl, (copyB (by rw [zB_len]; omega) (by rw [bl]; omega))⟩, (cutV_from .u64 _ (by omega)), ⟨rfl, cE_gt⟩, (geq_f .i64 (a := 0) (by omega)), (fSub_n0 (by omega)), (min2_nn (a := 1024) (by omega)), (fAdd_0n (by omega)), (cutV_0n _ _), (appL_B (by omega) (by omega) (E2_len _ _ _)), (by rw [Nat.zero_add]; exact fAdd_0n (by omega)), (gtr_f .u64 (b := 1024) (by omega)), (fConv_n .i64 .u64 (show m < 9223372036854775808 by omega)), (lss_f .i64 (b := 0) (by omega)), (gtr_f .i64 (b := 1024) (by omega)), (by rw [cB_zB]; exact makeS_nn (by omega) _), cG, (geq_f .i64 (a := 0) (by omega)), (fSub_n0 (by omega)), (min2_nn (a := 1024) (by omega)), (fAdd_0n (by omega)), (cutV_0n _ _), (appL_B (by omega) (by omega) (eG_len _ _ _ _)), (by rw [Nat.zero_add]; exact fAdd_0n (by omega)), (by rw [cB_zB]; exact makeS_nn (by omega) _), cG, (eql_t .i64 _), (fConv_n .i64 .u64 (show n < 9223372036854775808 by omega)), (eql_t .i64 _), (strL_B (by rw [Nat.zero_add]; exact E2_len _ _ _)), (strL_B (E2_len _ _ _)), (eql_self _), (strL_B (by rw [Nat.zero_add]; exact eG_len _ _ _ _)), (strL_B (eG_len _ _ _ _)), (eql_self _), trivial⟩
    by_cases hz : n = 0
    · have : b = ⟨#[]⟩ := by
        cases b with
        | mk d => exact congrArg ByteArray.mk (Array.eq_empty_of_size_eq_zero (show d.size = 0 from by have : d.size = (ByteArray.mk d).size := rfl; omega))
      subst this
      subst hz
      by_cases hm : m = 0
      · subst hm
        exact toldE (way4 x y) rfl hk ⟨hxn, hym, trivial⟩
      exact toldE (way5 x y m) rfl hk ⟨hxn, hym, (fConv_n .u64 .u16 (show m < 9223372036854775808 by omega)), (gtr_f .u64 (b := 1024) (by omega)), (fConv_n .i64 .u64 (show m < 9223372036854775808 by omega)), (lss_f .i64 (b := 0) (by omega)), (gtr_f .i64 (b := 1024) (by omega)), (by rw [cB_zB]; exact makeS_nn (by omega) _), cG_z, (geq_f .i64 (a := 0) (by omega)), (fSub_n0 (by omega)), (min2_nn (a := 1024) (by omega)), (fAdd_0n (by omega)), (cutV_0n _ _), (appL_B (by omega) (by omega) (eG_len _ _ _ _)), (by rw [Nat.zero_add]; exact fAdd_0n (by omega)), (by rw [cB_zB]; exact makeS_nn (by omega) _), cG_z, (strL_B (by rw [Nat.zero_add]; exact eG_len _ _ _ _)), (strL_B (eG_len _ _ _ _)), (eql_self _), trivial⟩
    have hend : L2 b ⟨#[]⟩ n = n := Nat.le_antisymm (L2_u (by omega) (Nat.le_of_eq (Nat.add_zero n))) (by omega)
    by_cases hm : m = 0
    · subst hm
      exact toldE (way6 b x y n) rfl hk ⟨(gtr_f .i64 (b := 100) (by omega)), hxn, (fConv_n .u64 .u16 (show n < 9223372036854775808 by omega)), hym, (bytesO_s (by omega)), (gtr_f .i64 (b := 1024) (by omega)), (fAdd_0n (by omega)), (max2_0n _), (by rw [cB_zB]; exact makeS_nn (by omega) _), ⟨Nat.zero_min _, Nat.zero_le _, rfl⟩, (cutV_0 _ _), (copyL_whole (by rw [cB_len, zB_len]) (by rw [cB_len]; exact bl b) (cB_plain _)), (fAdd_0n (by omega)), (gtr_f .u64 (b := 1024) (by omega)), (fConv_n .i64 .u64 (show n < 9223372036854775808 by omega)), (lss_f .i64 (b := 0) (by omega)), (gtr_f .i64 (b := 1024) (by omega)), (fSub_nn (a := 1024) (by omega) (by omega)), (gtr_f .i64 (a := 0) (by omega)), (fAdd_nn (b := 0) (by omega)), (max2_nn _ _), (by rw [cB_zB]; exact makeS_nn (by omega) _), (copyB (by rw [zB_len]; omega) (by rw [bl]; omega)), (cutV_end' .i64 _ hend), cE_end, (fAdd_nn (b := 0) (by omega)), (fConv_n .i64 .u64 (show n < 9223372036854775808 by omega)), (fAdd_nn (b := 0) (by omega)), (max2_nn _ _), (by rw [cB_zB]; exact makeS_nn (by omega) _), (fConv_n .i64 .u64 (show n < 9223372036854775808 by omega)), (max2_nn _ _), (by rw [cB_zB]; exact makeS_nn (by omega) _), ⟨rfl, (copyB (by rw [zB_len]; omega) (by rw [bl]; omega))⟩, (cutV_end' .u64 _ hend), ⟨rfl, cE_end⟩, (geq_f .i64 (a := 0) (by omega)), (fSub_n0 (by omega)), (min2_nn (a := 1024) (by omega)), (fAdd_0n (by omega)), (cutV_0n _ _), (appL_B (by omega) (by omega) (E2_len _ _ _)), (by rw [Nat.zero_add]; exact fAdd_0n (by omega)), cG_0, cG_0, (eql_t .i64 _), (fConv_n .i64 .u64 (show n < 9223372036854775808 by omega)), (eql_t .i64 _), (strL_B (by rw [Nat.zero_add]; exact E2_len _ _ _)), (strL_B (E2_len _ _ _)), (eql_self _), trivial⟩
    exact toldE (way7 b x y n m) rfl hk ⟨(gtr_f .i64 (b := 100) (by omega)), hxn, (fConv_n .u64 .u16 (show n < 9223372036854775808 by omega)), hym, (fConv_n .u64 .u16 (show m < 9223372036854775808 by omega)), (bytesO_s (by omega)), (gtr_f .i64 (b := 1024) (by omega)), (fAdd_0n (by omega)), (max2_0n _), (by rw [cB_zB]; exact makeS_nn (by omega) _), ⟨Nat.zero_min _, Nat.zero_le _, rfl⟩, (cutV_0 _ _), (copyL_whole (by rw [cB_len, zB_len]) (by rw [cB_len]; exact bl b) (cB_plain _)), (fAdd_0n (by omega)), (gtr_f .u64 (b := 1024) (by omega)), (fConv_n .i64 .u64 (show n < 9223372036854775808 by omega)), (lss_f .i64 (b := 0) (by omega)), (gtr_f .i64 (b := 1024) (by omega)), (fSub_nn (a := 1024) (by omega) (by omega)), (gtr_f .i64 (a := 0) (by omega)), (fAdd_nn (b := 0) (by omega)), (max2_nn _ _), (by rw [cB_zB]; exact makeS_nn (by omega) _), (copyB (by rw [zB_len]; omega) (by rw [bl]; omega)), (cutV_end' .i64 _ hend), cE_end, (fAdd_nn (b := 0) (by omega)), (fConv_n .i64 .u64 (show n < 9223372036854775808 by omega)), (fAdd_nn (b := 0) (by omega)), (max2_nn _ _), (by rw [cB_zB]; exact makeS_nn (by omega) _), (fConv_n .i64 .u64 (show n < 9223372036854775808 by omega)), (max2_nn _ _), (by rw [cB_zB]; exact makeS_nn (by omega) _), ⟨rfl, (copyB (by rw [zB_len]; omega) (by rw [bl]; omega))⟩, (cutV_end' .u64 _ hend), ⟨rfl, cE_end⟩, (geq_f .i64 (a := 0) (by omega)), (fSub_n0 (by omega)), (min2_nn (a := 1024) (by omega)), (fAdd_0n (by omega)), (cutV_0n _ _), (appL_B (by omega) (by omega) (E2_len _ _ _)), (by rw [Nat.zero_add]; exact fAdd_0n (by omega)), (gtr_f .u64 (b := 1024) (by omega)), (fConv_n .i64 .u64 (show m < 9223372036854775808 by omega)), (lss_f .i64 (b := 0) (by omega)), (gtr_f .i64 (b := 1024) (by omega)), (by rw [cB_zB]; exact makeS_nn (by omega) _), cG, (geq_f .i64 (a := 0) (by omega)), (fSub_n0 (by omega)), (min2_nn (a := 1024) (by omega)), (fAdd_0n (by omega)), (cutV_0n _ _), (appL_B (by omega) (by omega) (eG_len _ _ _ _)), (by rw [Nat.zero_add]; exact fAdd_0n (by omega)), (by rw [cB_zB]; exact makeS_nn (by omega) _), cG, (eql_t .i64 _), (fConv_n .i64 .u64 (show n < 9223372036854775808 by omega)), (eql_t .i64 _), (strL_B (by rw [Nat.zero_add]; exact E2_len _ _ _)), (strL_B (E2_len _ _ _)), (eql_self _), (strL_B (by rw [Nat.zero_add]; exact eG_len _ _ _ _)), (strL_B (eG_len _ _ _ _)), (eql_self _), trivial⟩
  by_cases hm : m = 0
  · subst hm
    exact toldE (way8 b c x y n) rfl hk ⟨(gtr_f .i64 (b := 100) (by omega)), (gtr_f .i64 (b := 100) (by omega)), hxn, (fConv_n .u64 .u16 (show n < 9223372036854775808 by omega)), hym, (bytesO_s (by omega)), (gtr_f .i64 (b := 1024) (by omega)), (fAdd_0n (by omega)), (max2_0n _), (by rw [cB_zB]; exact makeS_nn (by omega) _), ⟨Nat.zero_min _, Nat.zero_le _, rfl⟩, (cutV_0 _ _), (copyL_whole (by rw [cB_len, zB_len]) (by rw [cB_len]; exact bl b) (cB_plain _)), (fAdd_0n (by omega)), (gtr_f .u64 (b := 1024) (by omega)), (fConv_n .i64 .u64 (show n < 9223372036854775808 by omega)), (bytesO_s (by omega)), (lss_f .i64 (b := 0) (by omega)), (gtr_f .i64 (b := 1024) (by omega)), (fSub_nn (a := 1024) (by omega) (by omega)), (gtr_f .i64 (a := c.size) (by omega)), (fAdd_nn (b := c.size) (by omega)), (max2_nn _ _), (by rw [cB_zB]; exact makeS_nn (by omega) _), (copyB (by rw [zB_len]; omega) (by rw [bl]; omega)), (cutV_from .i64 _ (by omega)), (copyB (by rw [E1_len]; omega) (by rw [bl]; omega)), (fAdd_nn (b := c.size) (by omega)), (fConv_n .i64 .u64 (show n < 9223372036854775808 by omega)), (fAdd_nn (b := c.size) (by omega)), (max2_nn _ _), (by rw [cB_zB]; exact makeS_nn (by omega) _), (eql_f .i64 (b := 0) (by omega)), ⟨rfl, (copyB (by rw [zB_len]; omega) (by rw [bl]; omega))⟩, (cutV_from .u64 _ (by omega)), ⟨rfl, (copyB (by rw [E1_len]; omega) (by rw [bl]; omega))⟩, (geq_f .i64 (a := 0) (by omega)), (fSub_n0 (by omega)), (min2_nn (a := 1024) (by omega)), (fAdd_0n (by omega)), (cutV_0n _ _), (appL_B (by omega) (by omega) (E2_len _ _ _)), (by rw [Nat.zero_add]; exact fAdd_0n (by omega)), cG_0, cG_0, (eql_t .i64 _), (fConv_n .i64 .u64 (show n < 9223372036854775808 by omega)), (eql_t .i64 _), (eql_t .i64 _), (strL_B (by rw [Nat.zero_add]; exact E2_len _ _ _)), (strL_B (E2_len _ _ _)), (eql_self _), trivial⟩
  exact toldE (way9 b c x y n m) rfl hk ⟨(gtr_f .i64 (b := 100) (by omega)), (gtr_f .i64 (b := 100) (by omega)), hxn, (fConv_n .u64 .u16 (show n < 9223372036854775808 by omega)), hym, (fConv_n .u64 .u16 (show m < 9223372036854775808 by omega)), (bytesO_s (by omega)), (gtr_f .i64 (b := 1024) (by omega)), (fAdd_0n (by omega)), (max2_0n _), (by rw [cB_zB]; exact makeS_nn (by omega) _), ⟨Nat.zero_min _, Nat.zero_le _, rfl⟩, (cutV_0 _ _), (copyL_whole (by rw [cB_len, zB_len]) (by rw [cB_len]; exact bl b) (cB_plain _)), (fAdd_0n (by omega)), (gtr_f .u64 (b := 1024) (by omega)), (fConv_n .i64 .u64 (show n < 9223372036854775808 by omega)), (bytesO_s (by omega)), (lss_f .i64 (b := 0) (by omega)), (gtr_f .i64 (b := 1024) (by omega)), (fSub_nn (a := 1024) (by omega) (by omega)), (gtr_f .i64 (a := c.size) (by omega)), (fAdd_nn (b := c.size) (by omega)), (max2_nn _ _), (by rw [cB_zB]; exact makeS_nn (by omega) _), (copyB (by rw [zB_len]; omega) (by rw [bl]; omega)), (cutV_from .i64 _ (by omega)), (copyB (by rw [E1_len]; omega) (by rw [bl]; omega)), (fAdd_nn (b := c.size) (by omega)), (fConv_n .i64 .u64 (show n < 9223372036854775808 by omega)), (fAdd_nn (b := c.size) (by omega)), (max2_nn _ _), (by rw [cB_zB]; exact makeS_nn (by omega) _), (eql_f .i64 (b := 0) (by omega)), ⟨rfl, (copyB (by rw [zB_len]; omega) (by rw [bl]; omega))⟩, (cutV_from .u64 _ (by omega)), ⟨rfl, (copyB (by rw [E1_len]; omega) (by rw [bl]; omega))⟩, (geq_f .i64 (a := 0) (by omega)), (fSub_n0 (by omega)), (min2_nn (a := 1024) (by omega)), (fAdd_0n (by omega)), (cutV_0n _ _), (appL_B (by omega) (by omega) (E2_len _ _ _)), (by rw [Nat.zero_add]; exact fAdd_0n (by omega)), (gtr_f .u64 (b := 1024) (by omega)), (fConv_n .i64 .u64 (show m < 9223372036854775808 by omega)), (lss_f .i64 (b := 0) (by omega)), (gtr_f .i64 (b := 1024) (by omega)), (by rw [cB_zB]; exact makeS_nn (by omega) _), cG, (geq_f .i64 (a := 0) (by omega)), (fSub_n0 (by omega)), (min2_nn (a := 1024) (by omega)), (fAdd_0n (by omega)), (cutV_0n _ _), (appL_B (by omega) (by omega) (eG_len _ _ _ _)), (by rw [Nat.zero_add]; exact fAdd_0n (by omega)), (by rw [cB_zB]; exact makeS_nn (by omega) _), cG, (eql_t .i64 _), (fConv_n .i64 .u64 (show n < 9223372036854775808 by omega)), (eql_t .i64 _), (eql_t .i64 _), (strL_B (by rw [Nat.zero_add]; exact E2_len _ _ _)), (strL_B (E2_len _ _ _)), (eql_self _), (strL_B (by rw [Nat.zero_add]; exact eG_len _ _ _ _)), (strL_B (eG_len _ _ _ _)), (eql_self _), trivial⟩
end Go.Proofs.YtfobgbnjicmnaaaGreatDoor.kernelFiles
