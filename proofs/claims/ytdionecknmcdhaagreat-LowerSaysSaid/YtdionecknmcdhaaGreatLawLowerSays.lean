/- PROVED HERE: whatever the input, 'pinfoldlaw14.LowerSays' returns true and its input reads as it did: no conditions. -/
import Derived.Test.YtdionecknmcdhaaGreatRows
import Derived.Test.YtdionecknmcdhaaGreatL9ec4Link
import Derived.Test.YtdionecknmcdhaaGreatL9ec4C1
import Derived.ProofKit
set_option maxRecDepth 100000
namespace Go.Proofs.YtdionecknmcdhaaGreat.lowerSays
open Go.AM
theorem own : ownKnob Tryz.prog.godebug = none := by kernel_rfl
theorem lifted (os : Os) (started : os.Started) (H : Type) (enc : TypeId × Value -> H) :
    ReturnsInHanded {} Tryz.checked os 4 .any (Rows.lowerSaysSpec.pre6 enc Tryz.prog Tryz.f4 Rows.lowerSaysRow.domain false) (Rows.lowerSaysSpec.post enc Tryz.prog Tryz.f4 false true false false) := by
  refine law_lifted (C := Tryz.checked) (shs := [.struct [.int .u8, .int .u8, .int .u8, .slice 4 (.struct [.int .u8, .int .u8, .int .u8, .slice 4 (.struct [.int .u8, .int .u8, .int .u8, .int .u8])]), .int .u16, .slice 1 (.int .u8), .slice 1 (.int .u16), .slice 1 (.int .u8)], .slice 9 (.struct [.int .u32, .int .u32, .int .u64, .arr 6 (.int .u64)]), .slice 1 (.int .u8)]) (d := 12) (kps := kps) (ext := ext) own started (by kernel_rfl) Tryz.func4
    (ChangeSpec.witness6 (enc := enc) (C := Tryz.checked) false ⟨#[], #[(.agg #[(.int .u8 0), (.int .u8 0), (.int .u8 0), (.slice none 0 0), (.int .u16 0), (.slice none 0 0), (.slice none 0 0), (.slice none 0 0)]), (.slice none 0 0), (.slice none 0 0)], []⟩ 12 (by kernel_rfl) (by kernel_rfl) (by kernel_rfl) (by kernel_rfl)) ?_ rfl rfl Tryz.underlying4 (by kernel_rfl) (by kernel_rfl) (by kernel_rfl) (by kernel_rfl) (by kernel_rfl) (by kernel_rfl) (by kernel_rfl)
    extOk ?_
  · intro ds h
    have h : ds.length = 3 := h
    match ds, h with
    | [_, _, _], _ => rfl
  · intro H args Q hargs hQ
    exact S.law_LowerSays (E := sy W) fold args hargs hQ
set_option maxHeartbeats 4000000
theorem jf : joinedFacts Tryz.pinned.checked.prog 4 Tryz.f4 Rows.lowerSaysSpec Rows.lowerSaysRow = true := by
  unfold joinedFacts
  simp only [Bool.and_eq_true]
  and_intros
  all_goals decide +kernel
theorem over : Rows.lowerSaysRow.holds Tryz.pinned (OpenSpec.ofChange Rows.lowerSaysSpec) :=
  OpenClaim.holds_of_wide 4 Tryz.f4 rfl rfl rfl rfl rfl rfl rfl ⟨rfl, rfl, rfl, rfl, rfl⟩ rfl rfl rfl rfl rfl (by kernel_rfl) Tryz.func4 jf
    (of_decide_eq_true (by kernel_rfl)) (by unfold Func.isWrapper; first | (rw [if_pos (by decide +kernel)]; kernel_rfl) | (rw [if_neg (by decide +kernel)]; exact ⟨rfl, rfl⟩))
    (fun os started H enc _ => lifted os started H enc)
theorem proved : Rows.LowerSaysSaid := over
#print axioms proved
end Go.Proofs.YtdionecknmcdhaaGreat.lowerSays
