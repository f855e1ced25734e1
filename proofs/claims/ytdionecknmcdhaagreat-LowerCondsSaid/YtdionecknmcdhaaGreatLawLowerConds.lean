/- PROVED HERE: whatever the input, 'pinfoldlaw14.LowerConds' returns true and its input reads as it did: no conditions. -/
import Derived.Test.YtdionecknmcdhaaGreatRows
import Derived.Test.YtdionecknmcdhaaGreatLa64bLink
import Derived.Test.YtdionecknmcdhaaGreatLa64bC1
import Derived.ProofKit
set_option maxRecDepth 100000
namespace Go.Proofs.YtdionecknmcdhaaGreat.lowerConds
open Go.AM
theorem own : ownKnob Tryz.prog.godebug = none := by kernel_rfl
theorem lifted (os : Os) (started : os.Started) (H : Type) (enc : TypeId × Value -> H) :
    ReturnsInHanded {} Tryz.checked os 3 .any (Rows.lowerCondsSpec.pre6 enc Tryz.prog Tryz.f3 Rows.lowerCondsRow.domain false) (Rows.lowerCondsSpec.post enc Tryz.prog Tryz.f3 false true false false) := by
  refine law_lifted (C := Tryz.checked) (shs := [.struct [.int .i64, .int .u8, .int .u64, .int .u64], .struct [.int .u8, .int .u8, .int .u8, .int .u8], .int .u64, .int .u64]) (d := 12) (kps := kps) (ext := ext) own started (by kernel_rfl) Tryz.func3
    (ChangeSpec.witness6 (enc := enc) (C := Tryz.checked) false ⟨#[], #[(.agg #[(.int .i64 0), (.int .u8 0), (.int .u64 0), (.int .u64 0)]), (.agg #[(.int .u8 0), (.int .u8 0), (.int .u8 0), (.int .u8 0)]), (.int .u64 0), (.int .u64 0)], []⟩ 12 (by kernel_rfl) (by kernel_rfl) (by kernel_rfl) (by kernel_rfl)) ?_ rfl rfl Tryz.underlying4 (by kernel_rfl) (by kernel_rfl) (by kernel_rfl) (by kernel_rfl) (by kernel_rfl) (by kernel_rfl) (by kernel_rfl)
    extOk ?_
  · intro ds h
    have h : ds.length = 4 := h
    match ds, h with
    | [_, _, _, _], _ => rfl
  · intro H args Q hargs hQ
    exact S.law_LowerConds (E := sy W) fold args hargs hQ
set_option maxHeartbeats 4000000
theorem jf : joinedFacts Tryz.pinned.checked.prog 3 Tryz.f3 Rows.lowerCondsSpec Rows.lowerCondsRow = true := by
  unfold joinedFacts
  simp only [Bool.and_eq_true]
  and_intros
  all_goals decide +kernel
theorem over : Rows.lowerCondsRow.holds Tryz.pinned (OpenSpec.ofChange Rows.lowerCondsSpec) :=
  OpenClaim.holds_of_wide 3 Tryz.f3 rfl rfl rfl rfl rfl rfl rfl ⟨rfl, rfl, rfl, rfl, rfl⟩ rfl rfl rfl rfl rfl (by kernel_rfl) Tryz.func3 jf
    (of_decide_eq_true (by kernel_rfl)) (by unfold Func.isWrapper; first | (rw [if_pos (by decide +kernel)]; kernel_rfl) | (rw [if_neg (by decide +kernel)]; exact ⟨rfl, rfl⟩))
    (fun os started H enc _ => lifted os started H enc)
theorem proved : Rows.LowerCondsSaid := over
#print axioms proved
end Go.Proofs.YtdionecknmcdhaaGreat.lowerConds
