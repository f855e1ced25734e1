/- PROVED HERE: whatever the input, 'pinfoldlaw11.MeanNarrows' returns true and its input reads as it did: no conditions. -/
import Derived.Test.YtjpdppohflailaaRows
import Derived.Test.YtjpdppohflailaaLink
import Derived.Test.YtjpdppohflailaaAmD
import Derived.Test.YtjpdppohflailaaCon2171ebe6e4
import Derived.ProofKit
set_option linter.all false
set_option maxRecDepth 100000
namespace Go.Proofs.Ytjpdppohflailaa.meanNarrows
open Go.AM
theorem own : ownKnob Try.prog.godebug = none := by kernel_rfl
def ext : CallT := fun _ _ _ _ => False
theorem lifted (os : Os) (started : os.Started) (H : Type) (enc : TypeId × Value → H) :
    ReturnsInHanded {} Try.checked os 11 .any (Rows.meanNarrowsSpec.pre6 enc Try.prog Try.f11 Rows.meanNarrowsRow.domain false) (Rows.meanNarrowsSpec.post enc Try.prog Try.f11 false true false false) := by
  refine law_lifted (C := Try.checked) (shs := [.struct [.int .u8, .int .u8, .int .u8, .slice 4 (.struct [.int .u8, .int .u8, .int .u8, .slice 4 (.struct [.int .u8, .int .u8, .int .u8, .int .u8])]), .int .u16, .slice 1 (.int .u8), .slice 1 (.int .u16), .slice 1 (.int .u8)], .struct [.int .u8, .int .u8, .int .u8, .int .u8], .slice 9 (.struct [.int .u32, .int .u32, .int .u64, .arr 6 (.int .u64)]), .slice 1 (.int .u8)]) (d := 12) (kps := kps) (ext := ext) own started (by kernel_rfl) Try.func11
    (ChangeSpec.witness6 (enc := enc) (C := Try.checked) false ⟨#[], #[(.agg #[(.int .u8 0), (.int .u8 0), (.int .u8 0), (.slice none 0 0), (.int .u16 0), (.slice none 0 0), (.slice none 0 0), (.slice none 0 0)]), (.agg #[(.int .u8 0), (.int .u8 0), (.int .u8 0), (.int .u8 0)]), (.slice none 0 0), (.slice none 0 0)], []⟩ 12 (by kernel_rfl) (by kernel_rfl) (by kernel_rfl) (by kernel_rfl)) ?_ rfl rfl Try.underlying4 (by kernel_rfl) (by kernel_rfl) (by kernel_rfl) (by kernel_rfl) (by kernel_rfl)
    (fun _ _ _ _ h => h.elim) ?_
  · intro ds h
    have h : ds.length = 4 := h
    match ds, h with
    | [_, _, _, _], _ => rfl
  · intro H args Q hargs hQ
    exact S.law_MeanNarrows (E := sy (CallW Try.prog kps ext)) (fold ext) args hargs hQ
theorem over : Rows.meanNarrowsRow.holds Try.pinned (OpenSpec.ofChange Rows.meanNarrowsSpec) :=
  OpenClaim.holds_of_wide 11 Try.f11 rfl rfl rfl rfl rfl rfl rfl ⟨rfl, rfl, rfl, rfl, rfl⟩ rfl rfl rfl rfl rfl (by kernel_rfl) Try.func11 (by kernel_rfl)
    (of_decide_eq_true (by kernel_rfl)) (by unfold Func.isWrapper; first | (rw [if_pos (by decide +kernel)]; kernel_rfl) | (rw [if_neg (by decide +kernel)]; exact ⟨rfl, rfl⟩))
    (fun os started H enc _ => lifted os started H enc)
theorem proved : Rows.MeanNarrowsSaid := over
#print axioms proved
end Go.Proofs.Ytjpdppohflailaa.meanNarrows
