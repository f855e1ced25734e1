/- PROVED HERE: whatever the input, 'pinfoldlaw03.InsnBytes' returns true and its input reads as it did: no conditions. -/
import Derived.Test.YtjpdppohflailaaRows
import Derived.Test.YtjpdppohflailaaLink
import Derived.Test.YtjpdppohflailaaAmLaw
import Derived.Test.YtjpdppohflailaaConLawInsnBytes2
import Derived.ProofKit
set_option linter.all false
set_option maxRecDepth 100000
namespace Go.Proofs.Ytjpdppohflailaa.insnBytes
open Go.AM
theorem own : ownKnob Try.prog.godebug = none := by kernel_rfl
def ext : CallT := fun _ _ _ _ => False
theorem lifted (os : Os) (started : os.Started) (H : Type) (enc : TypeId × Value → H) :
    ReturnsInHanded {} Try.checked os 7 .any (Rows.insnBytesSpec.pre6 enc Try.prog Try.f7 Rows.insnBytesRow.domain false) (Rows.insnBytesSpec.post enc Try.prog Try.f7 false true false false) := by
  refine law_lifted (C := Try.checked) (shs := [.slice 4 (.struct [.int .u16, .int .u8, .int .u8, .int .u32]), .slice 1 (.int .u8), .int .u8]) (d := 12) (kps := kps) (ext := ext) own started (by kernel_rfl) Try.func7
    (ChangeSpec.witness6 (enc := enc) (C := Try.checked) false ⟨#[], #[(.slice none 0 0), (.slice none 0 0), (.int .u8 0)], []⟩ 12 (by kernel_rfl) (by kernel_rfl) (by kernel_rfl) (by kernel_rfl)) ?_ rfl rfl Try.underlying4 (by kernel_rfl) (by kernel_rfl) (by kernel_rfl) (by kernel_rfl) (by kernel_rfl)
    (fun _ _ _ _ h => h.elim) ?_
  · intro ds h
    have h : ds.length = 3 := h
    match ds, h with
    | [_, _, _], _ => rfl
  · intro H args Q hargs hQ
    exact S.law_InsnBytes (E := sy (CallW Try.prog kps ext)) (fold ext) args hargs hQ
theorem over : Rows.insnBytesRow.holds Try.pinned (OpenSpec.ofChange Rows.insnBytesSpec) :=
  OpenClaim.holds_of_wide 7 Try.f7 rfl rfl rfl rfl rfl rfl rfl ⟨rfl, rfl, rfl, rfl, rfl⟩ rfl rfl rfl rfl rfl (by kernel_rfl) Try.func7 (by kernel_rfl)
    (of_decide_eq_true (by kernel_rfl)) (by unfold Func.isWrapper; first | (rw [if_pos (by decide +kernel)]; kernel_rfl) | (rw [if_neg (by decide +kernel)]; exact ⟨rfl, rfl⟩))
    (fun os started H enc _ => lifted os started H enc)
theorem proved : Rows.InsnBytesSaid := over
#print axioms proved
end Go.Proofs.Ytjpdppohflailaa.insnBytes
