/- PROVED HERE: whatever the input, 'pinfoldlaw16.InodeDeep' returns true and its input reads as it did: no conditions. -/
import Derived.Test.YtakplbkhbalfoaaRows
import Derived.Test.YtakplbkhbalfoaaI09d6Link
import Derived.Test.YtakplbkhbalfoaaI09d6C1
import Derived.ProofKit
set_option maxRecDepth 100000
namespace Go.Proofs.Ytakplbkhbalfoaa.inodeDeep
open Go.AM
theorem own : ownKnob Try.prog.godebug = none := by kernel_rfl
theorem lifted (os : Os) (started : os.Started) (H : Type) (enc : TypeId × Value → H) :
    ReturnsInHanded {} Try.checked os 6 .any (Rows.inodeDeepSpec.pre6 enc Try.prog Try.f6 Rows.inodeDeepRow.domain false) (Rows.inodeDeepSpec.post enc Try.prog Try.f6 false true false false) := by
  refine law_lifted (C := Try.checked) (shs := [.int .u8, .int .u8, .int .u8]) (d := 12) (kps := kps) (ext := ext) own started (by kernel_rfl) Try.func6
    (ChangeSpec.witness6 (enc := enc) (C := Try.checked) false ⟨#[], #[(.int .u8 0), (.int .u8 0), (.int .u8 0)], []⟩ 12 (by kernel_rfl) (by kernel_rfl) (by kernel_rfl) (by kernel_rfl)) ?_ rfl rfl Try.underlying4 (by kernel_rfl) (by kernel_rfl) (by kernel_rfl) (by kernel_rfl) (by kernel_rfl) (by kernel_rfl) (by kernel_rfl)
    extOk ?_
  · intro ds h
    have h : ds.length = 3 := h
    match ds, h with
    | [_, _, _], _ => rfl
  · intro H args Q hargs hQ
    exact S.law_InodeDeep (E := sy (CallW Try.prog kps ext)) fold args hargs hQ
theorem over : Rows.inodeDeepRow.holds Try.pinned (OpenSpec.ofChange Rows.inodeDeepSpec) :=
  OpenClaim.holds_of_wide 6 Try.f6 rfl rfl rfl rfl rfl rfl rfl ⟨rfl, rfl, rfl, rfl, rfl⟩ rfl rfl rfl rfl rfl (by kernel_rfl) Try.func6 (by kernel_rfl)
    (of_decide_eq_true (by kernel_rfl)) (by unfold Func.isWrapper; first | (rw [if_pos (by decide +kernel)]; kernel_rfl) | (rw [if_neg (by decide +kernel)]; exact ⟨rfl, rfl⟩))
    (fun os started H enc _ => lifted os started H enc)
theorem proved : Rows.InodeDeepSaid := over
#print axioms proved
end Go.Proofs.Ytakplbkhbalfoaa.inodeDeep
