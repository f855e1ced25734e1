/- PROVED HERE: whatever the input, 'pinfoldlaw16.InodeNone' returns true and its input reads as it did: no conditions. -/
import Derived.Test.YtakplbkhbalfoaaRows
import Derived.Test.YtakplbkhbalfoaaLink
import Derived.Test.YtakplbkhbalfoaaAmD
import Derived.Test.YtakplbkhbalfoaaCone517a15fe4
import Derived.ProofKit
set_option linter.all false
set_option maxRecDepth 100000
namespace Go.Proofs.Ytakplbkhbalfoaa.inodeNone
open Go.AM
theorem own : ownKnob Try.prog.godebug = none := by kernel_rfl
theorem lifted (os : Os) (started : os.Started) (H : Type) (enc : TypeId × Value → H) :
    ReturnsInHanded {} Try.checked os 7 .any (Rows.inodeNoneSpec.pre6 enc Try.prog Try.f7 Rows.inodeNoneRow.domain false) (Rows.inodeNoneSpec.post enc Try.prog Try.f7 false true false false) := by
  refine law_lifted (C := Try.checked) (shs := [.int .u16, .str, .str, .slice 1 (.int .u8), .int .i64]) (d := 12) (kps := kps) (ext := ext) own started (by kernel_rfl) Try.func7
    (ChangeSpec.witness6 (enc := enc) (C := Try.checked) false ⟨#[], #[(.int .u16 0), (.string ⟨#[]⟩), (.string ⟨#[]⟩), (.slice none 0 0), (.int .i64 0)], []⟩ 12 (by kernel_rfl) (by kernel_rfl) (by kernel_rfl) (by kernel_rfl)) ?_ rfl rfl Try.underlying4 (by kernel_rfl) (by kernel_rfl) (by kernel_rfl) (by kernel_rfl) (by kernel_rfl) (by kernel_rfl) (by kernel_rfl)
    extOk ?_
  · intro ds h
    have h : ds.length = 5 := h
    match ds, h with
    | [_, _, _, _, _], _ => rfl
  · intro H args Q hargs hQ
    exact S.law_InodeNone (E := sy (CallW Try.prog kps ext)) fold args hargs hQ
theorem over : Rows.inodeNoneRow.holds Try.pinned (OpenSpec.ofChange Rows.inodeNoneSpec) :=
  OpenClaim.holds_of_wide 7 Try.f7 rfl rfl rfl rfl rfl rfl rfl ⟨rfl, rfl, rfl, rfl, rfl⟩ rfl rfl rfl rfl rfl (by kernel_rfl) Try.func7 (by kernel_rfl)
    (of_decide_eq_true (by kernel_rfl)) (by unfold Func.isWrapper; first | (rw [if_pos (by decide +kernel)]; kernel_rfl) | (rw [if_neg (by decide +kernel)]; exact ⟨rfl, rfl⟩))
    (fun os started H enc _ => lifted os started H enc)
theorem proved : Rows.InodeNoneSaid := over
#print axioms proved
end Go.Proofs.Ytakplbkhbalfoaa.inodeNone
