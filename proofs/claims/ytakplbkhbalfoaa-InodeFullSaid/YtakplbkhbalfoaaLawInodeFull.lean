/- PROVED HERE: whatever the input, 'pinfoldlaw16.InodeFull' returns true and its input reads as it did: no conditions. -/
import Derived.Test.YtakplbkhbalfoaaRows
import Derived.Test.YtakplbkhbalfoaaLink
import Derived.Test.YtakplbkhbalfoaaAmD
import Derived.Test.YtakplbkhbalfoaaCon06bb9c40da
import Derived.ProofKit
set_option linter.all false
set_option maxRecDepth 100000
namespace Go.Proofs.Ytakplbkhbalfoaa.inodeFull
open Go.AM
theorem own : ownKnob Try.prog.godebug = none := by kernel_rfl
theorem lifted (os : Os) (started : os.Started) (H : Type) (enc : TypeId × Value → H) :
    ReturnsInHanded {} Try.checked os 4 .any (Rows.inodeFullSpec.pre6 enc Try.prog Try.f4 Rows.inodeFullRow.domain false) (Rows.inodeFullSpec.post enc Try.prog Try.f4 false true false false) := by
  refine law_lifted (C := Try.checked) (shs := [.int .u8, .bool]) (d := 12) (kps := kps) (ext := ext) own started (by kernel_rfl) Try.func4
    (ChangeSpec.witness6 (enc := enc) (C := Try.checked) false ⟨#[], #[(.int .u8 0), (.bool false)], []⟩ 12 (by kernel_rfl) (by kernel_rfl) (by kernel_rfl) (by kernel_rfl)) ?_ rfl rfl Try.underlying4 (by kernel_rfl) (by kernel_rfl) (by kernel_rfl) (by kernel_rfl) (by kernel_rfl) (by kernel_rfl) (by kernel_rfl)
    extOk ?_
  · intro ds h
    have h : ds.length = 2 := h
    match ds, h with
    | [_, _], _ => rfl
  · intro H args Q hargs hQ
    exact S.law_InodeFull (E := sy (CallW Try.prog kps ext)) fold args hargs hQ
theorem over : Rows.inodeFullRow.holds Try.pinned (OpenSpec.ofChange Rows.inodeFullSpec) :=
  OpenClaim.holds_of_wide 4 Try.f4 rfl rfl rfl rfl rfl rfl rfl ⟨rfl, rfl, rfl, rfl, rfl⟩ rfl rfl rfl rfl rfl (by kernel_rfl) Try.func4 (by kernel_rfl)
    (of_decide_eq_true (by kernel_rfl)) (by unfold Func.isWrapper; first | (rw [if_pos (by decide +kernel)]; kernel_rfl) | (rw [if_neg (by decide +kernel)]; exact ⟨rfl, rfl⟩))
    (fun os started H enc _ => lifted os started H enc)
theorem proved : Rows.InodeFullSaid := over
#print axioms proved
end Go.Proofs.Ytakplbkhbalfoaa.inodeFull
