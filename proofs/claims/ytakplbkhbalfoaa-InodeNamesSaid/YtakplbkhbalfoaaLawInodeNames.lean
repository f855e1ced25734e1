/- PROVED HERE: whatever the input, 'pinfoldlaw16.InodeNames' returns true and its input reads as it did: no conditions. -/
import Derived.Test.YtakplbkhbalfoaaRows
import Derived.Test.YtakplbkhbalfoaaIeab2Link
import Derived.Test.YtakplbkhbalfoaaIeab2C1
import Derived.ProofKit
set_option maxRecDepth 100000
namespace Go.Proofs.Ytakplbkhbalfoaa.inodeNames
open Go.AM
theorem own : ownKnob Try.prog.godebug = none := by kernel_rfl
theorem lifted (os : Os) (started : os.Started) (H : Type) (enc : TypeId × Value → H) :
    ReturnsInHanded {} Try.checked os 5 .any (Rows.inodeNamesSpec.pre6 enc Try.prog Try.f5 Rows.inodeNamesRow.domain false) (Rows.inodeNamesSpec.post enc Try.prog Try.f5 false true false false) := by
  refine law_lifted (C := Try.checked) (shs := [.str, .slice 1 (.str)]) (d := 12) (kps := kps) (ext := ext) own started (by kernel_rfl) Try.func5
    (ChangeSpec.witness6 (enc := enc) (C := Try.checked) false ⟨#[], #[(.string ⟨#[]⟩), (.slice none 0 0)], []⟩ 12 (by kernel_rfl) (by kernel_rfl) (by kernel_rfl) (by kernel_rfl)) ?_ rfl rfl Try.underlying4 (by kernel_rfl) (by kernel_rfl) (by kernel_rfl) (by kernel_rfl) (by kernel_rfl) (by kernel_rfl) (by kernel_rfl)
    extOk ?_
  · intro ds h
    have h : ds.length = 2 := h
    match ds, h with
    | [_, _], _ => rfl
  · intro H args Q hargs hQ
    exact S.law_InodeNames (E := sy (CallW Try.prog kps ext)) fold args hargs hQ
theorem over : Rows.inodeNamesRow.holds Try.pinned (OpenSpec.ofChange Rows.inodeNamesSpec) :=
  OpenClaim.holds_of_wide 5 Try.f5 rfl rfl rfl rfl rfl rfl rfl ⟨rfl, rfl, rfl, rfl, rfl⟩ rfl rfl rfl rfl rfl (by kernel_rfl) Try.func5 (by kernel_rfl)
    (of_decide_eq_true (by kernel_rfl)) (by unfold Func.isWrapper; first | (rw [if_pos (by decide +kernel)]; kernel_rfl) | (rw [if_neg (by decide +kernel)]; exact ⟨rfl, rfl⟩))
    (fun os started H enc _ => lifted os started H enc)
theorem proved : Rows.InodeNamesSaid := over
#print axioms proved
end Go.Proofs.Ytakplbkhbalfoaa.inodeNames
