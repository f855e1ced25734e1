/- PROVED HERE: whatever the input, 'pinfoldlaw16.InodeSpots' returns true and its input reads as it did: no conditions. -/
import Derived.Test.YtakplbkhbalfoaaRows
import Derived.Test.YtakplbkhbalfoaaIa238Link
import Derived.Test.YtakplbkhbalfoaaIa238C2
import Derived.ProofKit
set_option maxRecDepth 100000
namespace Go.Proofs.Ytakplbkhbalfoaa.inodeSpots
open Go.AM
theorem own : ownKnob Try.prog.godebug = none := by kernel_rfl
theorem lifted (os : Os) (started : os.Started) (H : Type) (enc : TypeId × Value → H) :
    ReturnsInHanded {} Try.checked os 8 .any (Rows.inodeSpotsSpec.pre6 enc Try.prog Try.f8 Rows.inodeSpotsRow.domain false) (Rows.inodeSpotsSpec.post enc Try.prog Try.f8 false true false false) := by
  refine law_lifted (C := Try.checked) (shs := [.slice 10 (.struct [.int .u8, .int .u8, .int .u8, .int .u8, .int .u8, .str, .int .i64, .slice 1 (.int .u8), .bool, .bool])]) (d := 12) (kps := kps) (ext := ext) own started (by kernel_rfl) Try.func8
    (ChangeSpec.witness6 (enc := enc) (C := Try.checked) false ⟨#[], #[(.slice none 0 0)], []⟩ 12 (by kernel_rfl) (by kernel_rfl) (by kernel_rfl) (by kernel_rfl)) ?_ rfl rfl Try.underlying4 (by kernel_rfl) (by kernel_rfl) (by kernel_rfl) (by kernel_rfl) (by kernel_rfl) (by kernel_rfl) (by kernel_rfl)
    extOk ?_
  · intro ds h
    have h : ds.length = 1 := h
    match ds, h with
    | [_], _ => rfl
  · intro H args Q hargs hQ
    exact S.law_InodeSpots (E := sy (CallW Try.prog kps ext)) fold args hargs hQ
theorem over : Rows.inodeSpotsRow.holds Try.pinned (OpenSpec.ofChange Rows.inodeSpotsSpec) :=
  OpenClaim.holds_of_wide 8 Try.f8 rfl rfl rfl rfl rfl rfl rfl ⟨rfl, rfl, rfl, rfl, rfl⟩ rfl rfl rfl rfl rfl (by kernel_rfl) Try.func8 (by kernel_rfl)
    (of_decide_eq_true (by kernel_rfl)) (by unfold Func.isWrapper; first | (rw [if_pos (by decide +kernel)]; kernel_rfl) | (rw [if_neg (by decide +kernel)]; exact ⟨rfl, rfl⟩))
    (fun os started H enc _ => lifted os started H enc)
theorem proved : Rows.InodeSpotsSaid := over
#print axioms proved
end Go.Proofs.Ytakplbkhbalfoaa.inodeSpots
