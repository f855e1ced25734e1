/- PROVED HERE: whatever the input, 'pinfoldlaw30.SnapDiffs' returns true and its input reads as it did: no conditions. -/
import Derived.Test.YtgeenpollgalkaaGreatRows
import Derived.Test.YtgeenpollgalkaaGreatS3068Link
import Derived.Test.YtgeenpollgalkaaGreatS3068C3
import Derived.ProofKit
set_option maxRecDepth 100000
namespace Go.Proofs.YtgeenpollgalkaaGreat.snapDiffs
open Go.AM
theorem own : ownKnob Tryz.prog.godebug = none := by kernel_rfl
theorem lifted (os : Os) (started : os.Started) (H : Type) (enc : TypeId × Value -> H) :
    ReturnsInHanded {} Tryz.checked os 5 .any (Rows.snapDiffsSpec.pre6 enc Tryz.prog Tryz.f5 Rows.snapDiffsRow.domain false) (Rows.snapDiffsSpec.post enc Tryz.prog Tryz.f5 false true false false) := by
  refine aCs (C := Tryz.checked) (shs := [.slice 14 (.struct [.int .u8, .struct [.int .u8, .int .u8, .int .u8, .int .u8, .int .u8, .str, .int .i64, .slice 1 (.int .u8), .bool, .bool], .int .u8, .int .u8, .int .u8]), .slice 14 (.struct [.int .u8, .struct [.int .u8, .int .u8, .int .u8, .int .u8, .int .u8, .str, .int .i64, .slice 1 (.int .u8), .bool, .bool], .int .u8, .int .u8, .int .u8])]) (d := 12) (kps := kps) (ext := ext) own started (by kernel_rfl) Tryz.func5
    (ChangeSpec.witness6 (enc := enc) (C := Tryz.checked) false ⟨#[], #[(.slice none 0 0), (.slice none 0 0)], []⟩ 12 (by kernel_rfl) (by kernel_rfl) (by kernel_rfl) (by kernel_rfl)) ?_ rfl rfl Tryz.underlying4 (by kernel_rfl) (by kernel_rfl) (by kernel_rfl) (by kernel_rfl) (by kernel_rfl) (by kernel_rfl) (by kernel_rfl)
    aJG ?_
  · intro ds h
    have h : ds.length = 2 := h
    match ds, h with
    | [_, _], _ => rfl
  · intro H args Q hargs hQ
    exact S.law_SnapDiffs (E := sy W) fold args hargs hQ
set_option maxHeartbeats 4000000
theorem jf : joinedFacts Tryz.pinned.checked.prog 5 Tryz.f5 Rows.snapDiffsSpec Rows.snapDiffsRow = true := by
  unfold joinedFacts;simp only [Bool.and_eq_true]
  and_intros
  all_goals decide +kernel
theorem over : Rows.snapDiffsRow.holds Tryz.pinned (OpenSpec.ofChange Rows.snapDiffsSpec) :=
  OpenClaim.holds_of_wide 5 Tryz.f5 rfl rfl rfl rfl rfl rfl rfl ⟨rfl, rfl, rfl, rfl, rfl⟩ rfl rfl rfl rfl rfl (by kernel_rfl) Tryz.func5 jf
    (of_decide_eq_true (by kernel_rfl)) (by unfold Func.isWrapper; first | (rw [if_pos (by decide +kernel)]; kernel_rfl) | (rw [if_neg (by decide +kernel)]; exact ⟨rfl, rfl⟩))
    (fun os started H enc _ => lifted os started H enc)
theorem proved : Rows.SnapDiffsSaid := over
#print axioms proved
end Go.Proofs.YtgeenpollgalkaaGreat.snapDiffs
