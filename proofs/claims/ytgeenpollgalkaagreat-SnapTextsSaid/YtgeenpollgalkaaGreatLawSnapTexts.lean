/- PROVED HERE: whatever the input, 'pinfoldlaw30.SnapTexts' returns true and its input reads as it did: no conditions. -/
import Derived.Test.YtgeenpollgalkaaGreatRows
import Derived.Test.YtgeenpollgalkaaGreatS8739Link
import Derived.Test.YtgeenpollgalkaaGreatS8739C3
import Derived.ProofKit
set_option maxRecDepth 100000
namespace Go.Proofs.YtgeenpollgalkaaGreat.snapTexts
open Go.AM
theorem own : ownKnob Tryz.prog.godebug = none := by kernel_rfl
theorem lifted (os : Os) (started : os.Started) (H : Type) (enc : TypeId × Value -> H) :
    ReturnsInHanded {} Tryz.checked os 6 .any (Rows.snapTextsSpec.pre6 enc Tryz.prog Tryz.f6 Rows.snapTextsRow.domain false) (Rows.snapTextsSpec.post enc Tryz.prog Tryz.f6 false true false false) := by
  refine aBM (C := Tryz.checked) (shs := [.struct [.int .u8, .int .u16, .str, .int .u16, .int .u16], .slice 14 (.struct [.int .u8, .struct [.int .u8, .int .u8, .int .u8, .int .u8, .int .u8, .str, .int .i64, .slice 1 (.int .u8), .bool, .bool], .int .u8, .int .u8, .int .u8])]) (d := 12) (kps := kps) (ext := ext) own started (by kernel_rfl) Tryz.func6
    (ChangeSpec.witness6 (enc := enc) (C := Tryz.checked) false ⟨#[], #[(.agg #[(.int .u8 0), (.int .u16 0), (.string ⟨#[]⟩), (.int .u16 0), (.int .u16 0)]), (.slice none 0 0)], []⟩ 12 (by kernel_rfl) (by kernel_rfl) (by kernel_rfl) (by kernel_rfl)) ?_ rfl rfl Tryz.underlying4 (by kernel_rfl) (by kernel_rfl) (by kernel_rfl) (by kernel_rfl) (by kernel_rfl) (by kernel_rfl) (by kernel_rfl)
    aIV ?_
  · intro ds h
    have h : ds.length = 2 := h
    match ds, h with
    | [_, _], _ => rfl
  · intro H args Q hargs hQ
    exact S.law_SnapTexts (E := sy W) fold args hargs hQ
set_option maxHeartbeats 4000000
theorem jf : joinedFacts Tryz.pinned.checked.prog 6 Tryz.f6 Rows.snapTextsSpec Rows.snapTextsRow = true := by
  unfold joinedFacts;simp only [Bool.and_eq_true]
  and_intros
  all_goals decide +kernel
theorem over : Rows.snapTextsRow.holds Tryz.pinned (OpenSpec.ofChange Rows.snapTextsSpec) :=
  OpenClaim.holds_of_wide 6 Tryz.f6 rfl rfl rfl rfl rfl rfl rfl ⟨rfl, rfl, rfl, rfl, rfl⟩ rfl rfl rfl rfl rfl (by kernel_rfl) Tryz.func6 jf
    (of_decide_eq_true (by kernel_rfl)) (by unfold Func.isWrapper; first | (rw [if_pos (by decide +kernel)]; kernel_rfl) | (rw [if_neg (by decide +kernel)]; exact ⟨rfl, rfl⟩))
    (fun os started H enc _ => lifted os started H enc)
theorem proved : Rows.SnapTextsSaid := over
#print axioms proved
end Go.Proofs.YtgeenpollgalkaaGreat.snapTexts
