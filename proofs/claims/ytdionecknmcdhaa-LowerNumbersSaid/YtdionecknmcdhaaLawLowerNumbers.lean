/- PROVED HERE: whatever the input, 'pinfoldlaw14.LowerNumbers' returns true and its input reads as it did: no conditions. -/
import Derived.Test.YtdionecknmcdhaaRows
import Derived.Test.YtdionecknmcdhaaL68c8Link
import Derived.Test.YtdionecknmcdhaaL68c8C1
import Derived.ProofKit
set_option maxRecDepth 100000
namespace Go.Proofs.Ytdionecknmcdhaa.lowerNumbers
open Go.AM
theorem own : ownKnob Try.prog.godebug = none := by kernel_rfl
theorem lifted (os : Os) (started : os.Started) (H : Type) (enc : TypeId × Value -> H) :
    ReturnsInHanded {} Try.checked os 3 .any (Rows.lowerNumbersSpec.pre6 enc Try.prog Try.f3 Rows.lowerNumbersRow.domain false) (Rows.lowerNumbersSpec.post enc Try.prog Try.f3 false true false false) := by
  refine law_lifted (C := Try.checked) (shs := [.slice 1 (.int .u32), .int .u32]) (d := 12) (kps := kps) (ext := ext) own started (by kernel_rfl) Try.func3
    (ChangeSpec.witness6 (enc := enc) (C := Try.checked) false ⟨#[], #[(.slice none 0 0), (.int .u32 0)], []⟩ 12 (by kernel_rfl) (by kernel_rfl) (by kernel_rfl) (by kernel_rfl)) ?_ rfl rfl Try.underlying4 (by kernel_rfl) (by kernel_rfl) (by kernel_rfl) (by kernel_rfl) (by kernel_rfl) (by kernel_rfl) (by kernel_rfl)
    extOk ?_
  · intro ds h
    have h : ds.length = 2 := h
    match ds, h with
    | [_, _], _ => rfl
  · intro H args Q hargs hQ
    exact S.law_LowerNumbers (E := sy W) fold args hargs hQ
set_option maxHeartbeats 4000000
theorem jf : joinedFacts Try.pinned.checked.prog 3 Try.f3 Rows.lowerNumbersSpec Rows.lowerNumbersRow = true := by
  unfold joinedFacts
  simp only [Bool.and_eq_true]
  and_intros
  all_goals decide +kernel
theorem over : Rows.lowerNumbersRow.holds Try.pinned (OpenSpec.ofChange Rows.lowerNumbersSpec) :=
  OpenClaim.holds_of_wide 3 Try.f3 rfl rfl rfl rfl rfl rfl rfl ⟨rfl, rfl, rfl, rfl, rfl⟩ rfl rfl rfl rfl rfl (by kernel_rfl) Try.func3 jf
    (of_decide_eq_true (by kernel_rfl)) (by unfold Func.isWrapper; first | (rw [if_pos (by decide +kernel)]; kernel_rfl) | (rw [if_neg (by decide +kernel)]; exact ⟨rfl, rfl⟩))
    (fun os started H enc _ => lifted os started H enc)
theorem proved : Rows.LowerNumbersSaid := over
#print axioms proved
end Go.Proofs.Ytdionecknmcdhaa.lowerNumbers
