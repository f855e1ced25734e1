/- PROVED HERE: whatever the input, 'pinfoldlaw12.IrPlans' returns true and its input reads as it did: no conditions. -/
import Derived.Test.YtcodjlonfgiegaaRows
import Derived.Test.YtcodjlonfgiegaaI15c5Link
import Derived.Test.YtcodjlonfgiegaaI15c5C1
import Derived.ProofKit
set_option maxRecDepth 100000
namespace Go.Proofs.Ytcodjlonfgiegaa.irPlans
open Go.AM
theorem own : ownKnob Try.prog.godebug = none := by kernel_rfl
theorem lifted (os : Os) (started : os.Started) (H : Type) (enc : TypeId × Value -> H) :
    ReturnsInHanded {} Try.checked os 3 .any (Rows.irPlansSpec.pre6 enc Try.prog Try.f3 Rows.irPlansRow.domain false) (Rows.irPlansSpec.post enc Try.prog Try.f3 false true false false) := by
  refine law_lifted (C := Try.checked) (shs := [.struct [.str, .int .u32, .slice 3 (.struct [.int .u32, .int .u32, .slice 4 (.struct [.int .i64, .int .u8, .int .u64, .int .u64])]), .int .u16, .slice 2 (.struct [.str, .int .u16]), .slice 2 (.struct [.int .u16, .int .u16])], .struct [.int .u8, .int .u8, .int .u8, .slice 4 (.struct [.int .u8, .int .u8, .int .u8, .slice 4 (.struct [.int .u8, .int .u8, .int .u8, .int .u8])]), .int .u16, .slice 1 (.int .u8), .slice 1 (.int .u16), .slice 1 (.int .u8)]]) (d := 12) (kps := kps) (ext := ext) own started (by kernel_rfl) Try.func3
    (ChangeSpec.witness6 (enc := enc) (C := Try.checked) false ⟨#[], #[(.agg #[(.string ⟨#[]⟩), (.int .u32 0), (.slice none 0 0), (.int .u16 0), (.slice none 0 0), (.slice none 0 0)]), (.agg #[(.int .u8 0), (.int .u8 0), (.int .u8 0), (.slice none 0 0), (.int .u16 0), (.slice none 0 0), (.slice none 0 0), (.slice none 0 0)])], []⟩ 12 (by kernel_rfl) (by kernel_rfl) (by kernel_rfl) (by kernel_rfl)) ?_ rfl rfl Try.underlying4 (by kernel_rfl) (by kernel_rfl) (by kernel_rfl) (by kernel_rfl) (by kernel_rfl) (by kernel_rfl) (by kernel_rfl)
    extOk ?_
  · intro ds h
    have h : ds.length = 2 := h
    match ds, h with
    | [_, _], _ => rfl
  · intro H args Q hargs hQ
    exact S.law_IrPlans (E := sy W) fold args hargs hQ
set_option maxHeartbeats 4000000
theorem jf : joinedFacts Try.pinned.checked.prog 3 Try.f3 Rows.irPlansSpec Rows.irPlansRow = true := by
  unfold joinedFacts
  simp only [Bool.and_eq_true]
  and_intros
  all_goals decide +kernel
theorem over : Rows.irPlansRow.holds Try.pinned (OpenSpec.ofChange Rows.irPlansSpec) :=
  OpenClaim.holds_of_wide 3 Try.f3 rfl rfl rfl rfl rfl rfl rfl ⟨rfl, rfl, rfl, rfl, rfl⟩ rfl rfl rfl rfl rfl (by kernel_rfl) Try.func3 jf
    (of_decide_eq_true (by kernel_rfl)) (by unfold Func.isWrapper; first | (rw [if_pos (by decide +kernel)]; kernel_rfl) | (rw [if_neg (by decide +kernel)]; exact ⟨rfl, rfl⟩))
    (fun os started H enc _ => lifted os started H enc)
theorem proved : Rows.IrPlansSaid := over
#print axioms proved
end Go.Proofs.Ytcodjlonfgiegaa.irPlans
