/- PROVED HERE: whatever the input, 'pinfoldlaw17.MountHeld' returns true and its input reads as it did: no conditions. -/
import Derived.Test.YtgpaigieapdmoaaRows
import Derived.Test.YtgpaigieapdmoaaLink
import Derived.Test.YtgpaigieapdmoaaAmD
import Derived.Test.YtgpaigieapdmoaaCon527a7a4e95
import Derived.ProofKit
set_option linter.all false
set_option maxRecDepth 100000
namespace Go.Proofs.Ytgpaigieapdmoaa.mountHeld
open Go.AM
theorem own : ownKnob Try.prog.godebug = none := by kernel_rfl
def ext : CallT := fun _ _ _ _ => False
theorem lifted (os : Os) (started : os.Started) (H : Type) (enc : TypeId × Value → H) :
    ReturnsInHanded {} Try.checked os 4 .any (Rows.mountHeldSpec.pre6 enc Try.prog Try.f4 Rows.mountHeldRow.domain false) (Rows.mountHeldSpec.post enc Try.prog Try.f4 false true false false) := by
  refine law_lifted (C := Try.checked) (shs := [.int .u8, .int .u8, .int .u8]) (d := 12) (kps := kps) (ext := ext) own started (by kernel_rfl) Try.func4
    (ChangeSpec.witness6 (enc := enc) (C := Try.checked) false ⟨#[], #[(.int .u8 0), (.int .u8 0), (.int .u8 0)], []⟩ 12 (by kernel_rfl) (by kernel_rfl) (by kernel_rfl) (by kernel_rfl)) ?_ rfl rfl Try.underlying4 (by kernel_rfl) (by kernel_rfl) (by kernel_rfl) (by kernel_rfl) (by kernel_rfl)
    (fun _ _ _ _ h => h.elim) ?_
  · intro ds h
    have h : ds.length = 3 := h
    match ds, h with
    | [_, _, _], _ => rfl
  · intro H args Q hargs hQ
    exact S.law_MountHeld (E := sy (CallW Try.prog kps ext)) (fold ext) args hargs hQ
theorem over : Rows.mountHeldRow.holds Try.pinned (OpenSpec.ofChange Rows.mountHeldSpec) :=
  OpenClaim.holds_of_wide 4 Try.f4 rfl rfl rfl rfl rfl rfl rfl ⟨rfl, rfl, rfl, rfl, rfl⟩ rfl rfl rfl rfl rfl (by kernel_rfl) Try.func4 (by kernel_rfl)
    (of_decide_eq_true (by kernel_rfl)) (by unfold Func.isWrapper; first | (rw [if_pos (by decide +kernel)]; kernel_rfl) | (rw [if_neg (by decide +kernel)]; exact ⟨rfl, rfl⟩))
    (fun os started H enc _ => lifted os started H enc)
theorem proved : Rows.MountHeldSaid := over
#print axioms proved
end Go.Proofs.Ytgpaigieapdmoaa.mountHeld
