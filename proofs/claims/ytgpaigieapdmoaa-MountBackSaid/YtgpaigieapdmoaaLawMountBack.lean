/- PROVED HERE: whatever the input, 'pinfoldlaw17.MountBack' returns true and its input reads as it did: no conditions. -/
import Derived.Test.YtgpaigieapdmoaaRows
import Derived.Test.YtgpaigieapdmoaaLink
import Derived.Test.YtgpaigieapdmoaaAmD
import Derived.Test.YtgpaigieapdmoaaCone96823bde3
import Derived.ProofKit
set_option linter.all false
set_option maxRecDepth 100000
namespace Go.Proofs.Ytgpaigieapdmoaa.mountBack
open Go.AM
theorem own : ownKnob Try.prog.godebug = none := by kernel_rfl
def ext : CallT := fun _ _ _ _ => False
theorem lifted (os : Os) (started : os.Started) (H : Type) (enc : TypeId × Value → H) :
    ReturnsInHanded {} Try.checked os 3 .any (Rows.mountBackSpec.pre6 enc Try.prog Try.f3 Rows.mountBackRow.domain false) (Rows.mountBackSpec.post enc Try.prog Try.f3 false true false false) := by
  refine law_lifted (C := Try.checked) (shs := [.slice 1 (.int .u8), .int .u8]) (d := 12) (kps := kps) (ext := ext) own started (by kernel_rfl) Try.func3
    (ChangeSpec.witness6 (enc := enc) (C := Try.checked) false ⟨#[], #[(.slice none 0 0), (.int .u8 0)], []⟩ 12 (by kernel_rfl) (by kernel_rfl) (by kernel_rfl) (by kernel_rfl)) ?_ rfl rfl Try.underlying4 (by kernel_rfl) (by kernel_rfl) (by kernel_rfl) (by kernel_rfl) (by kernel_rfl)
    (fun _ _ _ _ h => h.elim) ?_
  · intro ds h
    have h : ds.length = 2 := h
    match ds, h with
    | [_, _], _ => rfl
  · intro H args Q hargs hQ
    exact S.law_MountBack (E := sy (CallW Try.prog kps ext)) (fold ext) args hargs hQ
theorem over : Rows.mountBackRow.holds Try.pinned (OpenSpec.ofChange Rows.mountBackSpec) :=
  OpenClaim.holds_of_wide 3 Try.f3 rfl rfl rfl rfl rfl rfl rfl ⟨rfl, rfl, rfl, rfl, rfl⟩ rfl rfl rfl rfl rfl (by kernel_rfl) Try.func3 (by kernel_rfl)
    (of_decide_eq_true (by kernel_rfl)) (by unfold Func.isWrapper; first | (rw [if_pos (by decide +kernel)]; kernel_rfl) | (rw [if_neg (by decide +kernel)]; exact ⟨rfl, rfl⟩))
    (fun os started H enc _ => lifted os started H enc)
theorem proved : Rows.MountBackSaid := over
#print axioms proved
end Go.Proofs.Ytgpaigieapdmoaa.mountBack
