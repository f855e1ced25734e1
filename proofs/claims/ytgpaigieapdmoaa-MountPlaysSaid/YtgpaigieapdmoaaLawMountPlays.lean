/- PROVED HERE: whatever the input, 'pinfoldlaw17.MountPlays' returns true and its input reads as it did: no conditions. -/
import Derived.Test.YtgpaigieapdmoaaRows
import Derived.Test.YtgpaigieapdmoaaLink
import Derived.Test.YtgpaigieapdmoaaAmD
import Derived.Test.YtgpaigieapdmoaaCon37fd5c5922
import Derived.ProofKit
set_option linter.all false
set_option maxRecDepth 100000
namespace Go.Proofs.Ytgpaigieapdmoaa.mountPlays
open Go.AM
theorem own : ownKnob Try.prog.godebug = none := by kernel_rfl
def ext : CallT := fun _ _ _ _ => False
theorem lifted (os : Os) (started : os.Started) (H : Type) (enc : TypeId × Value → H) :
    ReturnsInHanded {} Try.checked os 5 .any (Rows.mountPlaysSpec.pre6 enc Try.prog Try.f5 Rows.mountPlaysRow.domain false) (Rows.mountPlaysSpec.post enc Try.prog Try.f5 false true false false) := by
  refine law_lifted (C := Try.checked) (shs := [.slice 8 (.struct [.int .u8, .int .u8, .int .u8, .int .u8, .struct [.int .i64, .int .u16], .bool, .bool]), .slice 2 (.struct [.int .i64, .int .u16])]) (d := 12) (kps := kps) (ext := ext) own started (by kernel_rfl) Try.func5
    (ChangeSpec.witness6 (enc := enc) (C := Try.checked) false ⟨#[], #[(.slice none 0 0), (.slice none 0 0)], []⟩ 12 (by kernel_rfl) (by kernel_rfl) (by kernel_rfl) (by kernel_rfl)) ?_ rfl rfl Try.underlying4 (by kernel_rfl) (by kernel_rfl) (by kernel_rfl) (by kernel_rfl) (by kernel_rfl)
    (fun _ _ _ _ h => h.elim) ?_
  · intro ds h
    have h : ds.length = 2 := h
    match ds, h with
    | [_, _], _ => rfl
  · intro H args Q hargs hQ
    exact S.law_MountPlays (E := sy (CallW Try.prog kps ext)) (fold ext) args hargs hQ
theorem over : Rows.mountPlaysRow.holds Try.pinned (OpenSpec.ofChange Rows.mountPlaysSpec) :=
  OpenClaim.holds_of_wide 5 Try.f5 rfl rfl rfl rfl rfl rfl rfl ⟨rfl, rfl, rfl, rfl, rfl⟩ rfl rfl rfl rfl rfl (by kernel_rfl) Try.func5 (by kernel_rfl)
    (of_decide_eq_true (by kernel_rfl)) (by unfold Func.isWrapper; first | (rw [if_pos (by decide +kernel)]; kernel_rfl) | (rw [if_neg (by decide +kernel)]; exact ⟨rfl, rfl⟩))
    (fun os started H enc _ => lifted os started H enc)
theorem proved : Rows.MountPlaysSaid := over
#print axioms proved
end Go.Proofs.Ytgpaigieapdmoaa.mountPlays
