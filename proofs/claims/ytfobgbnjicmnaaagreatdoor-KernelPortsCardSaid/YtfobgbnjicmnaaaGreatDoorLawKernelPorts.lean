/- PROVED HERE: whatever the input, 'pinfoldlaw26.KernelPorts' returns true and its input reads as it did: no conditions. The card ties the row's listed variables to the program's text. -/
import Derived.Test.YtfobgbnjicmnaaaGreatDoorCards
import Derived.Test.YtfobgbnjicmnaaaGreatDoorTie
import Derived.Test.YtfobgbnjicmnaaaGreatDoorKa406Link
import Derived.Test.YtfobgbnjicmnaaaGreatDoorKa406C2
import Derived.Test.YtfobgbnjicmnaaaGreatDoorKa406K
import Derived.ProofKit
import Derived.Lay
import Derived.SevenTiedAt
set_option maxRecDepth 100000
namespace Go.Proofs.YtfobgbnjicmnaaaGreatDoor.kernelPorts
open Go.AM
theorem own : ownKnob Tryz.prog.godebug = none := by kernel_rfl
theorem lifted (os : Os) (started : os.Started) (H : Type) (enc : TypeId × Value -> H) :
    ReturnsInHanded {} Tryz.checked os 5 .any (fun w args => (Rows.kernelPortsSpec.pre enc Tryz.prog Tryz.f5 Rows.kernelPortsRow.domain false w args /\ laidMetH Tryz.prog Rows.kernelPortsRow.laid w) /\ sizedMet enc Tryz.prog Tryz.f5 (OpenSpec.ofChange Rows.kernelPortsSpec) false w args) (Rows.kernelPortsSpec.post enc Tryz.prog Tryz.f5 false true false false) := by
  refine aH2 (C := Tryz.checked) (l := Rows.kernelPortsRow.laid) (shs := [.slice 1 (.int .u8), .int .u8, .int .u8]) (d := 12) (kps := kps) (ext := ext) own started (by kernel_rfl) Tryz.func5
    (ChangeSpec.witness_shaped (enc := enc) (C := Tryz.checked) (os := os) (X := fun w _ => laidMetH Tryz.prog Rows.kernelPortsRow.laid w) false (World.laidAll Tryz.prog os Rows.kernelPortsRow.laid) #[(.slice none 0 0), (.int .u8 0), (.int .u8 0)] 12 (World.laidAll_os _ _ _)
      (World.shaped_of_ZipB (by kernel_rfl) (by kernel_rfl)) (by kernel_rfl) (by kernel_rfl) (by kernel_rfl)
      (by rw [MakeChecks.laidMetH_plain _ _ _ (by kernel_rfl)]; exact laidMet_laidAll _ (by kernel_rfl) (by kernel_rfl))) ?_ rfl rfl Tryz.underlying4 (by kernel_rfl) (by kernel_rfl) (by kernel_rfl) (by kernel_rfl) (by kernel_rfl) (by kernel_rfl) (by kernel_rfl)
    aOI ?_
  · intro ds h
    have h : ds.length = 3 := h
    match ds, h with
    | [_, _, _], _ => rfl
  · intro H args Q hargs hQ
    exact S.law_KernelPorts (E := sy W) fold args hargs hQ
set_option maxHeartbeats 4000000
theorem jf : joinedFacts Tryz.pinned.checked.prog 5 Tryz.f5 Rows.kernelPortsSpec Rows.kernelPortsRow = true := by
  unfold joinedFacts;simp only [Bool.and_eq_true]
  and_intros
  all_goals decide +kernel
theorem over : Rows.kernelPortsRow.holds Tryz.pinned (OpenSpec.ofChange Rows.kernelPortsSpec) :=
  OpenClaim.holds_of_wide 5 Tryz.f5 rfl rfl rfl rfl rfl rfl rfl ⟨rfl, rfl, rfl, rfl, rfl⟩ rfl rfl rfl rfl rfl (by kernel_rfl) Tryz.func5 jf
    (of_decide_eq_true (by kernel_rfl)) (by unfold Func.isWrapper; first | (rw [if_pos (by decide +kernel)]; kernel_rfl) | (rw [if_neg (by decide +kernel)]; exact ⟨rfl, rfl⟩))
    (fun os started H enc _ => lifted os started H enc)
theorem proved : Rows.KernelPortsCardSaid :=
  Claim7.holds_tied_plain_at .later [] [.data, .pinned] true (true, "c1e2bb808e8c62aad63db22c2835949f4853c0de7acee38831814056b95f0248") false over (fun _ h => by cases h) k0 (fun _ h => by cases h) kernelPorts_row_tie rfl ⟨rfl, rfl⟩ k1 rfl
    (fun f fn hf hfn => by
      obtain rfl : f = 5 := Option.some.inj (k2.symm.trans hf) |>.symm;obtain rfl : fn = Tryz.f5 := (Option.some.inj (Tryz.func5.symm.trans hfn)).symm
      exact ⟨k3, fun j t ht => by
        rw [Tryz.params5] at ht;have hm : t ∈ [29, 5, 5] := by simpa using Array.mem_of_getElem? ht
        have hall : ([29, 5, 5].all fun u => !Tryz.prog.wantsStandIn u) = true := by kernel_rfl
        exact (show Tryz.prog.wantsStandIn t = false by simpa using List.all_eq_true.1 hall t hm)⟩)
    k5
#print axioms proved
end Go.Proofs.YtfobgbnjicmnaaaGreatDoor.kernelPorts
