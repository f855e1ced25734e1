/- PROVED HERE: whatever the input, 'pinfoldlaw26.KernelRefers' returns true and its input reads as it did: no conditions. The card ties the row's listed variables to the program's text. -/
import Derived.Test.YtfobgbnjicmnaaaGreatDoorCards
import Derived.Test.YtfobgbnjicmnaaaGreatDoorTie
import Derived.Test.YtfobgbnjicmnaaaGreatDoorKb9f5X
import Derived.Test.YtfobgbnjicmnaaaGreatDoorKb9f5K
import Derived.ProofKit
import Derived.Lay
import Derived.SevenTiedAt
set_option maxRecDepth 100000
namespace Go.Proofs.YtfobgbnjicmnaaaGreatDoor.kernelRefers
open Go.AM
theorem own : ownKnob Tryz.prog.godebug = none := by kernel_rfl
theorem lifted (os : Os) (started : os.Started) (H : Type) (enc : TypeId × Value → H) :
    ReturnsInHanded {} Tryz.checked os 7 .any (fun w args => (Rows.kernelRefersSpec.pre enc Tryz.prog Tryz.f7 Rows.kernelRefersRow.domain false w args ∧ laidMetH Tryz.prog Rows.kernelRefersRow.laid w) ∧ sizedMet enc Tryz.prog Tryz.f7 (OpenSpec.ofChange Rows.kernelRefersSpec) false w args) (Rows.kernelRefersSpec.post enc Tryz.prog Tryz.f7 false true false false) := by
  refine law_laid (C := Tryz.checked) (l := Rows.kernelRefersRow.laid) (shs := [.int .u16, .int .u16, .int .u16, .bool]) (d := 12) (kps := kps) (ext := ext) own started (by kernel_rfl) Tryz.func7
    (ChangeSpec.witness_shaped (enc := enc) (C := Tryz.checked) (os := os) (X := fun w _ => laidMetH Tryz.prog Rows.kernelRefersRow.laid w) false (World.laidAll Tryz.prog os Rows.kernelRefersRow.laid) #[(.int .u16 0), (.int .u16 0), (.int .u16 0), (.bool false)] 12 (World.laidAll_os _ _ _)
      (World.shaped_of_ZipB (by kernel_rfl) (by kernel_rfl)) (by kernel_rfl) (by kernel_rfl) (by kernel_rfl)
      (by rw [MakeChecks.laidMetH_plain _ _ _ (by kernel_rfl)]; exact laidMet_laidAll _ (by kernel_rfl) (by kernel_rfl))) ?_ rfl rfl Tryz.underlying4 (by kernel_rfl) (by kernel_rfl) (by kernel_rfl) (by kernel_rfl) (by kernel_rfl) (by kernel_rfl) (by kernel_rfl)
    extOk ?_
  · intro ds h
    have h : ds.length = 4 := h
    match ds, h with
    | [_, _, _, _], _ => rfl
  · intro H args Q hargs hQ
    obtain ⟨v0, _, rfl, h0, hargs⟩ := hargs.cons_inv
    obtain ⟨v1, _, rfl, h1, hargs⟩ := hargs.cons_inv
    obtain ⟨v2, _, rfl, h2, hargs⟩ := hargs.cons_inv
    obtain ⟨v3, _, rfl, h3, hargs⟩ := hargs.cons_inv
    obtain rfl := hargs.nil_inv
    obtain ⟨x, rfl⟩ := h0.u16
    obtain ⟨y, rfl⟩ := h1.u16
    obtain ⟨z, rfl⟩ := h2.u16
    obtain ⟨b, rfl⟩ := h3.bool
    exact CallW.ext ⟨rfl, ⟨x, y, z, b, rfl⟩, hQ H⟩
set_option maxHeartbeats 4000000
theorem jf : joinedFacts Tryz.pinned.checked.prog 7 Tryz.f7 Rows.kernelRefersSpec Rows.kernelRefersRow = true := by
  unfold joinedFacts
  simp only [Bool.and_eq_true]
  and_intros
  all_goals decide +kernel
theorem over : Rows.kernelRefersRow.holds Tryz.pinned (OpenSpec.ofChange Rows.kernelRefersSpec) :=
  OpenClaim.holds_of_wide 7 Tryz.f7 rfl rfl rfl rfl rfl rfl rfl ⟨rfl, rfl, rfl, rfl, rfl⟩ rfl rfl rfl rfl rfl (by kernel_rfl) Tryz.func7 jf
    (of_decide_eq_true (by kernel_rfl)) (by unfold Func.isWrapper; first | (rw [if_pos (by decide +kernel)]; kernel_rfl) | (rw [if_neg (by decide +kernel)]; exact ⟨rfl, rfl⟩))
    (fun os started H enc _ => lifted os started H enc)
theorem proved : Rows.KernelRefersCardSaid :=
  Claim7.holds_tied_plain_at .later [] [.data, .pinned] true (true, "c1e2bb808e8c62aad63db22c2835949f4853c0de7acee38831814056b95f0248") false over (fun _ h => by cases h) k0 (fun _ h => by cases h) kernelRefers_row_tie rfl ⟨rfl, rfl⟩ k1 rfl
    (fun f fn hf hfn => by
      obtain rfl : f = 7 := Option.some.inj (k2.symm.trans hf) |>.symm
      obtain rfl : fn = Tryz.f7 := (Option.some.inj (Tryz.func7.symm.trans hfn)).symm
      exact ⟨k3, fun j t ht => by
        rw [Tryz.params7] at ht
        have hm : t ∈ [22, 22, 22, 4] := by simpa using Array.mem_of_getElem? ht
        have hall : ([22, 22, 22, 4].all fun u => !Tryz.prog.wantsStandIn u) = true := by kernel_rfl
        exact (show Tryz.prog.wantsStandIn t = false by simpa using List.all_eq_true.1 hall t hm)⟩)
    k5
#print axioms proved
end Go.Proofs.YtfobgbnjicmnaaaGreatDoor.kernelRefers
