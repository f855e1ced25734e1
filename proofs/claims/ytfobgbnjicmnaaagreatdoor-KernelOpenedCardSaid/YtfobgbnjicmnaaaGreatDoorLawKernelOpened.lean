/- PROVED HERE: whatever the input, 'pinfoldlaw26.KernelOpened' returns true and its input reads as it did: no conditions. The card ties the row's listed variables to the program's text. -/
import Derived.Test.YtfobgbnjicmnaaaGreatDoorCards
import Derived.Test.YtfobgbnjicmnaaaGreatDoorTie
import Derived.Test.YtfobgbnjicmnaaaGreatDoorK1e24X
import Derived.Test.YtfobgbnjicmnaaaGreatDoorK1e24K
import Derived.ProofKit
import Derived.Lay
import Derived.SevenTiedAt
set_option maxRecDepth 100000
namespace Go.Proofs.YtfobgbnjicmnaaaGreatDoor.kernelOpened
open Go.AM
theorem own : ownKnob Tryz.prog.godebug = none := by kernel_rfl
theorem lifted (os : Os) (started : os.Started) (H : Type) (enc : TypeId × Value → H) :
    ReturnsInHanded {} Tryz.checked os 4 .any (fun w args => (Rows.kernelOpenedSpec.pre enc Tryz.prog Tryz.f4 Rows.kernelOpenedRow.domain false w args ∧ laidMetH Tryz.prog Rows.kernelOpenedRow.laid w) ∧ sizedMet enc Tryz.prog Tryz.f4 (OpenSpec.ofChange Rows.kernelOpenedSpec) false w args) (Rows.kernelOpenedSpec.post enc Tryz.prog Tryz.f4 false true false false) := by
  refine law_laid (C := Tryz.checked) (l := Rows.kernelOpenedRow.laid) (shs := [.int .u16, .int .u8, .str]) (d := 12) (kps := kps) (ext := ext) own started (by kernel_rfl) Tryz.func4
    (ChangeSpec.witness_shaped (enc := enc) (C := Tryz.checked) (os := os) (X := fun w _ => laidMetH Tryz.prog Rows.kernelOpenedRow.laid w) false (World.laidAll Tryz.prog os Rows.kernelOpenedRow.laid) #[(.int .u16 0), (.int .u8 0), (.string ⟨#[]⟩)] 12 (World.laidAll_os _ _ _)
      (World.shaped_of_ZipB (by kernel_rfl) (by kernel_rfl)) (by kernel_rfl) (by kernel_rfl) (by kernel_rfl)
      (by rw [MakeChecks.laidMetH_plain _ _ _ (by kernel_rfl)]; exact laidMet_laidAll _ (by kernel_rfl) (by kernel_rfl))) ?_ rfl rfl Tryz.underlying4 (by kernel_rfl) (by kernel_rfl) (by kernel_rfl) (by kernel_rfl) (by kernel_rfl) (by kernel_rfl) (by kernel_rfl)
    extOk ?_
  · intro ds h
    have h : ds.length = 3 := h
    match ds, h with
    | [_, _, _], _ => rfl
  · intro H args Q hargs hQ
    obtain ⟨v0, _, rfl, h0, hargs⟩ := hargs.cons_inv
    obtain ⟨v1, _, rfl, h1, hargs⟩ := hargs.cons_inv
    obtain ⟨v2, _, rfl, h2, hargs⟩ := hargs.cons_inv
    obtain rfl := hargs.nil_inv
    obtain ⟨x, rfl⟩ := h0.u16
    obtain ⟨y, rfl⟩ := h1.u8
    obtain ⟨l, e1, _⟩ := (show SV H .str [v2] from h2)
    obtain rfl : v2 = AM.str l := by simpa using e1
    exact CallW.ext ⟨rfl, ⟨x, y, ⟨l.toArray⟩, rfl⟩, hQ H⟩
set_option maxHeartbeats 4000000
theorem jf : joinedFacts Tryz.pinned.checked.prog 4 Tryz.f4 Rows.kernelOpenedSpec Rows.kernelOpenedRow = true := by
  unfold joinedFacts
  simp only [Bool.and_eq_true]
  and_intros
  all_goals decide +kernel
theorem over : Rows.kernelOpenedRow.holds Tryz.pinned (OpenSpec.ofChange Rows.kernelOpenedSpec) :=
  OpenClaim.holds_of_wide 4 Tryz.f4 rfl rfl rfl rfl rfl rfl rfl ⟨rfl, rfl, rfl, rfl, rfl⟩ rfl rfl rfl rfl rfl (by kernel_rfl) Tryz.func4 jf
    (of_decide_eq_true (by kernel_rfl)) (by unfold Func.isWrapper; first | (rw [if_pos (by decide +kernel)]; kernel_rfl) | (rw [if_neg (by decide +kernel)]; exact ⟨rfl, rfl⟩))
    (fun os started H enc _ => lifted os started H enc)
theorem proved : Rows.KernelOpenedCardSaid :=
  Claim7.holds_tied_plain_at .later [] [.data, .pinned] true (true, "c1e2bb808e8c62aad63db22c2835949f4853c0de7acee38831814056b95f0248") false over (fun _ h => by cases h) k0 (fun _ h => by cases h) kernelOpened_row_tie rfl ⟨rfl, rfl⟩ k1 rfl
    (fun f fn hf hfn => by
      obtain rfl : f = 4 := Option.some.inj (k2.symm.trans hf) |>.symm
      obtain rfl : fn = Tryz.f4 := (Option.some.inj (Tryz.func4.symm.trans hfn)).symm
      exact ⟨k3, fun j t ht => by
        rw [Tryz.params4] at ht
        have hm : t ∈ [22, 5, 9] := by simpa using Array.mem_of_getElem? ht
        have hall : ([22, 5, 9].all fun u => !Tryz.prog.wantsStandIn u) = true := by kernel_rfl
        exact (show Tryz.prog.wantsStandIn t = false by simpa using List.all_eq_true.1 hall t hm)⟩)
    k5
#print axioms proved
end Go.Proofs.YtfobgbnjicmnaaaGreatDoor.kernelOpened
