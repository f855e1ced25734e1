/- PROVED HERE: whatever the input, 'pinfoldlaw19.VfsBinds' returns true and its input reads as it did: no conditions. The card ties the row's listed variables to the program's text. -/
import Derived.Test.YtgeenpollgalkaaDoorCards
import Derived.Test.YtgeenpollgalkaaDoorTie
import Derived.Test.YtgeenpollgalkaaDoorVb6ddLink
import Derived.Test.YtgeenpollgalkaaDoorVb6ddC2
import Derived.ProofKit
import Derived.Lay
import Derived.SevenTiedAt
set_option maxRecDepth 100000
namespace Go.Proofs.YtgeenpollgalkaaDoor.vfsBinds
open Go.AM
theorem own : ownKnob Tryd.prog.godebug = none := by kernel_rfl
theorem lifted (os : Os) (started : os.Started) (H : Type) (enc : TypeId × Value -> H) :
    ReturnsInHanded {} Tryd.checked os 5 .any (fun w args => (Rows.vfsBindsSpec.pre enc Tryd.prog Tryd.f5 Rows.vfsBindsRow.domain false w args /\ laidMetH Tryd.prog Rows.vfsBindsRow.laid w) /\ sizedMet enc Tryd.prog Tryd.f5 (OpenSpec.ofChange Rows.vfsBindsSpec) false w args) (Rows.vfsBindsSpec.post enc Tryd.prog Tryd.f5 false true false false) := by
  refine law_laid (C := Tryd.checked) (l := Rows.vfsBindsRow.laid) (shs := [.slice 1 (.int .u8), .slice 1 (.int .u8)]) (d := 12) (kps := kps) (ext := ext) own started (by kernel_rfl) Tryd.func5
    (ChangeSpec.witness_shaped (enc := enc) (C := Tryd.checked) (os := os) (X := fun w _ => laidMetH Tryd.prog Rows.vfsBindsRow.laid w) false (World.laidAll Tryd.prog os Rows.vfsBindsRow.laid) #[(.slice none 0 0), (.slice none 0 0)] 12 (World.laidAll_os _ _ _)
      (World.shaped_of_ZipB (by kernel_rfl) (by kernel_rfl)) (by kernel_rfl) (by kernel_rfl) (by kernel_rfl)
      (by rw [MakeChecks.laidMetH_plain _ _ _ (by kernel_rfl)]; exact laidMet_laidAll _ (by kernel_rfl) (by kernel_rfl))) ?_ rfl rfl Tryd.underlying4 (by kernel_rfl) (by kernel_rfl) (by kernel_rfl) (by kernel_rfl) (by kernel_rfl) (by kernel_rfl) (by kernel_rfl)
    extOk ?_
  · intro ds h
    have h : ds.length = 2 := h
    match ds, h with
    | [_, _], _ => rfl
  · intro H args Q hargs hQ
    exact S.law_VfsBinds (E := sy W) fold args hargs hQ
set_option maxHeartbeats 4000000
theorem jf : joinedFacts Tryd.pinned.checked.prog 5 Tryd.f5 Rows.vfsBindsSpec Rows.vfsBindsRow = true := by
  unfold joinedFacts
  simp only [Bool.and_eq_true]
  and_intros
  all_goals decide +kernel
theorem over : Rows.vfsBindsRow.holds Tryd.pinned (OpenSpec.ofChange Rows.vfsBindsSpec) :=
  OpenClaim.holds_of_wide 5 Tryd.f5 rfl rfl rfl rfl rfl rfl rfl ⟨rfl, rfl, rfl, rfl, rfl⟩ rfl rfl rfl rfl rfl (by kernel_rfl) Tryd.func5 jf
    (of_decide_eq_true (by kernel_rfl)) (by unfold Func.isWrapper; first | (rw [if_pos (by decide +kernel)]; kernel_rfl) | (rw [if_neg (by decide +kernel)]; exact ⟨rfl, rfl⟩))
    (fun os started H enc _ => lifted os started H enc)
theorem proved : Rows.VfsBindsCardSaid :=
  Claim7.holds_tied_plain_at .later [] [.data, .pinned] true (true, "b19bfd61130ce6bbc8a591303df134b759a2f7e2b842cce01eaf0877e274c24c") false over (fun _ h => by cases h) (by kernel_rfl) (fun _ h => by cases h) vfsBinds_row_tie rfl ⟨rfl, rfl⟩ (by kernel_rfl) rfl
    (fun f fn hf hfn => by
      obtain rfl : f = 5 := Option.some.inj ((show Tryd.prog.funcNamed "pinfold/pinfoldlaw19.VfsBinds" = some 5 by kernel_rfl).symm.trans hf) |>.symm
      obtain rfl : fn = Tryd.f5 := (Option.some.inj (Tryd.func5.symm.trans hfn)).symm
      exact ⟨by kernel_rfl, fun j t ht => by
        rw [Tryd.params5] at ht
        have hm : t ∈ [41, 41] := by simpa using Array.mem_of_getElem? ht
        have hall : ([41, 41].all fun u => !Tryd.prog.wantsStandIn u) = true := by kernel_rfl
        exact (show Tryd.prog.wantsStandIn t = false by simpa using List.all_eq_true.1 hall t hm)⟩)
    (by kernel_rfl)
#print axioms proved
end Go.Proofs.YtgeenpollgalkaaDoor.vfsBinds
