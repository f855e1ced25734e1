/- PROVED HERE: whatever the input, 'pinfoldlaw19.VfsRight' returns true and its input reads as it did: no conditions. The card ties the row's listed variables to the program's text. -/
import Derived.Test.YtgeenpollgalkaaGreatDoorCards
import Derived.Test.YtgeenpollgalkaaGreatDoorTie
import Derived.Test.YtgeenpollgalkaaGreatDoorV3d26Link
import Derived.Test.YtgeenpollgalkaaGreatDoorV3d26C2
import Derived.ProofKit
import Derived.Lay
import Derived.SevenTiedAt
set_option maxRecDepth 100000
namespace Go.Proofs.YtgeenpollgalkaaGreatDoor.vfsRight
open Go.AM
theorem own : ownKnob Tryz.prog.godebug = none := by kernel_rfl
theorem lifted (os : Os) (started : os.Started) (H : Type) (enc : TypeId × Value -> H) :
    ReturnsInHanded {} Tryz.checked os 7 .any (fun w args => (Rows.vfsRightSpec.pre enc Tryz.prog Tryz.f7 Rows.vfsRightRow.domain false w args /\ laidMetH Tryz.prog Rows.vfsRightRow.laid w) /\ sizedMet enc Tryz.prog Tryz.f7 (OpenSpec.ofChange Rows.vfsRightSpec) false w args) (Rows.vfsRightSpec.post enc Tryz.prog Tryz.f7 false true false false) := by
  refine law_laid (C := Tryz.checked) (l := Rows.vfsRightRow.laid) (shs := [.slice 14 (.struct [.int .u8, .struct [.int .u8, .int .u8, .int .u8, .int .u8, .int .u8, .str, .int .i64, .slice 1 (.int .u8), .bool, .bool], .int .u8, .int .u8, .int .u8]), .int .u8, .int .u8]) (d := 12) (kps := kps) (ext := ext) own started (by kernel_rfl) Tryz.func7
    (ChangeSpec.witness_shaped (enc := enc) (C := Tryz.checked) (os := os) (X := fun w _ => laidMetH Tryz.prog Rows.vfsRightRow.laid w) false (World.laidAll Tryz.prog os Rows.vfsRightRow.laid) #[(.slice none 0 0), (.int .u8 0), (.int .u8 0)] 12 (World.laidAll_os _ _ _)
      (World.shaped_of_ZipB (by kernel_rfl) (by kernel_rfl)) (by kernel_rfl) (by kernel_rfl) (by kernel_rfl)
      (by rw [MakeChecks.laidMetH_plain _ _ _ (by kernel_rfl)]; exact laidMet_laidAll _ (by kernel_rfl) (by kernel_rfl))) ?_ rfl rfl Tryz.underlying4 (by kernel_rfl) (by kernel_rfl) (by kernel_rfl) (by kernel_rfl) (by kernel_rfl) (by kernel_rfl) (by kernel_rfl)
    extOk ?_
  · intro ds h
    have h : ds.length = 3 := h
    match ds, h with
    | [_, _, _], _ => rfl
  · intro H args Q hargs hQ
    exact S.law_VfsRight (E := sy W) fold args hargs hQ
set_option maxHeartbeats 4000000
theorem jf : joinedFacts Tryz.pinned.checked.prog 7 Tryz.f7 Rows.vfsRightSpec Rows.vfsRightRow = true := by
  unfold joinedFacts
  simp only [Bool.and_eq_true]
  and_intros
  all_goals decide +kernel
theorem over : Rows.vfsRightRow.holds Tryz.pinned (OpenSpec.ofChange Rows.vfsRightSpec) :=
  OpenClaim.holds_of_wide 7 Tryz.f7 rfl rfl rfl rfl rfl rfl rfl ⟨rfl, rfl, rfl, rfl, rfl⟩ rfl rfl rfl rfl rfl (by kernel_rfl) Tryz.func7 jf
    (of_decide_eq_true (by kernel_rfl)) (by unfold Func.isWrapper; first | (rw [if_pos (by decide +kernel)]; kernel_rfl) | (rw [if_neg (by decide +kernel)]; exact ⟨rfl, rfl⟩))
    (fun os started H enc _ => lifted os started H enc)
theorem proved : Rows.VfsRightCardSaid :=
  Claim7.holds_tied_plain_at .later [] [.data, .pinned] true (true, "7a49e8ca5044569fa667b3b69eb7ad14051a15c129c2f1a69dea97eab8f01bf9") false over (fun _ h => by cases h) (by kernel_rfl) (fun _ h => by cases h) vfsRight_row_tie rfl ⟨rfl, rfl⟩ (by kernel_rfl) rfl
    (fun f fn hf hfn => by
      obtain rfl : f = 7 := Option.some.inj ((show Tryz.prog.funcNamed "pinfold/pinfoldlaw19.VfsRight" = some 7 by kernel_rfl).symm.trans hf) |>.symm
      obtain rfl : fn = Tryz.f7 := (Option.some.inj (Tryz.func7.symm.trans hfn)).symm
      exact ⟨by kernel_rfl, fun j t ht => by
        rw [Tryz.params7] at ht
        have hm : t ∈ [22, 5, 5] := by simpa using Array.mem_of_getElem? ht
        have hall : ([22, 5, 5].all fun u => !Tryz.prog.wantsStandIn u) = true := by kernel_rfl
        exact (show Tryz.prog.wantsStandIn t = false by simpa using List.all_eq_true.1 hall t hm)⟩)
    (by kernel_rfl)
#print axioms proved
end Go.Proofs.YtgeenpollgalkaaGreatDoor.vfsRight
