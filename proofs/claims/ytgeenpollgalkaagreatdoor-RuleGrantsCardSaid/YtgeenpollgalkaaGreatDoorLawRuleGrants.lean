/- PROVED HERE: whatever the input, 'pinfoldlaw20.RuleGrants' returns true and its input reads as it did: no conditions. The card ties the row's listed variables to the program's text. -/
import Derived.Test.YtgeenpollgalkaaGreatDoorCards
import Derived.Test.YtgeenpollgalkaaGreatDoorTie
import Derived.Test.YtgeenpollgalkaaGreatDoorRb55fLink
import Derived.Test.YtgeenpollgalkaaGreatDoorRb55fC2
import Derived.ProofKit
import Derived.Lay
import Derived.SevenTiedAt
set_option maxRecDepth 100000
namespace Go.Proofs.YtgeenpollgalkaaGreatDoor.ruleGrants
open Go.AM
theorem own : ownKnob Tryz.prog.godebug = none := by kernel_rfl
theorem lifted (os : Os) (started : os.Started) (H : Type) (enc : TypeId × Value -> H) :
    ReturnsInHanded {} Tryz.checked os 3 .any (fun w args => (Rows.ruleGrantsSpec.pre enc Tryz.prog Tryz.f3 Rows.ruleGrantsRow.domain false w args /\ laidMetH Tryz.prog Rows.ruleGrantsRow.laid w) /\ sizedMet enc Tryz.prog Tryz.f3 (OpenSpec.ofChange Rows.ruleGrantsSpec) false w args) (Rows.ruleGrantsSpec.post enc Tryz.prog Tryz.f3 false true false false) := by
  refine law_laid (C := Tryz.checked) (l := Rows.ruleGrantsRow.laid) (shs := [.slice 14 (.struct [.int .u8, .struct [.int .u8, .int .u8, .int .u8, .int .u8, .int .u8, .str, .int .i64, .slice 1 (.int .u8), .bool, .bool], .int .u8, .int .u8, .int .u8]), .struct [.int .u8, .int .u8, .int .u8, .slice 4 (.struct [.int .u8, .int .u8, .int .u8, .slice 4 (.struct [.int .u8, .int .u8, .int .u8, .int .u8])]), .int .u16, .slice 1 (.int .u8), .slice 1 (.int .u16), .slice 1 (.int .u8)], .int .u8, .slice 2 (.struct [.int .i64, .int .u16]), .int .u16]) (d := 12) (kps := kps) (ext := ext) own started (by kernel_rfl) Tryz.func3
    (ChangeSpec.witness_shaped (enc := enc) (C := Tryz.checked) (os := os) (X := fun w _ => laidMetH Tryz.prog Rows.ruleGrantsRow.laid w) false (World.laidAll Tryz.prog os Rows.ruleGrantsRow.laid) #[(.slice none 0 0), (.agg #[(.int .u8 0), (.int .u8 0), (.int .u8 0), (.slice none 0 0), (.int .u16 0), (.slice none 0 0), (.slice none 0 0), (.slice none 0 0)]), (.int .u8 0), (.slice none 0 0), (.int .u16 0)] 12 (World.laidAll_os _ _ _)
      (World.shaped_of_ZipB (by kernel_rfl) (by kernel_rfl)) (by kernel_rfl) (by kernel_rfl) (by kernel_rfl)
      (by rw [MakeChecks.laidMetH_plain _ _ _ (by kernel_rfl)]; exact laidMet_laidAll _ (by kernel_rfl) (by kernel_rfl))) ?_ rfl rfl Tryz.underlying4 (by kernel_rfl) (by kernel_rfl) (by kernel_rfl) (by kernel_rfl) (by kernel_rfl) (by kernel_rfl) (by kernel_rfl)
    extOk ?_
  · intro ds h
    have h : ds.length = 5 := h
    match ds, h with
    | [_, _, _, _, _], _ => rfl
  · intro H args Q hargs hQ
    exact S.law_RuleGrants (E := sy W) fold args hargs hQ
set_option maxHeartbeats 4000000
theorem jf : joinedFacts Tryz.pinned.checked.prog 3 Tryz.f3 Rows.ruleGrantsSpec Rows.ruleGrantsRow = true := by
  unfold joinedFacts
  simp only [Bool.and_eq_true]
  and_intros
  all_goals decide +kernel
theorem over : Rows.ruleGrantsRow.holds Tryz.pinned (OpenSpec.ofChange Rows.ruleGrantsSpec) :=
  OpenClaim.holds_of_wide 3 Tryz.f3 rfl rfl rfl rfl rfl rfl rfl ⟨rfl, rfl, rfl, rfl, rfl⟩ rfl rfl rfl rfl rfl (by kernel_rfl) Tryz.func3 jf
    (of_decide_eq_true (by kernel_rfl)) (by unfold Func.isWrapper; first | (rw [if_pos (by decide +kernel)]; kernel_rfl) | (rw [if_neg (by decide +kernel)]; exact ⟨rfl, rfl⟩))
    (fun os started H enc _ => lifted os started H enc)
theorem proved : Rows.RuleGrantsCardSaid :=
  Claim7.holds_tied_plain_at .later [] [.data, .pinned] true (true, "7a49e8ca5044569fa667b3b69eb7ad14051a15c129c2f1a69dea97eab8f01bf9") false over (fun _ h => by cases h) (by kernel_rfl) (fun _ h => by cases h) ruleGrants_row_tie rfl ⟨rfl, rfl⟩ (by kernel_rfl) rfl
    (fun f fn hf hfn => by
      obtain rfl : f = 3 := Option.some.inj ((show Tryz.prog.funcNamed "pinfold/pinfoldlaw20.RuleGrants" = some 3 by kernel_rfl).symm.trans hf) |>.symm
      obtain rfl : fn = Tryz.f3 := (Option.some.inj (Tryz.func3.symm.trans hfn)).symm
      exact ⟨by kernel_rfl, fun j t ht => by
        rw [Tryz.params3] at ht
        have hm : t ∈ [22, 28, 5, 29, 24] := by simpa using Array.mem_of_getElem? ht
        have hall : ([22, 28, 5, 29, 24].all fun u => !Tryz.prog.wantsStandIn u) = true := by kernel_rfl
        exact (show Tryz.prog.wantsStandIn t = false by simpa using List.all_eq_true.1 hall t hm)⟩)
    (by kernel_rfl)
#print axioms proved
end Go.Proofs.YtgeenpollgalkaaGreatDoor.ruleGrants
