/- PROVED HERE: whatever the input, 'pinfoldlaw20.RulePorts' returns true and its input reads as it did: no conditions. The card ties the row's listed variables to the program's text. -/
import Derived.Test.YtmibhogaoakcaaaDoorCards
import Derived.Test.YtmibhogaoakcaaaDoorTie
import Derived.Test.YtmibhogaoakcaaaDoorR5da1Link
import Derived.Test.YtmibhogaoakcaaaDoorR5da1C1
import Derived.ProofKit
import Derived.Lay
import Derived.SevenTiedAt
set_option maxRecDepth 100000
namespace Go.Proofs.YtmibhogaoakcaaaDoor.rulePorts
open Go.AM
theorem own : ownKnob Tryd.prog.godebug = none := by kernel_rfl
theorem lifted (os : Os) (started : os.Started) (H : Type) (enc : TypeId × Value → H) :
    ReturnsInHanded {} Tryd.checked os 3 .any (fun w args => (Rows.rulePortsSpec.pre enc Tryd.prog Tryd.f3 Rows.rulePortsRow.domain false w args ∧ laidMetH Tryd.prog Rows.rulePortsRow.laid w) ∧ sizedMet enc Tryd.prog Tryd.f3 (OpenSpec.ofChange Rows.rulePortsSpec) false w args) (Rows.rulePortsSpec.post enc Tryd.prog Tryd.f3 false true false false) := by
  refine law_laid (C := Tryd.checked) (l := Rows.rulePortsRow.laid) (shs := [.struct [.int .u8, .int .u8, .int .u8, .slice 4 (.struct [.int .u8, .int .u8, .int .u8, .slice 4 (.struct [.int .u8, .int .u8, .int .u8, .int .u8])]), .int .u16, .slice 1 (.int .u8), .slice 1 (.int .u16), .slice 1 (.int .u8)], .int .u16, .int .u16]) (d := 12) (kps := kps) (ext := ext) own started (by kernel_rfl) Tryd.func3
    (ChangeSpec.witness_shaped (enc := enc) (C := Tryd.checked) (os := os) (X := fun w _ => laidMetH Tryd.prog Rows.rulePortsRow.laid w) false (World.laidAll Tryd.prog os Rows.rulePortsRow.laid) #[(.agg #[(.int .u8 0), (.int .u8 0), (.int .u8 0), (.slice none 0 0), (.int .u16 0), (.slice none 0 0), (.slice none 0 0), (.slice none 0 0)]), (.int .u16 0), (.int .u16 0)] 12 (World.laidAll_os _ _ _)
      (World.shaped_of_ZipB (by kernel_rfl) (by kernel_rfl)) (by kernel_rfl) (by kernel_rfl) (by kernel_rfl)
      (by rw [MakeChecks.laidMetH_plain _ _ _ (by kernel_rfl)]; exact laidMet_laidAll _ (by kernel_rfl) (by kernel_rfl))) ?_ rfl rfl Tryd.underlying4 (by kernel_rfl) (by kernel_rfl) (by kernel_rfl) (by kernel_rfl) (by kernel_rfl) (by kernel_rfl) (by kernel_rfl)
    extOk ?_
  · intro ds h
    have h : ds.length = 3 := h
    match ds, h with
    | [_, _, _], _ => rfl
  · intro H args Q hargs hQ
    exact S.law_RulePorts (E := sy (CallW Tryd.prog kps ext)) fold args hargs hQ
theorem over : Rows.rulePortsRow.holds Tryd.pinned (OpenSpec.ofChange Rows.rulePortsSpec) :=
  OpenClaim.holds_of_wide 3 Tryd.f3 rfl rfl rfl rfl rfl rfl rfl ⟨rfl, rfl, rfl, rfl, rfl⟩ rfl rfl rfl rfl rfl (by kernel_rfl) Tryd.func3 (by kernel_rfl)
    (of_decide_eq_true (by kernel_rfl)) (by unfold Func.isWrapper; first | (rw [if_pos (by decide +kernel)]; kernel_rfl) | (rw [if_neg (by decide +kernel)]; exact ⟨rfl, rfl⟩))
    (fun os started H enc _ => lifted os started H enc)
theorem proved : Rows.RulePortsCardSaid :=
  Claim7.holds_tied_plain_at .later [] [.data, .pinned] true (true, "5fba118403da4cd37eee05214034bb267996d37c9137991c35e383e9738f102e") false over (fun _ h => by cases h) (by kernel_rfl) (fun _ h => by cases h) rulePorts_row_tie rfl ⟨rfl, rfl⟩ (by kernel_rfl) rfl
    (fun f fn hf hfn => by
      obtain rfl : f = 3 := Option.some.inj ((show Tryd.prog.funcNamed "pinfold/pinfoldlaw20.RulePorts" = some 3 by kernel_rfl).symm.trans hf) |>.symm
      obtain rfl : fn = Tryd.f3 := (Option.some.inj (Tryd.func3.symm.trans hfn)).symm
      exact ⟨by kernel_rfl, fun j t ht => by
        rw [Tryd.params3] at ht
        have hm : t ∈ [27, 23, 23] := by simpa using Array.mem_of_getElem? ht
        have hall : ([27, 23, 23].all fun u => !Tryd.prog.wantsStandIn u) = true := by kernel_rfl
        exact (show Tryd.prog.wantsStandIn t = false by simpa using List.all_eq_true.1 hall t hm)⟩)
    (by kernel_rfl)
#print axioms proved
end Go.Proofs.YtmibhogaoakcaaaDoor.rulePorts
