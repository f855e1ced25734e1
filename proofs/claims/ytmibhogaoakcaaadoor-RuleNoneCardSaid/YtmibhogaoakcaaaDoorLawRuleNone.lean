/- PROVED HERE: whatever the input, 'pinfoldlaw20.RuleNone' returns true and its input reads as it did: no conditions. The card ties the row's listed variables to the program's text. -/
import Derived.Test.YtmibhogaoakcaaaDoorCards
import Derived.Test.YtmibhogaoakcaaaDoorTie
import Derived.Test.YtmibhogaoakcaaaDoorRe9caLink
import Derived.Test.YtmibhogaoakcaaaDoorRe9caC2
import Derived.ProofKit
import Derived.Lay
import Derived.SevenTiedAt
set_option maxRecDepth 100000
namespace Go.Proofs.YtmibhogaoakcaaaDoor.ruleNone
open Go.AM
theorem own : ownKnob Tryd.prog.godebug = none := by kernel_rfl
theorem lifted (os : Os) (started : os.Started) (H : Type) (enc : TypeId × Value → H) :
    ReturnsInHanded {} Tryd.checked os 5 .any (fun w args => (Rows.ruleNoneSpec.pre enc Tryd.prog Tryd.f5 Rows.ruleNoneRow.domain false w args ∧ laidMetH Tryd.prog Rows.ruleNoneRow.laid w) ∧ sizedMet enc Tryd.prog Tryd.f5 (OpenSpec.ofChange Rows.ruleNoneSpec) false w args) (Rows.ruleNoneSpec.post enc Tryd.prog Tryd.f5 false true false false) := by
  refine law_laid (C := Tryd.checked) (l := Rows.ruleNoneRow.laid) (shs := [.struct [.str, .int .u32, .slice 3 (.struct [.int .u32, .int .u32, .slice 4 (.struct [.int .i64, .int .u8, .int .u64, .int .u64])]), .int .u16, .slice 2 (.struct [.str, .int .u16]), .slice 2 (.struct [.int .u16, .int .u16])], .int .u16, .int .u16, .slice 2 (.struct [.int .i64, .int .u16])]) (d := 12) (kps := kps) (ext := ext) own started (by kernel_rfl) Tryd.func5
    (ChangeSpec.witness_shaped (enc := enc) (C := Tryd.checked) (os := os) (X := fun w _ => laidMetH Tryd.prog Rows.ruleNoneRow.laid w) false (World.laidAll Tryd.prog os Rows.ruleNoneRow.laid) #[(.agg #[(.string ⟨#[]⟩), (.int .u32 0), (.slice none 0 0), (.int .u16 0), (.slice none 0 0), (.slice none 0 0)]), (.int .u16 0), (.int .u16 0), (.slice none 0 0)] 12 (World.laidAll_os _ _ _)
      (World.shaped_of_ZipB (by kernel_rfl) (by kernel_rfl)) (by kernel_rfl) (by kernel_rfl) (by kernel_rfl)
      (by rw [MakeChecks.laidMetH_plain _ _ _ (by kernel_rfl)]; exact laidMet_laidAll _ (by kernel_rfl) (by kernel_rfl))) ?_ rfl rfl Tryd.underlying4 (by kernel_rfl) (by kernel_rfl) (by kernel_rfl) (by kernel_rfl) (by kernel_rfl) (by kernel_rfl) (by kernel_rfl)
    extOk ?_
  · intro ds h
    have h : ds.length = 4 := h
    match ds, h with
    | [_, _, _, _], _ => rfl
  · intro H args Q hargs hQ
    exact S.law_RuleNone (E := sy (CallW Tryd.prog kps ext)) fold args hargs hQ
theorem over : Rows.ruleNoneRow.holds Tryd.pinned (OpenSpec.ofChange Rows.ruleNoneSpec) :=
  OpenClaim.holds_of_wide 5 Tryd.f5 rfl rfl rfl rfl rfl rfl rfl ⟨rfl, rfl, rfl, rfl, rfl⟩ rfl rfl rfl rfl rfl (by kernel_rfl) Tryd.func5 (by kernel_rfl)
    (of_decide_eq_true (by kernel_rfl)) (by unfold Func.isWrapper; first | (rw [if_pos (by decide +kernel)]; kernel_rfl) | (rw [if_neg (by decide +kernel)]; exact ⟨rfl, rfl⟩))
    (fun os started H enc _ => lifted os started H enc)
theorem proved : Rows.RuleNoneCardSaid :=
  Claim7.holds_tied_plain_at .later [] [.data, .pinned] true (true, "5fba118403da4cd37eee05214034bb267996d37c9137991c35e383e9738f102e") false over (fun _ h => by cases h) (by kernel_rfl) (fun _ h => by cases h) ruleNone_row_tie rfl ⟨rfl, rfl⟩ (by kernel_rfl) rfl
    (fun f fn hf hfn => by
      obtain rfl : f = 5 := Option.some.inj ((show Tryd.prog.funcNamed "pinfold/pinfoldlaw20.RuleNone" = some 5 by kernel_rfl).symm.trans hf) |>.symm
      obtain rfl : fn = Tryd.f5 := (Option.some.inj (Tryd.func5.symm.trans hfn)).symm
      exact ⟨by kernel_rfl, fun j t ht => by
        rw [Tryd.params5] at ht
        have hm : t ∈ [36, 23, 23, 61] := by simpa using Array.mem_of_getElem? ht
        have hall : ([36, 23, 23, 61].all fun u => !Tryd.prog.wantsStandIn u) = true := by kernel_rfl
        exact (show Tryd.prog.wantsStandIn t = false by simpa using List.all_eq_true.1 hall t hm)⟩)
    (by kernel_rfl)
#print axioms proved
end Go.Proofs.YtmibhogaoakcaaaDoor.ruleNone
