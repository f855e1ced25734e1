/- PROVED HERE: whatever the input, 'pinfoldlaw31.ExplainTexts' returns true and its input reads as it did: no conditions. The card ties the row's listed variables to the program's text. -/
import Derived.Test.YtfobgbnjicmnaaaGreatDoorCards
import Derived.Test.YtfobgbnjicmnaaaGreatDoorTie
import Derived.Test.YtfobgbnjicmnaaaGreatDoorE7cc8Link
import Derived.Test.YtfobgbnjicmnaaaGreatDoorE7cc8C0
import Derived.Test.YtfobgbnjicmnaaaGreatDoorE7cc8K
import Derived.ProofKit
import Derived.Lay
import Derived.SevenTiedAt
set_option maxRecDepth 100000
namespace Go.Proofs.YtfobgbnjicmnaaaGreatDoor.explainTexts
open Go.AM
theorem own : ownKnob Tryz.prog.godebug = none := by kernel_rfl
theorem lifted (os : Os) (started : os.Started) (H : Type) (enc : TypeId × Value -> H) :
    ReturnsInHanded {} Tryz.checked os 10 .any (fun w args => (Rows.explainTextsSpec.pre enc Tryz.prog Tryz.f10 Rows.explainTextsRow.domain false w args /\ laidMetH Tryz.prog Rows.explainTextsRow.laid w) /\ sizedMet enc Tryz.prog Tryz.f10 (OpenSpec.ofChange Rows.explainTextsSpec) false w args) (Rows.explainTextsSpec.post enc Tryz.prog Tryz.f10 false true false false) := by
  refine law_laid (C := Tryz.checked) (l := Rows.explainTextsRow.laid) (shs := [.slice 1 (.int .u32), .int .i64, .int .i64, .int .u16, .struct [.int .u8, .bool, .int .u32, .arr 2 (.int .u64), .arr 2 (.str)]]) (d := 12) (kps := kps) (ext := ext) own started (by kernel_rfl) Tryz.func10
    (ChangeSpec.witness_shaped (enc := enc) (C := Tryz.checked) (os := os) (X := fun w _ => laidMetH Tryz.prog Rows.explainTextsRow.laid w) false (World.laidAll Tryz.prog os Rows.explainTextsRow.laid) #[(.slice none 0 0), (.int .i64 0), (.int .i64 0), (.int .u16 0), (.agg #[(.int .u8 0), (.bool false), (.int .u32 0), (.int .u64 0), (.int .u64 0), (.string ⟨#[]⟩), (.string ⟨#[]⟩)])] 12 (World.laidAll_os _ _ _)
      (World.shaped_of_ZipB (by kernel_rfl) (by kernel_rfl)) (by kernel_rfl) (by kernel_rfl) (by kernel_rfl)
      (by rw [MakeChecks.laidMetH_plain _ _ _ (by kernel_rfl)]; exact laidMet_laidAll _ (by kernel_rfl) (by kernel_rfl))) ?_ rfl rfl Tryz.underlying4 (by kernel_rfl) (by kernel_rfl) (by kernel_rfl) (by kernel_rfl) (by kernel_rfl) (by kernel_rfl) (by kernel_rfl)
    extOk ?_
  · intro ds h
    have h : ds.length = 5 := h
    match ds, h with
    | [_, _, _, _, _], _ => rfl
  · intro H args Q hargs hQ
    exact S.law_ExplainTexts (E := sy W) fold args hargs hQ
set_option maxHeartbeats 4000000
theorem jf : joinedFacts Tryz.pinned.checked.prog 10 Tryz.f10 Rows.explainTextsSpec Rows.explainTextsRow = true := by
  unfold joinedFacts
  simp only [Bool.and_eq_true]
  and_intros
  all_goals decide +kernel
theorem over : Rows.explainTextsRow.holds Tryz.pinned (OpenSpec.ofChange Rows.explainTextsSpec) :=
  OpenClaim.holds_of_wide 10 Tryz.f10 rfl rfl rfl rfl rfl rfl rfl ⟨rfl, rfl, rfl, rfl, rfl⟩ rfl rfl rfl rfl rfl (by kernel_rfl) Tryz.func10 jf
    (of_decide_eq_true (by kernel_rfl)) (by unfold Func.isWrapper; first | (rw [if_pos (by decide +kernel)]; kernel_rfl) | (rw [if_neg (by decide +kernel)]; exact ⟨rfl, rfl⟩))
    (fun os started H enc _ => lifted os started H enc)
theorem proved : Rows.ExplainTextsCardSaid :=
  Claim7.holds_tied_plain_at .later [] [.data, .pinned] true (true, "c1e2bb808e8c62aad63db22c2835949f4853c0de7acee38831814056b95f0248") false over (fun _ h => by cases h) k0 (fun _ h => by cases h) explainTexts_row_tie rfl ⟨rfl, rfl⟩ k1 rfl
    (fun f fn hf hfn => by
      obtain rfl : f = 10 := Option.some.inj (k2.symm.trans hf) |>.symm
      obtain rfl : fn = Tryz.f10 := (Option.some.inj (Tryz.func10.symm.trans hfn)).symm
      exact ⟨k3, fun j t ht => by
        rw [Tryz.params10] at ht
        have hm : t ∈ [118, 3, 3, 22, 58] := by simpa using Array.mem_of_getElem? ht
        have hall : ([118, 3, 3, 22, 58].all fun u => !Tryz.prog.wantsStandIn u) = true := by kernel_rfl
        exact (show Tryz.prog.wantsStandIn t = false by simpa using List.all_eq_true.1 hall t hm)⟩)
    k5
#print axioms proved
end Go.Proofs.YtfobgbnjicmnaaaGreatDoor.explainTexts
