/- PROVED HERE: whatever the input, 'pinfoldlaw18.WalkBack' returns true and its input reads as it did: no conditions. The card ties the row's listed variables to the program's text. -/
import Derived.Test.YtdionecknmcdhaaGreatDoorCards
import Derived.Test.YtdionecknmcdhaaGreatDoorTie
import Derived.Test.YtdionecknmcdhaaGreatDoorW2139Link
import Derived.Test.YtdionecknmcdhaaGreatDoorW2139C2
import Derived.Test.YtdionecknmcdhaaGreatDoorW2139K
import Derived.ProofKit
import Derived.Lay
import Derived.SevenTiedAt
set_option maxRecDepth 100000
namespace Go.Proofs.YtdionecknmcdhaaGreatDoor.walkBack
open Go.AM
theorem own : ownKnob Tryz.prog.godebug = none := by kernel_rfl
theorem lifted (os : Os) (started : os.Started) (H : Type) (enc : TypeId × Value -> H) :
    ReturnsInHanded {} Tryz.checked os 5 .any (fun w args => (Rows.walkBackSpec.pre enc Tryz.prog Tryz.f5 Rows.walkBackRow.domain false w args /\ laidMetH Tryz.prog Rows.walkBackRow.laid w) /\ sizedMet enc Tryz.prog Tryz.f5 (OpenSpec.ofChange Rows.walkBackSpec) false w args) (Rows.walkBackSpec.post enc Tryz.prog Tryz.f5 false true false false) := by
  refine law_laid (C := Tryz.checked) (l := Rows.walkBackRow.laid) (shs := [.slice 14 (.struct [.int .u8, .struct [.int .u8, .int .u8, .int .u8, .int .u8, .int .u8, .str, .int .i64, .slice 1 (.int .u8), .bool, .bool], .int .u8, .int .u8, .int .u8]), .int .u8]) (d := 12) (kps := kps) (ext := ext) own started (by kernel_rfl) Tryz.func5
    (ChangeSpec.witness_shaped (enc := enc) (C := Tryz.checked) (os := os) (X := fun w _ => laidMetH Tryz.prog Rows.walkBackRow.laid w) false (World.laidAll Tryz.prog os Rows.walkBackRow.laid) #[(.slice none 0 0), (.int .u8 0)] 12 (World.laidAll_os _ _ _)
      (World.shaped_of_ZipB (by kernel_rfl) (by kernel_rfl)) (by kernel_rfl) (by kernel_rfl) (by kernel_rfl)
      (by rw [MakeChecks.laidMetH_plain _ _ _ (by kernel_rfl)]; exact laidMet_laidAll _ (by kernel_rfl) (by kernel_rfl))) ?_ rfl rfl Tryz.underlying4 (by kernel_rfl) (by kernel_rfl) (by kernel_rfl) (by kernel_rfl) (by kernel_rfl) (by kernel_rfl) (by kernel_rfl)
    extOk ?_
  · intro ds h
    have h : ds.length = 2 := h
    match ds, h with
    | [_, _], _ => rfl
  · intro H args Q hargs hQ
    exact S.law_WalkBack (E := sy W) fold args hargs hQ
set_option maxHeartbeats 4000000
theorem jf : joinedFacts Tryz.pinned.checked.prog 5 Tryz.f5 Rows.walkBackSpec Rows.walkBackRow = true := by
  unfold joinedFacts
  simp only [Bool.and_eq_true]
  and_intros
  all_goals decide +kernel
theorem over : Rows.walkBackRow.holds Tryz.pinned (OpenSpec.ofChange Rows.walkBackSpec) :=
  OpenClaim.holds_of_wide 5 Tryz.f5 rfl rfl rfl rfl rfl rfl rfl ⟨rfl, rfl, rfl, rfl, rfl⟩ rfl rfl rfl rfl rfl (by kernel_rfl) Tryz.func5 jf
    (of_decide_eq_true (by kernel_rfl)) (by unfold Func.isWrapper; first | (rw [if_pos (by decide +kernel)]; kernel_rfl) | (rw [if_neg (by decide +kernel)]; exact ⟨rfl, rfl⟩))
    (fun os started H enc _ => lifted os started H enc)
theorem proved : Rows.WalkBackCardSaid :=
  Claim7.holds_tied_plain_at .later [] [.data, .pinned] true (true, "6a96f4532dd688bad1025ba7ec17811bce90c0b3bc879195989c1e9a5e8f42b1") false over (fun _ h => by cases h) k0 (fun _ h => by cases h) walkBack_row_tie rfl ⟨rfl, rfl⟩ k1 rfl
    (fun f fn hf hfn => by
      obtain rfl : f = 5 := Option.some.inj (k2.symm.trans hf) |>.symm
      obtain rfl : fn = Tryz.f5 := (Option.some.inj (Tryz.func5.symm.trans hfn)).symm
      exact ⟨k3, fun j t ht => by
        rw [Tryz.params5] at ht
        have hm : t ∈ [22, 5] := by simpa using Array.mem_of_getElem? ht
        have hall : ([22, 5].all fun u => !Tryz.prog.wantsStandIn u) = true := by kernel_rfl
        exact (show Tryz.prog.wantsStandIn t = false by simpa using List.all_eq_true.1 hall t hm)⟩)
    k5
#print axioms proved
end Go.Proofs.YtdionecknmcdhaaGreatDoor.walkBack
