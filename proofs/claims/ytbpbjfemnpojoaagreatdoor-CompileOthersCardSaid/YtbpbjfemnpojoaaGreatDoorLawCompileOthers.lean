/- PROVED HERE: whatever the input, 'pinfoldlaw15.CompileOthers' returns true and its input reads as it did: no conditions. The card ties the row's listed variables to the program's text. -/
import Derived.Test.YtbpbjfemnpojoaaGreatDoorCards
import Derived.Test.YtbpbjfemnpojoaaGreatDoorTie
import Derived.Test.YtbpbjfemnpojoaaGreatDoorC657dLink
import Derived.Test.YtbpbjfemnpojoaaGreatDoorC657dC3
import Derived.Test.YtbpbjfemnpojoaaGreatDoorC657dK
import Derived.ProofKit
import Derived.Lay
import Derived.SevenTiedAt
set_option maxRecDepth 100000
namespace Go.Proofs.YtbpbjfemnpojoaaGreatDoor.compileOthers
open Go.AM
theorem own : ownKnob Tryz.prog.godebug = none := by kernel_rfl
theorem lifted (os : Os) (started : os.Started) (H : Type) (enc : TypeId × Value -> H) :
    ReturnsInHanded {} Tryz.checked os 3 .any (fun w args => (Rows.compileOthersSpec.pre enc Tryz.prog Tryz.f3 Rows.compileOthersRow.domain false w args /\ laidMetH Tryz.prog Rows.compileOthersRow.laid w) /\ sizedMet enc Tryz.prog Tryz.f3 (OpenSpec.ofChange Rows.compileOthersSpec) false w args) (Rows.compileOthersSpec.post enc Tryz.prog Tryz.f3 false true false false) := by
  refine aKq (C := Tryz.checked) (l := Rows.compileOthersRow.laid) (shs := [.struct [.int .u8, .int .u8, .int .u8, .slice 4 (.struct [.int .u8, .int .u8, .int .u8, .slice 4 (.struct [.int .u8, .int .u8, .int .u8, .int .u8])]), .int .u16, .slice 1 (.int .u8), .slice 1 (.int .u16), .slice 1 (.int .u8)], .struct [.int .u8, .int .u8, .int .u8, .slice 4 (.struct [.int .u8, .int .u8, .int .u8, .slice 4 (.struct [.int .u8, .int .u8, .int .u8, .int .u8])]), .int .u16, .slice 1 (.int .u8), .slice 1 (.int .u16), .slice 1 (.int .u8)], .slice 9 (.struct [.int .u32, .int .u32, .int .u64, .arr 6 (.int .u64)]), .slice 1 (.int .u8)]) (d := 12) (kps := kps) (ext := ext) own started (by kernel_rfl) Tryz.func3
    (ChangeSpec.witness_shaped (enc := enc) (C := Tryz.checked) (os := os) (X := fun w _ => laidMetH Tryz.prog Rows.compileOthersRow.laid w) false (World.laidAll Tryz.prog os Rows.compileOthersRow.laid) #[(.agg #[(.int .u8 0), (.int .u8 0), (.int .u8 0), (.slice none 0 0), (.int .u16 0), (.slice none 0 0), (.slice none 0 0), (.slice none 0 0)]), (.agg #[(.int .u8 0), (.int .u8 0), (.int .u8 0), (.slice none 0 0), (.int .u16 0), (.slice none 0 0), (.slice none 0 0), (.slice none 0 0)]), (.slice none 0 0), (.slice none 0 0)] 12 (World.laidAll_os _ _ _)
      (World.shaped_of_ZipB (by kernel_rfl) (by kernel_rfl)) (by kernel_rfl) (by kernel_rfl) (by kernel_rfl)
      (by rw [MakeChecks.laidMetH_plain _ _ _ (by kernel_rfl)]; exact laidMet_laidAll _ (by kernel_rfl) (by kernel_rfl))) ?_ rfl rfl Tryz.underlying4 (by kernel_rfl) (by kernel_rfl) (by kernel_rfl) (by kernel_rfl) (by kernel_rfl) (by kernel_rfl) (by kernel_rfl)
    aNM ?_
  · intro ds h
    have h : ds.length = 4 := h
    match ds, h with
    | [_, _, _, _], _ => rfl
  · intro H args Q hargs hQ
    exact S.law_CompileOthers (E := sy W) fold args hargs hQ
set_option maxHeartbeats 4000000
theorem jf : joinedFacts Tryz.pinned.checked.prog 3 Tryz.f3 Rows.compileOthersSpec Rows.compileOthersRow = true := by
  unfold joinedFacts;simp only [Bool.and_eq_true]
  and_intros
  all_goals decide +kernel
theorem over : Rows.compileOthersRow.holds Tryz.pinned (OpenSpec.ofChange Rows.compileOthersSpec) :=
  OpenClaim.holds_of_wide 3 Tryz.f3 rfl rfl rfl rfl rfl rfl rfl ⟨rfl, rfl, rfl, rfl, rfl⟩ rfl rfl rfl rfl rfl (by kernel_rfl) Tryz.func3 jf
    (of_decide_eq_true (by kernel_rfl)) (by unfold Func.isWrapper; first | (rw [if_pos (by decide +kernel)]; kernel_rfl) | (rw [if_neg (by decide +kernel)]; exact ⟨rfl, rfl⟩))
    (fun os started H enc _ => lifted os started H enc)
theorem proved : Rows.CompileOthersCardSaid :=
  Claim7.holds_tied_plain_at .later [] [.data, .pinned] true (true, "00e09c9de2b30f0a07b5ab667e2d8c49831469731750d776ecb6547aa1eca8d8") false over (fun _ h => by cases h) k0 (fun _ h => by cases h) compileOthers_row_tie rfl ⟨rfl, rfl⟩ k1 rfl
    (fun f fn hf hfn => by
      obtain rfl : f = 3 := Option.some.inj (k2.symm.trans hf) |>.symm;obtain rfl : fn = Tryz.f3 := (Option.some.inj (Tryz.func3.symm.trans hfn)).symm
      exact ⟨k3, fun j t ht => by
        rw [Tryz.params3] at ht;have hm : t ∈ [27, 27, 28, 24] := by simpa using Array.mem_of_getElem? ht
        have hall : ([27, 27, 28, 24].all fun u => !Tryz.prog.wantsStandIn u) = true := by kernel_rfl
        exact (show Tryz.prog.wantsStandIn t = false by simpa using List.all_eq_true.1 hall t hm)⟩)
    k5
#print axioms proved
end Go.Proofs.YtbpbjfemnpojoaaGreatDoor.compileOthers
