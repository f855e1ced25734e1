/- PROVED HERE: whatever the input, 'pinfoldlaw15.CompileSays' returns true and its input reads as it did: no conditions. The card ties the row's listed variables to the program's text. -/
import Derived.Test.YtbpbjfemnpojoaaGreatDoorCards
import Derived.Test.YtbpbjfemnpojoaaGreatDoorTie
import Derived.Test.YtbpbjfemnpojoaaGreatDoorCb05cLink
import Derived.Test.YtbpbjfemnpojoaaGreatDoorCb05cC3
import Derived.Test.YtbpbjfemnpojoaaGreatDoorCb05cK
import Derived.ProofKit
import Derived.Lay
import Derived.SevenTiedAt
set_option maxRecDepth 100000
namespace Go.Proofs.YtbpbjfemnpojoaaGreatDoor.compileSays
open Go.AM
theorem own : ownKnob Tryz.prog.godebug = none := by kernel_rfl
theorem lifted (os : Os) (started : os.Started) (H : Type) (enc : TypeId × Value -> H) :
    ReturnsInHanded {} Tryz.checked os 4 .any (fun w args => (Rows.compileSaysSpec.pre enc Tryz.prog Tryz.f4 Rows.compileSaysRow.domain false w args /\ laidMetH Tryz.prog Rows.compileSaysRow.laid w) /\ sizedMet enc Tryz.prog Tryz.f4 (OpenSpec.ofChange Rows.compileSaysSpec) false w args) (Rows.compileSaysSpec.post enc Tryz.prog Tryz.f4 false true false false) := by
  refine aLt (C := Tryz.checked) (l := Rows.compileSaysRow.laid) (shs := [.struct [.str, .int .u32, .slice 3 (.struct [.int .u32, .int .u32, .slice 4 (.struct [.int .i64, .int .u8, .int .u64, .int .u64])]), .int .u16, .slice 2 (.struct [.str, .int .u16]), .slice 2 (.struct [.int .u16, .int .u16])], .struct [.int .u8, .int .u8, .int .u8, .slice 4 (.struct [.int .u8, .int .u8, .int .u8, .slice 4 (.struct [.int .u8, .int .u8, .int .u8, .int .u8])]), .int .u16, .slice 1 (.int .u8), .slice 1 (.int .u16), .slice 1 (.int .u8)], .slice 9 (.struct [.int .u32, .int .u32, .int .u64, .arr 6 (.int .u64)]), .slice 1 (.int .u8)]) (d := 12) (kps := kps) (ext := ext) own started (by kernel_rfl) Tryz.func4
    (ChangeSpec.witness_shaped (enc := enc) (C := Tryz.checked) (os := os) (X := fun w _ => laidMetH Tryz.prog Rows.compileSaysRow.laid w) false (World.laidAll Tryz.prog os Rows.compileSaysRow.laid) #[(.agg #[(.string ⟨#[]⟩), (.int .u32 0), (.slice none 0 0), (.int .u16 0), (.slice none 0 0), (.slice none 0 0)]), (.agg #[(.int .u8 0), (.int .u8 0), (.int .u8 0), (.slice none 0 0), (.int .u16 0), (.slice none 0 0), (.slice none 0 0), (.slice none 0 0)]), (.slice none 0 0), (.slice none 0 0)] 12 (World.laidAll_os _ _ _)
      (World.shaped_of_ZipB (by kernel_rfl) (by kernel_rfl)) (by kernel_rfl) (by kernel_rfl) (by kernel_rfl)
      (by rw [MakeChecks.laidMetH_plain _ _ _ (by kernel_rfl)]; exact laidMet_laidAll _ (by kernel_rfl) (by kernel_rfl))) ?_ rfl rfl Tryz.underlying4 (by kernel_rfl) (by kernel_rfl) (by kernel_rfl) (by kernel_rfl) (by kernel_rfl) (by kernel_rfl) (by kernel_rfl)
    aNO ?_
  · intro ds h
    have h : ds.length = 4 := h
    match ds, h with
    | [_, _, _, _], _ => rfl
  · intro H args Q hargs hQ
    exact S.law_CompileSays (E := sy W) fold args hargs hQ
set_option maxHeartbeats 4000000
theorem jf : joinedFacts Tryz.pinned.checked.prog 4 Tryz.f4 Rows.compileSaysSpec Rows.compileSaysRow = true := by
  unfold joinedFacts;simp only [Bool.and_eq_true]
  and_intros
  all_goals decide +kernel
theorem over : Rows.compileSaysRow.holds Tryz.pinned (OpenSpec.ofChange Rows.compileSaysSpec) :=
  OpenClaim.holds_of_wide 4 Tryz.f4 rfl rfl rfl rfl rfl rfl rfl ⟨rfl, rfl, rfl, rfl, rfl⟩ rfl rfl rfl rfl rfl (by kernel_rfl) Tryz.func4 jf
    (of_decide_eq_true (by kernel_rfl)) (by unfold Func.isWrapper; first | (rw [if_pos (by decide +kernel)]; kernel_rfl) | (rw [if_neg (by decide +kernel)]; exact ⟨rfl, rfl⟩))
    (fun os started H enc _ => lifted os started H enc)
theorem proved : Rows.CompileSaysCardSaid :=
  Claim7.holds_tied_plain_at .later [] [.data, .pinned] true (true, "00e09c9de2b30f0a07b5ab667e2d8c49831469731750d776ecb6547aa1eca8d8") false over (fun _ h => by cases h) k0 (fun _ h => by cases h) compileSays_row_tie rfl ⟨rfl, rfl⟩ k1 rfl
    (fun f fn hf hfn => by
      obtain rfl : f = 4 := Option.some.inj (k2.symm.trans hf) |>.symm;obtain rfl : fn = Tryz.f4 := (Option.some.inj (Tryz.func4.symm.trans hfn)).symm
      exact ⟨k3, fun j t ht => by
        rw [Tryz.params4] at ht;have hm : t ∈ [39, 27, 28, 24] := by simpa using Array.mem_of_getElem? ht
        have hall : ([39, 27, 28, 24].all fun u => !Tryz.prog.wantsStandIn u) = true := by kernel_rfl
        exact (show Tryz.prog.wantsStandIn t = false by simpa using List.all_eq_true.1 hall t hm)⟩)
    k5
#print axioms proved
end Go.Proofs.YtbpbjfemnpojoaaGreatDoor.compileSays
