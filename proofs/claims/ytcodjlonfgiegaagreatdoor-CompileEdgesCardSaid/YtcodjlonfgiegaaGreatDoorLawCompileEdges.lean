/- PROVED HERE: whatever the input, 'pinfoldlaw15.CompileEdges' returns true and its input reads as it did: no conditions. The card ties the row's listed variables to the program's text. -/
import Derived.Test.YtcodjlonfgiegaaGreatDoorCards
import Derived.Test.YtcodjlonfgiegaaGreatDoorTie
import Derived.Test.YtcodjlonfgiegaaGreatDoorCbd9fLink
import Derived.Test.YtcodjlonfgiegaaGreatDoorCbd9fC1
import Derived.Test.YtcodjlonfgiegaaGreatDoorCbd9fK
import Derived.ProofKit
import Derived.Lay
import Derived.SevenTiedAt
set_option maxRecDepth 100000
namespace Go.Proofs.YtcodjlonfgiegaaGreatDoor.compileEdges
open Go.AM
theorem own : ownKnob Tryz.prog.godebug = none := by kernel_rfl
theorem lifted (os : Os) (started : os.Started) (H : Type) (enc : TypeId × Value -> H) :
    ReturnsInHanded {} Tryz.checked os 5 .any (fun w args => (Rows.compileEdgesSpec.pre enc Tryz.prog Tryz.f5 Rows.compileEdgesRow.domain false w args /\ laidMetH Tryz.prog Rows.compileEdgesRow.laid w) /\ sizedMet enc Tryz.prog Tryz.f5 (OpenSpec.ofChange Rows.compileEdgesSpec) false w args) (Rows.compileEdgesSpec.post enc Tryz.prog Tryz.f5 false true false false) := by
  refine law_laid (C := Tryz.checked) (l := Rows.compileEdgesRow.laid) (shs := [.struct [.str, .int .u32, .slice 3 (.struct [.int .u32, .int .u32, .slice 4 (.struct [.int .i64, .int .u8, .int .u64, .int .u64])]), .int .u16, .slice 2 (.struct [.str, .int .u16]), .slice 2 (.struct [.int .u16, .int .u16])], .struct [.int .u8, .int .u8, .int .u8, .slice 4 (.struct [.int .u8, .int .u8, .int .u8, .slice 4 (.struct [.int .u8, .int .u8, .int .u8, .int .u8])]), .int .u16, .slice 1 (.int .u8), .slice 1 (.int .u16), .slice 1 (.int .u8)]]) (d := 12) (kps := kps) (ext := ext) own started (by kernel_rfl) Tryz.func5
    (ChangeSpec.witness_shaped (enc := enc) (C := Tryz.checked) (os := os) (X := fun w _ => laidMetH Tryz.prog Rows.compileEdgesRow.laid w) false (World.laidAll Tryz.prog os Rows.compileEdgesRow.laid) #[(.agg #[(.string ⟨#[]⟩), (.int .u32 0), (.slice none 0 0), (.int .u16 0), (.slice none 0 0), (.slice none 0 0)]), (.agg #[(.int .u8 0), (.int .u8 0), (.int .u8 0), (.slice none 0 0), (.int .u16 0), (.slice none 0 0), (.slice none 0 0), (.slice none 0 0)])] 12 (World.laidAll_os _ _ _)
      (World.shaped_of_ZipB (by kernel_rfl) (by kernel_rfl)) (by kernel_rfl) (by kernel_rfl) (by kernel_rfl)
      (by rw [MakeChecks.laidMetH_plain _ _ _ (by kernel_rfl)]; exact laidMet_laidAll _ (by kernel_rfl) (by kernel_rfl))) ?_ rfl rfl Tryz.underlying4 (by kernel_rfl) (by kernel_rfl) (by kernel_rfl) (by kernel_rfl) (by kernel_rfl) (by kernel_rfl) (by kernel_rfl)
    extOk ?_
  · intro ds h
    have h : ds.length = 2 := h
    match ds, h with
    | [_, _], _ => rfl
  · intro H args Q hargs hQ
    exact S.law_CompileEdges (E := sy W) fold args hargs hQ
set_option maxHeartbeats 4000000
theorem jf : joinedFacts Tryz.pinned.checked.prog 5 Tryz.f5 Rows.compileEdgesSpec Rows.compileEdgesRow = true := by
  unfold joinedFacts
  simp only [Bool.and_eq_true]
  and_intros
  all_goals decide +kernel
theorem over : Rows.compileEdgesRow.holds Tryz.pinned (OpenSpec.ofChange Rows.compileEdgesSpec) :=
  OpenClaim.holds_of_wide 5 Tryz.f5 rfl rfl rfl rfl rfl rfl rfl ⟨rfl, rfl, rfl, rfl, rfl⟩ rfl rfl rfl rfl rfl (by kernel_rfl) Tryz.func5 jf
    (of_decide_eq_true (by kernel_rfl)) (by unfold Func.isWrapper; first | (rw [if_pos (by decide +kernel)]; kernel_rfl) | (rw [if_neg (by decide +kernel)]; exact ⟨rfl, rfl⟩))
    (fun os started H enc _ => lifted os started H enc)
theorem proved : Rows.CompileEdgesCardSaid :=
  Claim7.holds_tied_plain_at .later [] [.data, .pinned] true (true, "4b66a9819ee9b074dca2a054cb6957ba5ff7256cd439f2a590f7ec76367ef7c5") false over (fun _ h => by cases h) k0 (fun _ h => by cases h) compileEdges_row_tie rfl ⟨rfl, rfl⟩ k1 rfl
    (fun f fn hf hfn => by
      obtain rfl : f = 5 := Option.some.inj (k2.symm.trans hf) |>.symm
      obtain rfl : fn = Tryz.f5 := (Option.some.inj (Tryz.func5.symm.trans hfn)).symm
      exact ⟨k3, fun j t ht => by
        rw [Tryz.params5] at ht
        have hm : t ∈ [39, 27] := by simpa using Array.mem_of_getElem? ht
        have hall : ([39, 27].all fun u => !Tryz.prog.wantsStandIn u) = true := by kernel_rfl
        exact (show Tryz.prog.wantsStandIn t = false by simpa using List.all_eq_true.1 hall t hm)⟩)
    k5
#print axioms proved
end Go.Proofs.YtcodjlonfgiegaaGreatDoor.compileEdges
