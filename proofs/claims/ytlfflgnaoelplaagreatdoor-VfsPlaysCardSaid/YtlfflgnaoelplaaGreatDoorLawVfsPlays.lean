/- PROVED HERE: whatever the input, 'pinfoldlaw19.VfsPlays' returns true and its input reads as it did: no conditions. The card ties the row's listed variables to the program's text. -/
import Derived.Test.YtlfflgnaoelplaaGreatDoorCards
import Derived.Test.YtlfflgnaoelplaaGreatDoorTie
import Derived.Test.YtlfflgnaoelplaaGreatDoorV1207Link
import Derived.Test.YtlfflgnaoelplaaGreatDoorV1207C3
import Derived.Test.YtlfflgnaoelplaaGreatDoorV1207K
import Derived.ProofKit
import Derived.Lay
import Derived.SevenTiedAt
set_option maxRecDepth 100000
namespace Go.Proofs.YtlfflgnaoelplaaGreatDoor.vfsPlays
open Go.AM
theorem own : ownKnob Tryz.prog.godebug = none := by kernel_rfl
theorem lifted (os : Os) (started : os.Started) (H : Type) (enc : TypeId × Value -> H) :
    ReturnsInHanded {} Tryz.checked os 3 .any (fun w args => (Rows.vfsPlaysSpec.pre enc Tryz.prog Tryz.f3 Rows.vfsPlaysRow.domain false w args /\ laidMetH Tryz.prog Rows.vfsPlaysRow.laid w) /\ sizedMet enc Tryz.prog Tryz.f3 (OpenSpec.ofChange Rows.vfsPlaysSpec) false w args) (Rows.vfsPlaysSpec.post enc Tryz.prog Tryz.f3 false true false false) := by
  refine aGd (C := Tryz.checked) (l := Rows.vfsPlaysRow.laid) (shs := [.slice 14 (.struct [.int .u8, .struct [.int .u8, .int .u8, .int .u8, .int .u8, .int .u8, .str, .int .i64, .slice 1 (.int .u8), .bool, .bool], .int .u8, .int .u8, .int .u8]), .slice 6 (.struct [.int .u8, .slice 1 (.int .u8), .slice 1 (.int .u8), .bool, .int .i64, .int .i64])]) (d := 12) (kps := kps) (ext := ext) own started (by kernel_rfl) Tryz.func3
    (ChangeSpec.witness_shaped (enc := enc) (C := Tryz.checked) (os := os) (X := fun w _ => laidMetH Tryz.prog Rows.vfsPlaysRow.laid w) false (World.laidAll Tryz.prog os Rows.vfsPlaysRow.laid) #[(.slice none 0 0), (.slice none 0 0)] 12 (World.laidAll_os _ _ _)
      (World.shaped_of_ZipB (by kernel_rfl) (by kernel_rfl)) (by kernel_rfl) (by kernel_rfl) (by kernel_rfl)
      (by rw [MakeChecks.laidMetH_plain _ _ _ (by kernel_rfl)]; exact laidMet_laidAll _ (by kernel_rfl) (by kernel_rfl))) ?_ rfl rfl Tryz.underlying4 (by kernel_rfl) (by kernel_rfl) (by kernel_rfl) (by kernel_rfl) (by kernel_rfl) (by kernel_rfl) (by kernel_rfl)
    aKg ?_
  · intro ds h
    have h : ds.length = 2 := h
    match ds, h with
    | [_, _], _ => rfl
  · intro H args Q hargs hQ
    exact S.law_VfsPlays (E := sy W) fold args hargs hQ
set_option maxHeartbeats 4000000
theorem jf : joinedFacts Tryz.pinned.checked.prog 3 Tryz.f3 Rows.vfsPlaysSpec Rows.vfsPlaysRow = true := by
  unfold joinedFacts;simp only [Bool.and_eq_true]
  and_intros
  all_goals decide +kernel
theorem over : Rows.vfsPlaysRow.holds Tryz.pinned (OpenSpec.ofChange Rows.vfsPlaysSpec) :=
  OpenClaim.holds_of_wide 3 Tryz.f3 rfl rfl rfl rfl rfl rfl rfl ⟨rfl, rfl, rfl, rfl, rfl⟩ rfl rfl rfl rfl rfl (by kernel_rfl) Tryz.func3 jf
    (of_decide_eq_true (by kernel_rfl)) (by unfold Func.isWrapper; first | (rw [if_pos (by decide +kernel)]; kernel_rfl) | (rw [if_neg (by decide +kernel)]; exact ⟨rfl, rfl⟩))
    (fun os started H enc _ => lifted os started H enc)
theorem proved : Rows.VfsPlaysCardSaid :=
  Claim7.holds_tied_plain_at .later [] [.data, .pinned] true (true, "635e8cc1b737c2338d0f51cb912a772273f31591918824dee1ac93feda1db0dd") false over (fun _ h => by cases h) k0 (fun _ h => by cases h) vfsPlays_row_tie rfl ⟨rfl, rfl⟩ k1 rfl
    (fun f fn hf hfn => by
      obtain rfl : f = 3 := Option.some.inj (k2.symm.trans hf) |>.symm;obtain rfl : fn = Tryz.f3 := (Option.some.inj (Tryz.func3.symm.trans hfn)).symm
      exact ⟨k3, fun j t ht => by
        rw [Tryz.params3] at ht;have hm : t ∈ [22, 23] := by simpa using Array.mem_of_getElem? ht
        have hall : ([22, 23].all fun u => !Tryz.prog.wantsStandIn u) = true := by kernel_rfl
        exact (show Tryz.prog.wantsStandIn t = false by simpa using List.all_eq_true.1 hall t hm)⟩)
    k5
#print axioms proved
end Go.Proofs.YtlfflgnaoelplaaGreatDoor.vfsPlays
