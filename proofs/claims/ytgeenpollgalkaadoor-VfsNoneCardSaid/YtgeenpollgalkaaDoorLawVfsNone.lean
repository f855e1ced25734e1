/- PROVED HERE: whatever the input, 'pinfoldlaw19.VfsNone' returns true and its input reads as it did: no conditions. The card ties the row's listed variables to the program's text. -/
import Derived.Test.YtgeenpollgalkaaDoorCards
import Derived.Test.YtgeenpollgalkaaDoorTie
import Derived.Test.YtgeenpollgalkaaDoorV6367Link
import Derived.Test.YtgeenpollgalkaaDoorV6367C1
import Derived.ProofKit
import Derived.Lay
import Derived.SevenTiedAt
set_option maxRecDepth 100000
namespace Go.Proofs.YtgeenpollgalkaaDoor.vfsNone
open Go.AM
theorem own : ownKnob Tryd.prog.godebug = none := by kernel_rfl
theorem lifted (os : Os) (started : os.Started) (H : Type) (enc : TypeId × Value -> H) :
    ReturnsInHanded {} Tryd.checked os 4 .any (fun w args => (Rows.vfsNoneSpec.pre enc Tryd.prog Tryd.f4 Rows.vfsNoneRow.domain false w args /\ laidMetH Tryd.prog Rows.vfsNoneRow.laid w) /\ sizedMet enc Tryd.prog Tryd.f4 (OpenSpec.ofChange Rows.vfsNoneSpec) false w args) (Rows.vfsNoneSpec.post enc Tryd.prog Tryd.f4 false true false false) := by
  refine law_laid (C := Tryd.checked) (l := Rows.vfsNoneRow.laid) (shs := [.struct [.int .i64, .int .u16], .struct [.struct [.int .i64, .int .u16], .str, .int .u16], .str, .int .u16, .int .i64, .int .i64]) (d := 12) (kps := kps) (ext := ext) own started (by kernel_rfl) Tryd.func4
    (ChangeSpec.witness_shaped (enc := enc) (C := Tryd.checked) (os := os) (X := fun w _ => laidMetH Tryd.prog Rows.vfsNoneRow.laid w) false (World.laidAll Tryd.prog os Rows.vfsNoneRow.laid) #[(.agg #[(.int .i64 0), (.int .u16 0)]), (.agg #[(.int .i64 0), (.int .u16 0), (.string ⟨#[]⟩), (.int .u16 0)]), (.string ⟨#[]⟩), (.int .u16 0), (.int .i64 0), (.int .i64 0)] 12 (World.laidAll_os _ _ _)
      (World.shaped_of_ZipB (by kernel_rfl) (by kernel_rfl)) (by kernel_rfl) (by kernel_rfl) (by kernel_rfl)
      (by rw [MakeChecks.laidMetH_plain _ _ _ (by kernel_rfl)]; exact laidMet_laidAll _ (by kernel_rfl) (by kernel_rfl))) ?_ rfl rfl Tryd.underlying4 (by kernel_rfl) (by kernel_rfl) (by kernel_rfl) (by kernel_rfl) (by kernel_rfl) (by kernel_rfl) (by kernel_rfl)
    extOk ?_
  · intro ds h
    have h : ds.length = 6 := h
    match ds, h with
    | [_, _, _, _, _, _], _ => rfl
  · intro H args Q hargs hQ
    exact S.law_VfsNone (E := sy W) fold args hargs hQ
set_option maxHeartbeats 4000000
theorem jf : joinedFacts Tryd.pinned.checked.prog 4 Tryd.f4 Rows.vfsNoneSpec Rows.vfsNoneRow = true := by
  unfold joinedFacts
  simp only [Bool.and_eq_true]
  and_intros
  all_goals decide +kernel
theorem over : Rows.vfsNoneRow.holds Tryd.pinned (OpenSpec.ofChange Rows.vfsNoneSpec) :=
  OpenClaim.holds_of_wide 4 Tryd.f4 rfl rfl rfl rfl rfl rfl rfl ⟨rfl, rfl, rfl, rfl, rfl⟩ rfl rfl rfl rfl rfl (by kernel_rfl) Tryd.func4 jf
    (of_decide_eq_true (by kernel_rfl)) (by unfold Func.isWrapper; first | (rw [if_pos (by decide +kernel)]; kernel_rfl) | (rw [if_neg (by decide +kernel)]; exact ⟨rfl, rfl⟩))
    (fun os started H enc _ => lifted os started H enc)
theorem proved : Rows.VfsNoneCardSaid :=
  Claim7.holds_tied_plain_at .later [] [.data, .pinned] true (true, "b19bfd61130ce6bbc8a591303df134b759a2f7e2b842cce01eaf0877e274c24c") false over (fun _ h => by cases h) (by kernel_rfl) (fun _ h => by cases h) vfsNone_row_tie rfl ⟨rfl, rfl⟩ (by kernel_rfl) rfl
    (fun f fn hf hfn => by
      obtain rfl : f = 4 := Option.some.inj ((show Tryd.prog.funcNamed "pinfold/pinfoldlaw19.VfsNone" = some 4 by kernel_rfl).symm.trans hf) |>.symm
      obtain rfl : fn = Tryd.f4 := (Option.some.inj (Tryd.func4.symm.trans hfn)).symm
      exact ⟨by kernel_rfl, fun j t ht => by
        rw [Tryd.params4] at ht
        have hm : t ∈ [48, 58, 9, 34, 3, 3] := by simpa using Array.mem_of_getElem? ht
        have hall : ([48, 58, 9, 34, 3, 3].all fun u => !Tryd.prog.wantsStandIn u) = true := by kernel_rfl
        exact (show Tryd.prog.wantsStandIn t = false by simpa using List.all_eq_true.1 hall t hm)⟩)
    (by kernel_rfl)
#print axioms proved
end Go.Proofs.YtgeenpollgalkaaDoor.vfsNone
