/-
  No cell of these rows narrows 'for every input' (looked for: loops, veiled, ifaces, maps, wideKeys, modest, calm, conditions, laid).
  DERIVED. THE GIVEN ROWS OF THIS SEAT. 4 by the template 'for every input the law returns true; each argument reads behind the call as it read before'; 0 by the template 'total and deterministic' (their statements: YtgeenpollgalkaaGreatTotals.lean).
  GIVEN WITH THE SEED: the statements are not yours to turn. If you find one false, say at which input.
  Laid BY PROGRAM, IN A SANDBOX (cutbox-rows.mjs): the forced cells as the released guide's own fill.sh prints them over the translation b5cd719e520067d6… (all of the seat's roots in one cut). By AI agents, Wed Nov 11 2026. No macro, syntax, notation, axiom, sorry.
-/
import Derived.Test.YtgeenpollgalkaaGreatChecked
import GoSem.Claim
import GoSem.ClaimJoined
import GoSem.ClaimMapViews
import Derived.JoinedTies
import Derived.KernelRfl
namespace Go.Proofs.YtgeenpollgalkaaGreat
/- THE CELL 'sum', in the pinned program and in every row, IS THE sha256 OF THE DUMP (.gsa) THAT YtgeenpollgalkaaGreatProg.lean LOADS. Nothing in Lean hashes anything: it is a label: what it is worth is what the hold of that sum in a sandbox is worth. -/
noncomputable def Tryz.pinned : Pinned := { name := "ytgeenpollgalkaagreat", sum := "b5cd719e520067d67a578f333e490f189c775739fdf5f30eeeccbdb8a046befd", checked := Tryz.checked }
namespace Rows
def none {H : Type} : Left H := { results := [], args := [] }

/-- 'pinfoldlaw30.SnapBack': WHATEVER THE INPUT: true; the input reads as it did. -/
def snapBackSpec : ChangeSpec := { name := "snapBack", fn := fun _ => fun
  | [d1, d2] => { results := [.lit (.bool true)], args := [d1, d2] }
  | _ => none }
def snapBackRow : OpenClaim := { program := "ytgeenpollgalkaagreat", sum := "b5cd719e520067d67a578f333e490f189c775739fdf5f30eeeccbdb8a046befd", func := "pinfold/pinfoldlaw30.SnapBack", spec := "snapBack", inPlace := ["sync/atomic.AddInt64"], unfollowed := true, recurses := true, apart := false }
def SnapBackSaid : Prop := snapBackRow.holds Tryz.pinned (OpenSpec.ofChange snapBackSpec)

/-- ITS FALSE NEIGHBOUR: 'it returns false'. Refute it at one input. -/
def snapBackWrong : ChangeSpec := { name := "snapBack", fn := fun _ => fun
  | [d1, d2] => { results := [.lit (.bool false)], args := [d1, d2] }
  | _ => none }
def SnapBackWrongFalsely : Prop := snapBackRow.holds Tryz.pinned (OpenSpec.ofChange snapBackWrong)

/-- 'pinfoldlaw30.SnapTrees': WHATEVER THE INPUT: true; the input reads as it did. -/
def snapTreesSpec : ChangeSpec := { name := "snapTrees", fn := fun _ => fun
  | [d1, d2] => { results := [.lit (.bool true)], args := [d1, d2] }
  | _ => none }
def snapTreesRow : OpenClaim := { program := "ytgeenpollgalkaagreat", sum := "b5cd719e520067d67a578f333e490f189c775739fdf5f30eeeccbdb8a046befd", func := "pinfold/pinfoldlaw30.SnapTrees", spec := "snapTrees", inPlace := ["sync/atomic.AddInt64"], unfollowed := true, recurses := true, apart := false }
def SnapTreesSaid : Prop := snapTreesRow.holds Tryz.pinned (OpenSpec.ofChange snapTreesSpec)

/-- ITS FALSE NEIGHBOUR: 'it returns false'. Refute it at one input. -/
def snapTreesWrong : ChangeSpec := { name := "snapTrees", fn := fun _ => fun
  | [d1, d2] => { results := [.lit (.bool false)], args := [d1, d2] }
  | _ => none }
def SnapTreesWrongFalsely : Prop := snapTreesRow.holds Tryz.pinned (OpenSpec.ofChange snapTreesWrong)

/-- 'pinfoldlaw30.SnapDiffs': WHATEVER THE INPUT: true; the input reads as it did. -/
def snapDiffsSpec : ChangeSpec := { name := "snapDiffs", fn := fun _ => fun
  | [d1, d2] => { results := [.lit (.bool true)], args := [d1, d2] }
  | _ => none }
def snapDiffsRow : OpenClaim := { program := "ytgeenpollgalkaagreat", sum := "b5cd719e520067d67a578f333e490f189c775739fdf5f30eeeccbdb8a046befd", func := "pinfold/pinfoldlaw30.SnapDiffs", spec := "snapDiffs", inPlace := ["sync/atomic.AddInt64"], unfollowed := true, recurses := true, apart := false }
def SnapDiffsSaid : Prop := snapDiffsRow.holds Tryz.pinned (OpenSpec.ofChange snapDiffsSpec)

/-- ITS FALSE NEIGHBOUR: 'it returns false'. Refute it at one input. -/
def snapDiffsWrong : ChangeSpec := { name := "snapDiffs", fn := fun _ => fun
  | [d1, d2] => { results := [.lit (.bool false)], args := [d1, d2] }
  | _ => none }
def SnapDiffsWrongFalsely : Prop := snapDiffsRow.holds Tryz.pinned (OpenSpec.ofChange snapDiffsWrong)

/-- 'pinfoldlaw30.SnapTexts': WHATEVER THE INPUT: true; the input reads as it did. -/
def snapTextsSpec : ChangeSpec := { name := "snapTexts", fn := fun _ => fun
  | [d1, d2] => { results := [.lit (.bool true)], args := [d1, d2] }
  | _ => none }
def snapTextsRow : OpenClaim := { program := "ytgeenpollgalkaagreat", sum := "b5cd719e520067d67a578f333e490f189c775739fdf5f30eeeccbdb8a046befd", func := "pinfold/pinfoldlaw30.SnapTexts", spec := "snapTexts", inPlace := ["sync/atomic.AddInt64"], unfollowed := true, recurses := true, apart := false }
def SnapTextsSaid : Prop := snapTextsRow.holds Tryz.pinned (OpenSpec.ofChange snapTextsSpec)

/-- ITS FALSE NEIGHBOUR: 'it returns false'. Refute it at one input. -/
def snapTextsWrong : ChangeSpec := { name := "snapTexts", fn := fun _ => fun
  | [d1, d2] => { results := [.lit (.bool false)], args := [d1, d2] }
  | _ => none }
def SnapTextsWrongFalsely : Prop := snapTextsRow.holds Tryz.pinned (OpenSpec.ofChange snapTextsWrong)

/- THE SECOND FORM. 'bulk': how many values and letters a reading holds, each counted each time it is reached (what is shared counts as often as it is met; a slice's spare places count too). A statement '..UptoSaid' is the law's where the arguments, and the package variables that the reading takes, are together of bulk at most 1048576: NARROWER than '..Said'. Prove '..Said' where nothing that the law and all that it calls make is longer than what came in: it says more and counts as full. Else prove '..UptoSaid'. A law counts once. -/
mutual
def uptoBulk {H : Type} : DataW H → Nat
  | .lit (.string bytes) => bytes.length + 1
  | .lit _ => 1
  | .nil => 1
  | .ptr d => uptoBulk d + 1
  | .slice elems spare => uptoBulkAll elems + uptoBulkAll spare + 1
  | .agg parts => uptoBulkAll parts + 1
  | .iface _ d => uptoBulk d + 1
  | .map entries => uptoBulkEntries entries + 1
  | .held _ => 1
def uptoBulkAll {H : Type} : List (DataW H) → Nat
  | [] => 0
  | d :: r => uptoBulk d + uptoBulkAll r
def uptoBulkEntries {H : Type} : List (Lit × DataW H) → Nat
  | [] => 0
  | x :: r => uptoBulkEntry x + uptoBulkEntries r
def uptoBulkEntry {H : Type} : Lit × DataW H → Nat
  | (.string bytes, d) => bytes.length + uptoBulk d + 1
  | (_, d) => uptoBulk d + 1
 end
def uptoSmall : (H : Type) → List (DataW H) → Bool := fun _ ds => decide (uptoBulkAll ds ≤ 1048576)
def OpenSpec.upto (s : _root_.Go.ChangeSpec) : _root_.Go.OpenSpec := { _root_.Go.OpenSpec.ofChange s with cond := some uptoSmall }

/-- 'pinfoldlaw30.SnapBack', WHERE WHAT IT READS IS OF BULK AT MOST 1048576: true; the input reads as it did. -/
def snapBackUptoRow : OpenClaim := { program := "ytgeenpollgalkaagreat", sum := "b5cd719e520067d67a578f333e490f189c775739fdf5f30eeeccbdb8a046befd", func := "pinfold/pinfoldlaw30.SnapBack", spec := "snapBack", inPlace := ["sync/atomic.AddInt64"], unfollowed := true, recurses := true, apart := false, narrowed := true }
def SnapBackUptoSaid : Prop := snapBackUptoRow.holds Tryz.pinned (OpenSpec.upto snapBackSpec)

/-- 'pinfoldlaw30.SnapTrees', WHERE WHAT IT READS IS OF BULK AT MOST 1048576: true; the input reads as it did. -/
def snapTreesUptoRow : OpenClaim := { program := "ytgeenpollgalkaagreat", sum := "b5cd719e520067d67a578f333e490f189c775739fdf5f30eeeccbdb8a046befd", func := "pinfold/pinfoldlaw30.SnapTrees", spec := "snapTrees", inPlace := ["sync/atomic.AddInt64"], unfollowed := true, recurses := true, apart := false, narrowed := true }
def SnapTreesUptoSaid : Prop := snapTreesUptoRow.holds Tryz.pinned (OpenSpec.upto snapTreesSpec)

/-- 'pinfoldlaw30.SnapDiffs', WHERE WHAT IT READS IS OF BULK AT MOST 1048576: true; the input reads as it did. -/
def snapDiffsUptoRow : OpenClaim := { program := "ytgeenpollgalkaagreat", sum := "b5cd719e520067d67a578f333e490f189c775739fdf5f30eeeccbdb8a046befd", func := "pinfold/pinfoldlaw30.SnapDiffs", spec := "snapDiffs", inPlace := ["sync/atomic.AddInt64"], unfollowed := true, recurses := true, apart := false, narrowed := true }
def SnapDiffsUptoSaid : Prop := snapDiffsUptoRow.holds Tryz.pinned (OpenSpec.upto snapDiffsSpec)

/-- 'pinfoldlaw30.SnapTexts', WHERE WHAT IT READS IS OF BULK AT MOST 1048576: true; the input reads as it did. -/
def snapTextsUptoRow : OpenClaim := { program := "ytgeenpollgalkaagreat", sum := "b5cd719e520067d67a578f333e490f189c775739fdf5f30eeeccbdb8a046befd", func := "pinfold/pinfoldlaw30.SnapTexts", spec := "snapTexts", inPlace := ["sync/atomic.AddInt64"], unfollowed := true, recurses := true, apart := false, narrowed := true }
def SnapTextsUptoSaid : Prop := snapTextsUptoRow.holds Tryz.pinned (OpenSpec.upto snapTextsSpec)

end Rows
end Go.Proofs.YtgeenpollgalkaaGreat
