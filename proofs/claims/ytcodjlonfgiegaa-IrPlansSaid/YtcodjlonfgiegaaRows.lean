/-
  No cell of these rows narrows 'for every input' (looked for: loops, veiled, ifaces, maps, wideKeys, modest, calm, conditions, laid).
  DERIVED. THE GIVEN ROWS OF THIS SEAT. 3 by the template 'for every input the law returns true; each argument reads behind the call as it read before'; 0 by the template 'total and deterministic' (their statements: YtcodjlonfgiegaaTotals.lean).
  GIVEN WITH THE SEED: the statements are not yours to turn. If you find one false, say at which input.
  Laid BY PROGRAM, IN A SANDBOX (cutbox-rows.mjs): the forced cells as the released guide's own fill.sh prints them over the translation 04b90d76337785eb… (all of the seat's roots in one cut). By AI agents, Wed Nov 11 2026. No macro, syntax, notation, axiom, sorry.
-/
import Derived.Test.YtcodjlonfgiegaaChecked
import GoSem.Claim
import GoSem.ClaimJoined
import GoSem.ClaimMapViews
import Derived.JoinedTies
import Derived.KernelRfl
namespace Go.Proofs.Ytcodjlonfgiegaa
/- THE CELL 'sum', in the pinned program and in every row, IS THE sha256 OF THE DUMP (.gsa) THAT YtcodjlonfgiegaaProg.lean LOADS. Nothing in Lean hashes anything: it is a label: what it is worth is what the hold of that sum in a sandbox is worth. -/
noncomputable def Try.pinned : Pinned := { name := "ytcodjlonfgiegaa", sum := "04b90d76337785eba279b01734ef945a3e310996af2279bbd07a85c8b48a20cd", checked := Try.checked }
namespace Rows
def none {H : Type} : Left H := { results := [], args := [] }

/-- 'pinfoldlaw12.IrPlans': WHATEVER THE INPUT: true; the input reads as it did. -/
def irPlansSpec : ChangeSpec := { name := "irPlans", fn := fun _ => fun
  | [d1, d2] => { results := [.lit (.bool true)], args := [d1, d2] }
  | _ => none }
def irPlansRow : OpenClaim := { program := "ytcodjlonfgiegaa", sum := "04b90d76337785eba279b01734ef945a3e310996af2279bbd07a85c8b48a20cd", func := "pinfold/pinfoldlaw12.IrPlans", spec := "irPlans", unfollowed := true, recurses := true, apart := false }
def IrPlansSaid : Prop := irPlansRow.holds Try.pinned (OpenSpec.ofChange irPlansSpec)

/-- ITS FALSE NEIGHBOUR: 'it returns false'. Refute it at one input. -/
def irPlansWrong : ChangeSpec := { name := "irPlans", fn := fun _ => fun
  | [d1, d2] => { results := [.lit (.bool false)], args := [d1, d2] }
  | _ => none }
def IrPlansWrongFalsely : Prop := irPlansRow.holds Try.pinned (OpenSpec.ofChange irPlansWrong)

/-- 'pinfoldlaw12.IrAgain': WHATEVER THE INPUT: true; the input reads as it did. -/
def irAgainSpec : ChangeSpec := { name := "irAgain", fn := fun _ => fun
  | [d1, d2] => { results := [.lit (.bool true)], args := [d1, d2] }
  | _ => none }
def irAgainRow : OpenClaim := { program := "ytcodjlonfgiegaa", sum := "04b90d76337785eba279b01734ef945a3e310996af2279bbd07a85c8b48a20cd", func := "pinfold/pinfoldlaw12.IrAgain", spec := "irAgain", unfollowed := true, recurses := true, apart := false }
def IrAgainSaid : Prop := irAgainRow.holds Try.pinned (OpenSpec.ofChange irAgainSpec)

/-- ITS FALSE NEIGHBOUR: 'it returns false'. Refute it at one input. -/
def irAgainWrong : ChangeSpec := { name := "irAgain", fn := fun _ => fun
  | [d1, d2] => { results := [.lit (.bool false)], args := [d1, d2] }
  | _ => none }
def IrAgainWrongFalsely : Prop := irAgainRow.holds Try.pinned (OpenSpec.ofChange irAgainWrong)

/-- 'pinfoldlaw12.IrDecides': WHATEVER THE INPUT: true; the input reads as it did. -/
def irDecidesSpec : ChangeSpec := { name := "irDecides", fn := fun _ => fun
  | [d1, d2, d3, d4] => { results := [.lit (.bool true)], args := [d1, d2, d3, d4] }
  | _ => none }
def irDecidesRow : OpenClaim := { program := "ytcodjlonfgiegaa", sum := "04b90d76337785eba279b01734ef945a3e310996af2279bbd07a85c8b48a20cd", func := "pinfold/pinfoldlaw12.IrDecides", spec := "irDecides", unfollowed := true, recurses := true, apart := false }
def IrDecidesSaid : Prop := irDecidesRow.holds Try.pinned (OpenSpec.ofChange irDecidesSpec)

/-- ITS FALSE NEIGHBOUR: 'it returns false'. Refute it at one input. -/
def irDecidesWrong : ChangeSpec := { name := "irDecides", fn := fun _ => fun
  | [d1, d2, d3, d4] => { results := [.lit (.bool false)], args := [d1, d2, d3, d4] }
  | _ => none }
def IrDecidesWrongFalsely : Prop := irDecidesRow.holds Try.pinned (OpenSpec.ofChange irDecidesWrong)

/- THE SECOND FORM. 'bulk': how many values and letters a reading holds, each counted each time it is reached (what is shared counts as often as it is met; a slice's spare places count too). A statement '..UptoSaid' is the law's where the arguments, and the package variables that the reading takes, are together of bulk at most 1048576: NARROWER than '..Said'. Prove '..Said' where nothing that the law and all that it calls make is longer than what came in: it says more and counts as full. Else prove '..UptoSaid'. A law counts once. -/
mutual
def uptoBulk {H : Type} : DataW H → Nat
  | .lit (.string bytes) => bytes.length + 1
  | .lit _ => 1
  | .nil => 1
  | .ptr d => uptoBulk d + 1
  | .slice elems spare => uptoBulkAll elems + uptoBulkAll spare + 1
  | .agg parts => uptoBulkAll parts + 1
  | .iface _ d => uptoBulk d + 1
  | .map entries => uptoBulkEntries entries + 1
  | .held _ => 1
def uptoBulkAll {H : Type} : List (DataW H) → Nat
  | [] => 0
  | d :: r => uptoBulk d + uptoBulkAll r
def uptoBulkEntries {H : Type} : List (Lit × DataW H) → Nat
  | [] => 0
  | x :: r => uptoBulkEntry x + uptoBulkEntries r
def uptoBulkEntry {H : Type} : Lit × DataW H → Nat
  | (.string bytes, d) => bytes.length + uptoBulk d + 1
  | (_, d) => uptoBulk d + 1
 end
def uptoSmall : (H : Type) → List (DataW H) → Bool := fun _ ds => decide (uptoBulkAll ds ≤ 1048576)
def OpenSpec.upto (s : _root_.Go.ChangeSpec) : _root_.Go.OpenSpec := { _root_.Go.OpenSpec.ofChange s with cond := some uptoSmall }

/-- 'pinfoldlaw12.IrPlans', WHERE WHAT IT READS IS OF BULK AT MOST 1048576: true; the input reads as it did. -/
def irPlansUptoRow : OpenClaim := { program := "ytcodjlonfgiegaa", sum := "04b90d76337785eba279b01734ef945a3e310996af2279bbd07a85c8b48a20cd", func := "pinfold/pinfoldlaw12.IrPlans", spec := "irPlans", unfollowed := true, recurses := true, apart := false, narrowed := true }
def IrPlansUptoSaid : Prop := irPlansUptoRow.holds Try.pinned (OpenSpec.upto irPlansSpec)

/-- 'pinfoldlaw12.IrAgain', WHERE WHAT IT READS IS OF BULK AT MOST 1048576: true; the input reads as it did. -/
def irAgainUptoRow : OpenClaim := { program := "ytcodjlonfgiegaa", sum := "04b90d76337785eba279b01734ef945a3e310996af2279bbd07a85c8b48a20cd", func := "pinfold/pinfoldlaw12.IrAgain", spec := "irAgain", unfollowed := true, recurses := true, apart := false, narrowed := true }
def IrAgainUptoSaid : Prop := irAgainUptoRow.holds Try.pinned (OpenSpec.upto irAgainSpec)

/-- 'pinfoldlaw12.IrDecides', WHERE WHAT IT READS IS OF BULK AT MOST 1048576: true; the input reads as it did. -/
def irDecidesUptoRow : OpenClaim := { program := "ytcodjlonfgiegaa", sum := "04b90d76337785eba279b01734ef945a3e310996af2279bbd07a85c8b48a20cd", func := "pinfold/pinfoldlaw12.IrDecides", spec := "irDecides", unfollowed := true, recurses := true, apart := false, narrowed := true }
def IrDecidesUptoSaid : Prop := irDecidesUptoRow.holds Try.pinned (OpenSpec.upto irDecidesSpec)

end Rows
end Go.Proofs.Ytcodjlonfgiegaa
