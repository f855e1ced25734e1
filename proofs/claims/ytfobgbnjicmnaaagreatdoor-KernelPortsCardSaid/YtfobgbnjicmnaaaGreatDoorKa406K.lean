/- CLOSED FACTS OF THE CARD, each by itself. -/
import Derived.Test.YtfobgbnjicmnaaaGreatDoorCards
import Derived.Test.YtfobgbnjicmnaaaGreatDoorTie
import Derived.ProofKit
import Derived.Lay
import Derived.SevenTiedAt
set_option maxRecDepth 100000
namespace Go.Proofs.YtfobgbnjicmnaaaGreatDoor.kernelPorts
theorem k0 : Rows.kernelPortsRow.wfByText (OpenSpec.ofChange Rows.kernelPortsSpec) = true := by kernel_rfl
theorem k1 : Tryz.pinned.checked.prog.mainIs = some (((true, "c1e2bb808e8c62aad63db22c2835949f4853c0de7acee38831814056b95f0248") : Bool × String).1, ((true, "c1e2bb808e8c62aad63db22c2835949f4853c0de7acee38831814056b95f0248") : Bool × String).2.toList) := by kernel_rfl
theorem k2 : Tryz.prog.funcNamed "pinfold/pinfoldlaw26.KernelPorts" = some 5 := by kernel_rfl
theorem k3 : false = Tryz.prog.looks [] := by kernel_rfl
theorem aOH {P : Program} (h : P.funcs.any Func.goes = false) (f : FuncId) : P.goes f = false := by
  have h1 : ∀ g : FuncId, (P.funcs[g]?).any Func.goes = false := fun g => by
    cases hg : P.funcs[g]? with
    | none => rfl
    | some fn =>
      show fn.goes = false
      have := Array.any_eq_false.1 h;obtain ⟨hlt, e⟩ := Array.getElem?_eq_some_iff.1 hg;have := this g hlt;rw [e] at this
      simpa using this
  unfold Program.goes;rw [h, Bool.and_false, Bool.or_false];simp [h1]
theorem aLG {c : OpenClaim} {P : Program} (h : P.funcs.any Func.goes = false) (hs : c.start = .entering) : false = c.goesBy P := by
  unfold OpenClaim.goesBy Program.goesAt Program.goesFrom;rw [hs];cases P.funcNamed c.func with
  | none => rfl
  | some f => simp [aOH h f]
theorem k5 : false = Rows.kernelPortsRow.goesBy Tryz.pinned.checked.prog := aLG (by kernel_rfl) rfl
end Go.Proofs.YtfobgbnjicmnaaaGreatDoor.kernelPorts
