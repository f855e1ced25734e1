/- CLOSED FACTS OF THE CARD, each by itself. -/
import Derived.Test.YtcodjlonfgiegaaGreatDoorCards
import Derived.Test.YtcodjlonfgiegaaGreatDoorTie
import Derived.ProofKit
import Derived.Lay
import Derived.SevenTiedAt
set_option maxRecDepth 100000
namespace Go.Proofs.YtcodjlonfgiegaaGreatDoor.compileEdges
theorem k0 : Rows.compileEdgesRow.wfByText (OpenSpec.ofChange Rows.compileEdgesSpec) = true := by kernel_rfl
theorem k1 : Tryz.pinned.checked.prog.mainIs = some (((true, "4b66a9819ee9b074dca2a054cb6957ba5ff7256cd439f2a590f7ec76367ef7c5") : Bool × String).1, ((true, "4b66a9819ee9b074dca2a054cb6957ba5ff7256cd439f2a590f7ec76367ef7c5") : Bool × String).2.toList) := by kernel_rfl
theorem k2 : Tryz.prog.funcNamed "pinfold/pinfoldlaw15.CompileEdges" = some 5 := by kernel_rfl
theorem k3 : false = Tryz.prog.looks [] := by kernel_rfl
theorem k5 : false = Rows.compileEdgesRow.goesBy Tryz.pinned.checked.prog := by kernel_rfl
end Go.Proofs.YtcodjlonfgiegaaGreatDoor.compileEdges
