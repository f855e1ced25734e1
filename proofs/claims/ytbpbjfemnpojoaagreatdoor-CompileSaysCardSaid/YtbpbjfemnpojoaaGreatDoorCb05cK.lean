/- CLOSED FACTS OF THE CARD, each by itself. -/
import Derived.Test.YtbpbjfemnpojoaaGreatDoorCards
import Derived.Test.YtbpbjfemnpojoaaGreatDoorTie
import Derived.ProofKit
import Derived.Lay
import Derived.SevenTiedAt
set_option maxRecDepth 100000
namespace Go.Proofs.YtbpbjfemnpojoaaGreatDoor.compileSays
theorem k0 : Rows.compileSaysRow.wfByText (OpenSpec.ofChange Rows.compileSaysSpec) = true := by kernel_rfl
theorem k1 : Tryz.pinned.checked.prog.mainIs = some (((true, "00e09c9de2b30f0a07b5ab667e2d8c49831469731750d776ecb6547aa1eca8d8") : Bool × String).1, ((true, "00e09c9de2b30f0a07b5ab667e2d8c49831469731750d776ecb6547aa1eca8d8") : Bool × String).2.toList) := by kernel_rfl
theorem k2 : Tryz.prog.funcNamed "pinfold/pinfoldlaw15.CompileSays" = some 4 := by kernel_rfl
theorem k3 : false = Tryz.prog.looks [] := by kernel_rfl
theorem k5 : false = Rows.compileSaysRow.goesBy Tryz.pinned.checked.prog := by kernel_rfl
end Go.Proofs.YtbpbjfemnpojoaaGreatDoor.compileSays
