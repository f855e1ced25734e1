/- CLOSED FACTS OF THE CARD, each by itself. -/
import Derived.Test.YtlfflgnaoelplaaGreatDoorCards
import Derived.Test.YtlfflgnaoelplaaGreatDoorTie
import Derived.ProofKit
import Derived.Lay
import Derived.SevenTiedAt
set_option maxRecDepth 100000
namespace Go.Proofs.YtlfflgnaoelplaaGreatDoor.vfsPlays
theorem k0 : Rows.vfsPlaysRow.wfByText (OpenSpec.ofChange Rows.vfsPlaysSpec) = true := by kernel_rfl
theorem k1 : Tryz.pinned.checked.prog.mainIs = some (((true, "635e8cc1b737c2338d0f51cb912a772273f31591918824dee1ac93feda1db0dd") : Bool × String).1, ((true, "635e8cc1b737c2338d0f51cb912a772273f31591918824dee1ac93feda1db0dd") : Bool × String).2.toList) := by kernel_rfl
theorem k2 : Tryz.prog.funcNamed "pinfold/pinfoldlaw19.VfsPlays" = some 3 := by kernel_rfl
theorem k3 : false = Tryz.prog.looks [] := by kernel_rfl
theorem k5 : false = Rows.vfsPlaysRow.goesBy Tryz.pinned.checked.prog := by kernel_rfl
end Go.Proofs.YtlfflgnaoelplaaGreatDoor.vfsPlays
