/- CLOSED FACTS OF THE CARD, each by itself. -/
import Derived.Test.YtdionecknmcdhaaGreatDoorCards
import Derived.Test.YtdionecknmcdhaaGreatDoorTie
import Derived.ProofKit
import Derived.Lay
import Derived.SevenTiedAt
set_option maxRecDepth 100000
namespace Go.Proofs.YtdionecknmcdhaaGreatDoor.walkBack
theorem k0 : Rows.walkBackRow.wfByText (OpenSpec.ofChange Rows.walkBackSpec) = true := by kernel_rfl
theorem k1 : Tryz.pinned.checked.prog.mainIs = some (((true, "6a96f4532dd688bad1025ba7ec17811bce90c0b3bc879195989c1e9a5e8f42b1") : Bool × String).1, ((true, "6a96f4532dd688bad1025ba7ec17811bce90c0b3bc879195989c1e9a5e8f42b1") : Bool × String).2.toList) := by kernel_rfl
theorem k2 : Tryz.prog.funcNamed "pinfold/pinfoldlaw18.WalkBack" = some 5 := by kernel_rfl
theorem k3 : false = Tryz.prog.looks [] := by kernel_rfl
theorem k5 : false = Rows.walkBackRow.goesBy Tryz.pinned.checked.prog := by kernel_rfl
end Go.Proofs.YtdionecknmcdhaaGreatDoor.walkBack
