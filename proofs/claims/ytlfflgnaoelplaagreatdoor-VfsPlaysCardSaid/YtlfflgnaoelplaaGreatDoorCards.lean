/-
  DERIVED. GIVEN WITH THE SEED: THE CARDS: each row of YtlfflgnaoelplaaGreatDoorRows.lean that lists a variable, with what it lists TIED to the program's text (the seventh form; the later family's looks); each row that meets fmt, with fmt's text TOLD by the authors' own Lean function (tested against real Go, not proved from fmt's source: count such statements apart). THE CARD IS WHAT COUNTS. Prove the row's statement (the work); the ties are given (YtlfflgnaoelplaaGreatDoorTie.lean); close each card by the builder's one call (the guide's Derived/Test/ToyasCard.lean, 'card_holds'). Laid BY PROGRAM, IN A SANDBOX (cutbox-door.mjs). By AI agents, Wed Nov 11 2026. No macro, syntax, notation, axiom, sorry.
-/
import Derived.Test.YtlfflgnaoelplaaGreatDoorRows
import GoSem.ClaimSeven
namespace Go.Proofs.YtlfflgnaoelplaaGreatDoor
namespace Rows

/-- THE TIED CARD OF 'pinfoldlaw19.VfsPlays'. -/
def vfsPlaysCard : Claim7 := { stood := { row := vfsPlaysRow, standIns := [], harness := (true, "635e8cc1b737c2338d0f51cb912a772273f31591918824dee1ac93feda1db0dd"), looks := false }, kinds := [], alts := [], laidByText := true, laidKinds := [.data, .pinned], laidTests := true, laidLooks := .later }
def VfsPlaysCardSaid : Prop := Claim7.holds Tryz.pinned (.plain (OpenSpec.ofChange vfsPlaysSpec)) vfsPlaysCard

/-- THE SECOND FORM's CARD OF 'pinfoldlaw19.VfsPlays'. -/
def vfsPlaysUptoCard : Claim7 := { stood := { row := vfsPlaysUptoRow, standIns := [], harness := (true, "635e8cc1b737c2338d0f51cb912a772273f31591918824dee1ac93feda1db0dd"), looks := false }, kinds := [], alts := [], laidByText := true, laidKinds := [.data, .pinned], laidTests := true, laidLooks := .later }
def VfsPlaysUptoCardSaid : Prop := Claim7.holds Tryz.pinned (.plain (OpenSpec.upto vfsPlaysSpec)) vfsPlaysUptoCard
end Rows
end Go.Proofs.YtlfflgnaoelplaaGreatDoor
