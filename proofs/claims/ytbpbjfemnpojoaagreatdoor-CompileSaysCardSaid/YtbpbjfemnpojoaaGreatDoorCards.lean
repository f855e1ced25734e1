/-
  DERIVED. GIVEN WITH THE SEED: THE CARDS: each row of YtbpbjfemnpojoaaGreatDoorRows.lean that lists a variable, with what it lists TIED to the program's text (the seventh form; the later family's looks); each row that meets fmt, with fmt's text TOLD by the authors' own Lean function (tested against real Go, not proved from fmt's source: count such statements apart). THE CARD IS WHAT COUNTS. Prove the row's statement (the work); the ties are given (YtbpbjfemnpojoaaGreatDoorTie.lean); close each card by the builder's one call (the guide's Derived/Test/ToyasCard.lean, 'card_holds'). Laid BY PROGRAM, IN A SANDBOX (cutbox-door.mjs). By AI agents, Wed Nov 11 2026. No macro, syntax, notation, axiom, sorry.
-/
import Derived.Test.YtbpbjfemnpojoaaGreatDoorRows
import GoSem.ClaimSeven
namespace Go.Proofs.YtbpbjfemnpojoaaGreatDoor
namespace Rows

/-- THE TIED CARD OF 'pinfoldlaw15.CompileOthers'. -/
def compileOthersCard : Claim7 := { stood := { row := compileOthersRow, standIns := [], harness := (true, "00e09c9de2b30f0a07b5ab667e2d8c49831469731750d776ecb6547aa1eca8d8"), looks := false }, kinds := [], alts := [], laidByText := true, laidKinds := [.data, .pinned], laidTests := true, laidLooks := .later }
def CompileOthersCardSaid : Prop := Claim7.holds Tryz.pinned (.plain (OpenSpec.ofChange compileOthersSpec)) compileOthersCard

/-- THE TIED CARD OF 'pinfoldlaw15.CompileSays'. -/
def compileSaysCard : Claim7 := { stood := { row := compileSaysRow, standIns := [], harness := (true, "00e09c9de2b30f0a07b5ab667e2d8c49831469731750d776ecb6547aa1eca8d8"), looks := false }, kinds := [], alts := [], laidByText := true, laidKinds := [.data, .pinned], laidTests := true, laidLooks := .later }
def CompileSaysCardSaid : Prop := Claim7.holds Tryz.pinned (.plain (OpenSpec.ofChange compileSaysSpec)) compileSaysCard

/-- THE SECOND FORM's CARD OF 'pinfoldlaw15.CompileOthers'. -/
def compileOthersUptoCard : Claim7 := { stood := { row := compileOthersUptoRow, standIns := [], harness := (true, "00e09c9de2b30f0a07b5ab667e2d8c49831469731750d776ecb6547aa1eca8d8"), looks := false }, kinds := [], alts := [], laidByText := true, laidKinds := [.data, .pinned], laidTests := true, laidLooks := .later }
def CompileOthersUptoCardSaid : Prop := Claim7.holds Tryz.pinned (.plain (OpenSpec.upto compileOthersSpec)) compileOthersUptoCard

/-- THE SECOND FORM's CARD OF 'pinfoldlaw15.CompileSays'. -/
def compileSaysUptoCard : Claim7 := { stood := { row := compileSaysUptoRow, standIns := [], harness := (true, "00e09c9de2b30f0a07b5ab667e2d8c49831469731750d776ecb6547aa1eca8d8"), looks := false }, kinds := [], alts := [], laidByText := true, laidKinds := [.data, .pinned], laidTests := true, laidLooks := .later }
def CompileSaysUptoCardSaid : Prop := Claim7.holds Tryz.pinned (.plain (OpenSpec.upto compileSaysSpec)) compileSaysUptoCard
end Rows
end Go.Proofs.YtbpbjfemnpojoaaGreatDoor
