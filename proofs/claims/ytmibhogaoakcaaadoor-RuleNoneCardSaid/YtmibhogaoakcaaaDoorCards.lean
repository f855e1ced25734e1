/-
  DERIVED. GIVEN WITH THE SEED: THE CARDS: each row of YtmibhogaoakcaaaDoorRows.lean that lists a variable, with what it lists TIED to the program's text (the seventh form; the later family's looks); each row that meets fmt, with fmt's text TOLD by the authors' own Lean function (tested against real Go, not proved from fmt's source: count such statements apart). THE CARD IS WHAT COUNTS. Prove the row's statement (the work); the ties are given (YtmibhogaoakcaaaDoorTie.lean); close each card by the builder's one call (the guide's Derived/Test/ToyasCard.lean, 'card_holds'). Laid BY PROGRAM, IN A SANDBOX (cutbox-door.mjs). By AI agents, Wed Nov 11 2026. No macro, syntax, notation, axiom, sorry.
-/
import Derived.Test.YtmibhogaoakcaaaDoorRows
import GoSem.ClaimSeven
namespace Go.Proofs.YtmibhogaoakcaaaDoor
namespace Rows

/-- THE TIED CARD OF 'pinfoldlaw20.RulePorts'. -/
def rulePortsCard : Claim7 := { stood := { row := rulePortsRow, standIns := [], harness := (true, "5fba118403da4cd37eee05214034bb267996d37c9137991c35e383e9738f102e"), looks := false }, kinds := [], alts := [], laidByText := true, laidKinds := [.data, .pinned], laidTests := true, laidLooks := .later }
def RulePortsCardSaid : Prop := Claim7.holds Tryd.pinned (.plain (OpenSpec.ofChange rulePortsSpec)) rulePortsCard

/-- THE TIED CARD OF 'pinfoldlaw21.DomainGrows'. -/
def domainGrowsCard : Claim7 := { stood := { row := domainGrowsRow, standIns := [], harness := (true, "5fba118403da4cd37eee05214034bb267996d37c9137991c35e383e9738f102e"), looks := false }, kinds := [], alts := [], laidByText := true, laidKinds := [.data, .pinned], laidTests := true, laidLooks := .later }
def DomainGrowsCardSaid : Prop := Claim7.holds Tryd.pinned (.plain (OpenSpec.ofChange domainGrowsSpec)) domainGrowsCard

/-- THE TIED CARD OF 'pinfoldlaw20.RuleNone'. -/
def ruleNoneCard : Claim7 := { stood := { row := ruleNoneRow, standIns := [], harness := (true, "5fba118403da4cd37eee05214034bb267996d37c9137991c35e383e9738f102e"), looks := false }, kinds := [], alts := [], laidByText := true, laidKinds := [.data, .pinned], laidTests := true, laidLooks := .later }
def RuleNoneCardSaid : Prop := Claim7.holds Tryd.pinned (.plain (OpenSpec.ofChange ruleNoneSpec)) ruleNoneCard

/-- THE TIED CARD OF 'pinfoldlaw18.WalkLoops'. -/
def walkLoopsCard : Claim7 := { stood := { row := walkLoopsRow, standIns := [], harness := (true, "5fba118403da4cd37eee05214034bb267996d37c9137991c35e383e9738f102e"), looks := false }, kinds := [], alts := [], laidByText := true, laidKinds := [.data, .pinned], laidTests := true, laidLooks := .later }
def WalkLoopsCardSaid : Prop := Claim7.holds Tryd.pinned (.plain (OpenSpec.ofChange walkLoopsSpec)) walkLoopsCard

/-- THE TIED CARD OF 'pinfoldlaw19.VfsNone'. -/
def vfsNoneCard : Claim7 := { stood := { row := vfsNoneRow, standIns := [], harness := (true, "5fba118403da4cd37eee05214034bb267996d37c9137991c35e383e9738f102e"), looks := false }, kinds := [], alts := [], laidByText := true, laidKinds := [.data, .pinned], laidTests := true, laidLooks := .later }
def VfsNoneCardSaid : Prop := Claim7.holds Tryd.pinned (.plain (OpenSpec.ofChange vfsNoneSpec)) vfsNoneCard

/-- THE TIED CARD OF 'pinfoldlaw19.VfsBinds'. -/
def vfsBindsCard : Claim7 := { stood := { row := vfsBindsRow, standIns := [], harness := (true, "5fba118403da4cd37eee05214034bb267996d37c9137991c35e383e9738f102e"), looks := false }, kinds := [], alts := [], laidByText := true, laidKinds := [.data, .pinned], laidTests := true, laidLooks := .later }
def VfsBindsCardSaid : Prop := Claim7.holds Tryd.pinned (.plain (OpenSpec.ofChange vfsBindsSpec)) vfsBindsCard

/-- THE SECOND FORM's CARD OF 'pinfoldlaw20.RulePorts'. -/
def rulePortsUptoCard : Claim7 := { stood := { row := rulePortsUptoRow, standIns := [], harness := (true, "5fba118403da4cd37eee05214034bb267996d37c9137991c35e383e9738f102e"), looks := false }, kinds := [], alts := [], laidByText := true, laidKinds := [.data, .pinned], laidTests := true, laidLooks := .later }
def RulePortsUptoCardSaid : Prop := Claim7.holds Tryd.pinned (.plain (OpenSpec.upto rulePortsSpec)) rulePortsUptoCard

/-- THE SECOND FORM's CARD OF 'pinfoldlaw21.DomainGrows'. -/
def domainGrowsUptoCard : Claim7 := { stood := { row := domainGrowsUptoRow, standIns := [], harness := (true, "5fba118403da4cd37eee05214034bb267996d37c9137991c35e383e9738f102e"), looks := false }, kinds := [], alts := [], laidByText := true, laidKinds := [.data, .pinned], laidTests := true, laidLooks := .later }
def DomainGrowsUptoCardSaid : Prop := Claim7.holds Tryd.pinned (.plain (OpenSpec.upto domainGrowsSpec)) domainGrowsUptoCard

/-- THE SECOND FORM's CARD OF 'pinfoldlaw20.RuleNone'. -/
def ruleNoneUptoCard : Claim7 := { stood := { row := ruleNoneUptoRow, standIns := [], harness := (true, "5fba118403da4cd37eee05214034bb267996d37c9137991c35e383e9738f102e"), looks := false }, kinds := [], alts := [], laidByText := true, laidKinds := [.data, .pinned], laidTests := true, laidLooks := .later }
def RuleNoneUptoCardSaid : Prop := Claim7.holds Tryd.pinned (.plain (OpenSpec.upto ruleNoneSpec)) ruleNoneUptoCard

/-- THE SECOND FORM's CARD OF 'pinfoldlaw18.WalkLoops'. -/
def walkLoopsUptoCard : Claim7 := { stood := { row := walkLoopsUptoRow, standIns := [], harness := (true, "5fba118403da4cd37eee05214034bb267996d37c9137991c35e383e9738f102e"), looks := false }, kinds := [], alts := [], laidByText := true, laidKinds := [.data, .pinned], laidTests := true, laidLooks := .later }
def WalkLoopsUptoCardSaid : Prop := Claim7.holds Tryd.pinned (.plain (OpenSpec.upto walkLoopsSpec)) walkLoopsUptoCard

/-- THE SECOND FORM's CARD OF 'pinfoldlaw19.VfsNone'. -/
def vfsNoneUptoCard : Claim7 := { stood := { row := vfsNoneUptoRow, standIns := [], harness := (true, "5fba118403da4cd37eee05214034bb267996d37c9137991c35e383e9738f102e"), looks := false }, kinds := [], alts := [], laidByText := true, laidKinds := [.data, .pinned], laidTests := true, laidLooks := .later }
def VfsNoneUptoCardSaid : Prop := Claim7.holds Tryd.pinned (.plain (OpenSpec.upto vfsNoneSpec)) vfsNoneUptoCard

/-- THE SECOND FORM's CARD OF 'pinfoldlaw19.VfsBinds'. -/
def vfsBindsUptoCard : Claim7 := { stood := { row := vfsBindsUptoRow, standIns := [], harness := (true, "5fba118403da4cd37eee05214034bb267996d37c9137991c35e383e9738f102e"), looks := false }, kinds := [], alts := [], laidByText := true, laidKinds := [.data, .pinned], laidTests := true, laidLooks := .later }
def VfsBindsUptoCardSaid : Prop := Claim7.holds Tryd.pinned (.plain (OpenSpec.upto vfsBindsSpec)) vfsBindsUptoCard
end Rows
end Go.Proofs.YtmibhogaoakcaaaDoor
