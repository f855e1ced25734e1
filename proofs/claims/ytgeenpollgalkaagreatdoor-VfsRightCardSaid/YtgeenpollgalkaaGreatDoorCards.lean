/-
  DERIVED. GIVEN WITH THE SEED: THE CARDS: each row of YtgeenpollgalkaaGreatDoorRows.lean that lists a variable, with what it lists TIED to the program's text (the seventh form; the later family's looks); each row that meets fmt, with fmt's text TOLD by the authors' own Lean function (tested against real Go, not proved from fmt's source: count such statements apart). THE CARD IS WHAT COUNTS. Prove the row's statement (the work); the ties are given (YtgeenpollgalkaaGreatDoorTie.lean); close each card by the builder's one call (the guide's Derived/Test/ToyasCard.lean, 'card_holds'). Laid BY PROGRAM, IN A SANDBOX (cutbox-door.mjs). By AI agents, Wed Nov 11 2026. No macro, syntax, notation, axiom, sorry.
-/
import Derived.Test.YtgeenpollgalkaaGreatDoorRows
import GoSem.ClaimSeven
namespace Go.Proofs.YtgeenpollgalkaaGreatDoor
namespace Rows

/-- THE TIED CARD OF 'pinfoldlaw20.RuleGrants'. -/
def ruleGrantsCard : Claim7 := { stood := { row := ruleGrantsRow, standIns := [], harness := (true, "7a49e8ca5044569fa667b3b69eb7ad14051a15c129c2f1a69dea97eab8f01bf9"), looks := false }, kinds := [], alts := [], laidByText := true, laidKinds := [.data, .pinned], laidTests := true, laidLooks := .later }
def RuleGrantsCardSaid : Prop := Claim7.holds Tryz.pinned (.plain (OpenSpec.ofChange ruleGrantsSpec)) ruleGrantsCard

/-- THE TIED CARD OF 'pinfoldlaw21.DomainOrder'. -/
def domainOrderCard : Claim7 := { stood := { row := domainOrderRow, standIns := [], harness := (true, "7a49e8ca5044569fa667b3b69eb7ad14051a15c129c2f1a69dea97eab8f01bf9"), looks := false }, kinds := [], alts := [], laidByText := true, laidKinds := [.data, .pinned], laidTests := true, laidLooks := .later }
def DomainOrderCardSaid : Prop := Claim7.holds Tryz.pinned (.plain (OpenSpec.ofChange domainOrderSpec)) domainOrderCard

/-- THE TIED CARD OF 'pinfoldlaw20.RuleSame'. -/
def ruleSameCard : Claim7 := { stood := { row := ruleSameRow, standIns := [], harness := (true, "7a49e8ca5044569fa667b3b69eb7ad14051a15c129c2f1a69dea97eab8f01bf9"), looks := false }, kinds := [], alts := [], laidByText := true, laidKinds := [.data, .pinned], laidTests := true, laidLooks := .later }
def RuleSameCardSaid : Prop := Claim7.holds Tryz.pinned (.plain (OpenSpec.ofChange ruleSameSpec)) ruleSameCard

/-- THE TIED CARD OF 'pinfoldlaw21.DomainSums'. -/
def domainSumsCard : Claim7 := { stood := { row := domainSumsRow, standIns := [], harness := (true, "7a49e8ca5044569fa667b3b69eb7ad14051a15c129c2f1a69dea97eab8f01bf9"), looks := false }, kinds := [], alts := [], laidByText := true, laidKinds := [.data, .pinned], laidTests := true, laidLooks := .later }
def DomainSumsCardSaid : Prop := Claim7.holds Tryz.pinned (.plain (OpenSpec.ofChange domainSumsSpec)) domainSumsCard

/-- THE TIED CARD OF 'pinfoldlaw19.VfsRight'. -/
def vfsRightCard : Claim7 := { stood := { row := vfsRightRow, standIns := [], harness := (true, "7a49e8ca5044569fa667b3b69eb7ad14051a15c129c2f1a69dea97eab8f01bf9"), looks := false }, kinds := [], alts := [], laidByText := true, laidKinds := [.data, .pinned], laidTests := true, laidLooks := .later }
def VfsRightCardSaid : Prop := Claim7.holds Tryz.pinned (.plain (OpenSpec.ofChange vfsRightSpec)) vfsRightCard

/-- THE TIED CARD OF 'pinfoldlaw18.WalkAbove'. -/
def walkAboveCard : Claim7 := { stood := { row := walkAboveRow, standIns := [], harness := (true, "7a49e8ca5044569fa667b3b69eb7ad14051a15c129c2f1a69dea97eab8f01bf9"), looks := false }, kinds := [], alts := [], laidByText := true, laidKinds := [.data, .pinned], laidTests := true, laidLooks := .later }
def WalkAboveCardSaid : Prop := Claim7.holds Tryz.pinned (.plain (OpenSpec.ofChange walkAboveSpec)) walkAboveCard

/-- THE TIED CARD OF 'pinfoldlaw18.WalkBack'. -/
def walkBackCard : Claim7 := { stood := { row := walkBackRow, standIns := [], harness := (true, "7a49e8ca5044569fa667b3b69eb7ad14051a15c129c2f1a69dea97eab8f01bf9"), looks := false }, kinds := [], alts := [], laidByText := true, laidKinds := [.data, .pinned], laidTests := true, laidLooks := .later }
def WalkBackCardSaid : Prop := Claim7.holds Tryz.pinned (.plain (OpenSpec.ofChange walkBackSpec)) walkBackCard

/-- THE TIED CARD OF 'pinfoldlaw19.VfsPlays'. -/
def vfsPlaysCard : Claim7 := { stood := { row := vfsPlaysRow, standIns := [], harness := (true, "7a49e8ca5044569fa667b3b69eb7ad14051a15c129c2f1a69dea97eab8f01bf9"), looks := false }, kinds := [], alts := [], laidByText := true, laidKinds := [.data, .pinned], laidTests := true, laidLooks := .later }
def VfsPlaysCardSaid : Prop := Claim7.holds Tryz.pinned (.plain (OpenSpec.ofChange vfsPlaysSpec)) vfsPlaysCard

/-- THE SECOND FORM's CARD OF 'pinfoldlaw20.RuleGrants'. -/
def ruleGrantsUptoCard : Claim7 := { stood := { row := ruleGrantsUptoRow, standIns := [], harness := (true, "7a49e8ca5044569fa667b3b69eb7ad14051a15c129c2f1a69dea97eab8f01bf9"), looks := false }, kinds := [], alts := [], laidByText := true, laidKinds := [.data, .pinned], laidTests := true, laidLooks := .later }
def RuleGrantsUptoCardSaid : Prop := Claim7.holds Tryz.pinned (.plain (OpenSpec.upto ruleGrantsSpec)) ruleGrantsUptoCard

/-- THE SECOND FORM's CARD OF 'pinfoldlaw21.DomainOrder'. -/
def domainOrderUptoCard : Claim7 := { stood := { row := domainOrderUptoRow, standIns := [], harness := (true, "7a49e8ca5044569fa667b3b69eb7ad14051a15c129c2f1a69dea97eab8f01bf9"), looks := false }, kinds := [], alts := [], laidByText := true, laidKinds := [.data, .pinned], laidTests := true, laidLooks := .later }
def DomainOrderUptoCardSaid : Prop := Claim7.holds Tryz.pinned (.plain (OpenSpec.upto domainOrderSpec)) domainOrderUptoCard

/-- THE SECOND FORM's CARD OF 'pinfoldlaw20.RuleSame'. -/
def ruleSameUptoCard : Claim7 := { stood := { row := ruleSameUptoRow, standIns := [], harness := (true, "7a49e8ca5044569fa667b3b69eb7ad14051a15c129c2f1a69dea97eab8f01bf9"), looks := false }, kinds := [], alts := [], laidByText := true, laidKinds := [.data, .pinned], laidTests := true, laidLooks := .later }
def RuleSameUptoCardSaid : Prop := Claim7.holds Tryz.pinned (.plain (OpenSpec.upto ruleSameSpec)) ruleSameUptoCard

/-- THE SECOND FORM's CARD OF 'pinfoldlaw21.DomainSums'. -/
def domainSumsUptoCard : Claim7 := { stood := { row := domainSumsUptoRow, standIns := [], harness := (true, "7a49e8ca5044569fa667b3b69eb7ad14051a15c129c2f1a69dea97eab8f01bf9"), looks := false }, kinds := [], alts := [], laidByText := true, laidKinds := [.data, .pinned], laidTests := true, laidLooks := .later }
def DomainSumsUptoCardSaid : Prop := Claim7.holds Tryz.pinned (.plain (OpenSpec.upto domainSumsSpec)) domainSumsUptoCard

/-- THE SECOND FORM's CARD OF 'pinfoldlaw19.VfsRight'. -/
def vfsRightUptoCard : Claim7 := { stood := { row := vfsRightUptoRow, standIns := [], harness := (true, "7a49e8ca5044569fa667b3b69eb7ad14051a15c129c2f1a69dea97eab8f01bf9"), looks := false }, kinds := [], alts := [], laidByText := true, laidKinds := [.data, .pinned], laidTests := true, laidLooks := .later }
def VfsRightUptoCardSaid : Prop := Claim7.holds Tryz.pinned (.plain (OpenSpec.upto vfsRightSpec)) vfsRightUptoCard

/-- THE SECOND FORM's CARD OF 'pinfoldlaw18.WalkAbove'. -/
def walkAboveUptoCard : Claim7 := { stood := { row := walkAboveUptoRow, standIns := [], harness := (true, "7a49e8ca5044569fa667b3b69eb7ad14051a15c129c2f1a69dea97eab8f01bf9"), looks := false }, kinds := [], alts := [], laidByText := true, laidKinds := [.data, .pinned], laidTests := true, laidLooks := .later }
def WalkAboveUptoCardSaid : Prop := Claim7.holds Tryz.pinned (.plain (OpenSpec.upto walkAboveSpec)) walkAboveUptoCard

/-- THE SECOND FORM's CARD OF 'pinfoldlaw18.WalkBack'. -/
def walkBackUptoCard : Claim7 := { stood := { row := walkBackUptoRow, standIns := [], harness := (true, "7a49e8ca5044569fa667b3b69eb7ad14051a15c129c2f1a69dea97eab8f01bf9"), looks := false }, kinds := [], alts := [], laidByText := true, laidKinds := [.data, .pinned], laidTests := true, laidLooks := .later }
def WalkBackUptoCardSaid : Prop := Claim7.holds Tryz.pinned (.plain (OpenSpec.upto walkBackSpec)) walkBackUptoCard

/-- THE SECOND FORM's CARD OF 'pinfoldlaw19.VfsPlays'. -/
def vfsPlaysUptoCard : Claim7 := { stood := { row := vfsPlaysUptoRow, standIns := [], harness := (true, "7a49e8ca5044569fa667b3b69eb7ad14051a15c129c2f1a69dea97eab8f01bf9"), looks := false }, kinds := [], alts := [], laidByText := true, laidKinds := [.data, .pinned], laidTests := true, laidLooks := .later }
def VfsPlaysUptoCardSaid : Prop := Claim7.holds Tryz.pinned (.plain (OpenSpec.upto vfsPlaysSpec)) vfsPlaysUptoCard
end Rows
end Go.Proofs.YtgeenpollgalkaaGreatDoor
