/-
  DERIVED. GIVEN WITH THE SEED: THE CARDS: each row of YtgeenpollgalkaaDoorRows.lean that lists a variable, with what it lists TIED to the program's text (the seventh form; the later family's looks); each row that meets fmt, with fmt's text TOLD by the authors' own Lean function (tested against real Go, not proved from fmt's source: count such statements apart). THE CARD IS WHAT COUNTS. Prove the row's statement (the work); the ties are given (YtgeenpollgalkaaDoorTie.lean); close each card by the builder's one call (the guide's Derived/Test/ToyasCard.lean, 'card_holds'). Laid BY PROGRAM, IN A SANDBOX (cutbox-door.mjs). By AI agents, Wed Nov 11 2026. No macro, syntax, notation, axiom, sorry.
-/
import Derived.Test.YtgeenpollgalkaaDoorRows
import GoSem.ClaimSeven
namespace Go.Proofs.YtgeenpollgalkaaDoor
namespace Rows

/-- THE TIED CARD OF 'pinfoldlaw21.DomainGrows'. -/
def domainGrowsCard : Claim7 := { stood := { row := domainGrowsRow, standIns := [], harness := (true, "b19bfd61130ce6bbc8a591303df134b759a2f7e2b842cce01eaf0877e274c24c"), looks := false }, kinds := [], alts := [], laidByText := true, laidKinds := [.data, .pinned], laidTests := true, laidLooks := .later }
def DomainGrowsCardSaid : Prop := Claim7.holds Tryd.pinned (.plain (OpenSpec.ofChange domainGrowsSpec)) domainGrowsCard

/-- THE TIED CARD OF 'pinfoldlaw19.VfsNone'. -/
def vfsNoneCard : Claim7 := { stood := { row := vfsNoneRow, standIns := [], harness := (true, "b19bfd61130ce6bbc8a591303df134b759a2f7e2b842cce01eaf0877e274c24c"), looks := false }, kinds := [], alts := [], laidByText := true, laidKinds := [.data, .pinned], laidTests := true, laidLooks := .later }
def VfsNoneCardSaid : Prop := Claim7.holds Tryd.pinned (.plain (OpenSpec.ofChange vfsNoneSpec)) vfsNoneCard

/-- THE TIED CARD OF 'pinfoldlaw19.VfsBinds'. -/
def vfsBindsCard : Claim7 := { stood := { row := vfsBindsRow, standIns := [], harness := (true, "b19bfd61130ce6bbc8a591303df134b759a2f7e2b842cce01eaf0877e274c24c"), looks := false }, kinds := [], alts := [], laidByText := true, laidKinds := [.data, .pinned], laidTests := true, laidLooks := .later }
def VfsBindsCardSaid : Prop := Claim7.holds Tryd.pinned (.plain (OpenSpec.ofChange vfsBindsSpec)) vfsBindsCard

/-- THE SECOND FORM's CARD OF 'pinfoldlaw21.DomainGrows'. -/
def domainGrowsUptoCard : Claim7 := { stood := { row := domainGrowsUptoRow, standIns := [], harness := (true, "b19bfd61130ce6bbc8a591303df134b759a2f7e2b842cce01eaf0877e274c24c"), looks := false }, kinds := [], alts := [], laidByText := true, laidKinds := [.data, .pinned], laidTests := true, laidLooks := .later }
def DomainGrowsUptoCardSaid : Prop := Claim7.holds Tryd.pinned (.plain (OpenSpec.upto domainGrowsSpec)) domainGrowsUptoCard

/-- THE SECOND FORM's CARD OF 'pinfoldlaw19.VfsNone'. -/
def vfsNoneUptoCard : Claim7 := { stood := { row := vfsNoneUptoRow, standIns := [], harness := (true, "b19bfd61130ce6bbc8a591303df134b759a2f7e2b842cce01eaf0877e274c24c"), looks := false }, kinds := [], alts := [], laidByText := true, laidKinds := [.data, .pinned], laidTests := true, laidLooks := .later }
def VfsNoneUptoCardSaid : Prop := Claim7.holds Tryd.pinned (.plain (OpenSpec.upto vfsNoneSpec)) vfsNoneUptoCard

/-- THE SECOND FORM's CARD OF 'pinfoldlaw19.VfsBinds'. -/
def vfsBindsUptoCard : Claim7 := { stood := { row := vfsBindsUptoRow, standIns := [], harness := (true, "b19bfd61130ce6bbc8a591303df134b759a2f7e2b842cce01eaf0877e274c24c"), looks := false }, kinds := [], alts := [], laidByText := true, laidKinds := [.data, .pinned], laidTests := true, laidLooks := .later }
def VfsBindsUptoCardSaid : Prop := Claim7.holds Tryd.pinned (.plain (OpenSpec.upto vfsBindsSpec)) vfsBindsUptoCard
end Rows
end Go.Proofs.YtgeenpollgalkaaDoor
