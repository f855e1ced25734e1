/-
  DERIVED. GIVEN WITH THE SEED: THE CARDS: each row of YtfobgbnjicmnaaaGreatDoorRows.lean that lists a variable, with what it lists TIED to the program's text (the seventh form; the later family's looks); each row that meets fmt, with fmt's text TOLD by the authors' own Lean function (tested against real Go, not proved from fmt's source: count such statements apart). THE CARD IS WHAT COUNTS. Prove the row's statement (the work); the ties are given (YtfobgbnjicmnaaaGreatDoorTie.lean); close each card by the builder's one call (the guide's Derived/Test/ToyasCard.lean, 'card_holds'). Laid BY PROGRAM, IN A SANDBOX (cutbox-door.mjs). By AI agents, Wed Nov 11 2026. No macro, syntax, notation, axiom, sorry.
-/
import Derived.Test.YtfobgbnjicmnaaaGreatDoorRows
import GoSem.ClaimSeven
namespace Go.Proofs.YtfobgbnjicmnaaaGreatDoor
namespace Rows

/-- THE TIED CARD OF 'pinfoldlaw26.KernelFiles'. -/
def kernelFilesCard : Claim7 := { stood := { row := kernelFilesRow, standIns := [], harness := (true, "c1e2bb808e8c62aad63db22c2835949f4853c0de7acee38831814056b95f0248"), looks := false }, kinds := [], alts := [], laidByText := true, laidKinds := [.data, .pinned], laidTests := true, laidLooks := .later }
def KernelFilesCardSaid : Prop := Claim7.holds Tryz.pinned (.plain (OpenSpec.ofChange kernelFilesSpec)) kernelFilesCard

/-- THE TIED CARD OF 'pinfoldlaw26.KernelOpened'. -/
def kernelOpenedCard : Claim7 := { stood := { row := kernelOpenedRow, standIns := [], harness := (true, "c1e2bb808e8c62aad63db22c2835949f4853c0de7acee38831814056b95f0248"), looks := false }, kinds := [], alts := [], laidByText := true, laidKinds := [.data, .pinned], laidTests := true, laidLooks := .later }
def KernelOpenedCardSaid : Prop := Claim7.holds Tryz.pinned (.plain (OpenSpec.ofChange kernelOpenedSpec)) kernelOpenedCard

/-- THE TIED CARD OF 'pinfoldlaw26.KernelPorts'. -/
def kernelPortsCard : Claim7 := { stood := { row := kernelPortsRow, standIns := [], harness := (true, "c1e2bb808e8c62aad63db22c2835949f4853c0de7acee38831814056b95f0248"), looks := false }, kinds := [], alts := [], laidByText := true, laidKinds := [.data, .pinned], laidTests := true, laidLooks := .later }
def KernelPortsCardSaid : Prop := Claim7.holds Tryz.pinned (.plain (OpenSpec.ofChange kernelPortsSpec)) kernelPortsCard

/-- THE TIED CARD OF 'pinfoldlaw26.KernelMounts'. -/
def kernelMountsCard : Claim7 := { stood := { row := kernelMountsRow, standIns := [], harness := (true, "c1e2bb808e8c62aad63db22c2835949f4853c0de7acee38831814056b95f0248"), looks := false }, kinds := [], alts := [], laidByText := true, laidKinds := [.data, .pinned], laidTests := true, laidLooks := .later }
def KernelMountsCardSaid : Prop := Claim7.holds Tryz.pinned (.plain (OpenSpec.ofChange kernelMountsSpec)) kernelMountsCard

/-- THE TIED CARD OF 'pinfoldlaw26.KernelRefers'. -/
def kernelRefersCard : Claim7 := { stood := { row := kernelRefersRow, standIns := [], harness := (true, "c1e2bb808e8c62aad63db22c2835949f4853c0de7acee38831814056b95f0248"), looks := false }, kinds := [], alts := [], laidByText := true, laidKinds := [.data, .pinned], laidTests := true, laidLooks := .later }
def KernelRefersCardSaid : Prop := Claim7.holds Tryz.pinned (.plain (OpenSpec.ofChange kernelRefersSpec)) kernelRefersCard

/-- THE TIED CARD OF 'pinfoldlaw26.KernelNews'. -/
def kernelNewsCard : Claim7 := { stood := { row := kernelNewsRow, standIns := [], harness := (true, "c1e2bb808e8c62aad63db22c2835949f4853c0de7acee38831814056b95f0248"), looks := false }, kinds := [], alts := [], laidByText := true, laidKinds := [.data, .pinned], laidTests := true, laidLooks := .later }
def KernelNewsCardSaid : Prop := Claim7.holds Tryz.pinned (.plain (OpenSpec.ofChange kernelNewsSpec)) kernelNewsCard

/-- THE TIED CARD OF 'pinfoldlaw26.KernelOrphans'. -/
def kernelOrphansCard : Claim7 := { stood := { row := kernelOrphansRow, standIns := [], harness := (true, "c1e2bb808e8c62aad63db22c2835949f4853c0de7acee38831814056b95f0248"), looks := false }, kinds := [], alts := [], laidByText := true, laidKinds := [.data, .pinned], laidTests := true, laidLooks := .later }
def KernelOrphansCardSaid : Prop := Claim7.holds Tryz.pinned (.plain (OpenSpec.ofChange kernelOrphansSpec)) kernelOrphansCard

/-- THE TIED CARD OF 'pinfoldlaw31.ExplainTexts'. -/
def explainTextsCard : Claim7 := { stood := { row := explainTextsRow, standIns := [], harness := (true, "c1e2bb808e8c62aad63db22c2835949f4853c0de7acee38831814056b95f0248"), looks := false }, kinds := [], alts := [], laidByText := true, laidKinds := [.data, .pinned], laidTests := true, laidLooks := .later }
def ExplainTextsCardSaid : Prop := Claim7.holds Tryz.pinned (.plain (OpenSpec.ofChange explainTextsSpec)) explainTextsCard

/-- THE SECOND FORM's CARD OF 'pinfoldlaw26.KernelFiles'. -/
def kernelFilesUptoCard : Claim7 := { stood := { row := kernelFilesUptoRow, standIns := [], harness := (true, "c1e2bb808e8c62aad63db22c2835949f4853c0de7acee38831814056b95f0248"), looks := false }, kinds := [], alts := [], laidByText := true, laidKinds := [.data, .pinned], laidTests := true, laidLooks := .later }
def KernelFilesUptoCardSaid : Prop := Claim7.holds Tryz.pinned (.plain (OpenSpec.upto kernelFilesSpec)) kernelFilesUptoCard

/-- THE SECOND FORM's CARD OF 'pinfoldlaw26.KernelOpened'. -/
def kernelOpenedUptoCard : Claim7 := { stood := { row := kernelOpenedUptoRow, standIns := [], harness := (true, "c1e2bb808e8c62aad63db22c2835949f4853c0de7acee38831814056b95f0248"), looks := false }, kinds := [], alts := [], laidByText := true, laidKinds := [.data, .pinned], laidTests := true, laidLooks := .later }
def KernelOpenedUptoCardSaid : Prop := Claim7.holds Tryz.pinned (.plain (OpenSpec.upto kernelOpenedSpec)) kernelOpenedUptoCard

/-- THE SECOND FORM's CARD OF 'pinfoldlaw26.KernelPorts'. -/
def kernelPortsUptoCard : Claim7 := { stood := { row := kernelPortsUptoRow, standIns := [], harness := (true, "c1e2bb808e8c62aad63db22c2835949f4853c0de7acee38831814056b95f0248"), looks := false }, kinds := [], alts := [], laidByText := true, laidKinds := [.data, .pinned], laidTests := true, laidLooks := .later }
def KernelPortsUptoCardSaid : Prop := Claim7.holds Tryz.pinned (.plain (OpenSpec.upto kernelPortsSpec)) kernelPortsUptoCard

/-- THE SECOND FORM's CARD OF 'pinfoldlaw26.KernelMounts'. -/
def kernelMountsUptoCard : Claim7 := { stood := { row := kernelMountsUptoRow, standIns := [], harness := (true, "c1e2bb808e8c62aad63db22c2835949f4853c0de7acee38831814056b95f0248"), looks := false }, kinds := [], alts := [], laidByText := true, laidKinds := [.data, .pinned], laidTests := true, laidLooks := .later }
def KernelMountsUptoCardSaid : Prop := Claim7.holds Tryz.pinned (.plain (OpenSpec.upto kernelMountsSpec)) kernelMountsUptoCard

/-- THE SECOND FORM's CARD OF 'pinfoldlaw26.KernelRefers'. -/
def kernelRefersUptoCard : Claim7 := { stood := { row := kernelRefersUptoRow, standIns := [], harness := (true, "c1e2bb808e8c62aad63db22c2835949f4853c0de7acee38831814056b95f0248"), looks := false }, kinds := [], alts := [], laidByText := true, laidKinds := [.data, .pinned], laidTests := true, laidLooks := .later }
def KernelRefersUptoCardSaid : Prop := Claim7.holds Tryz.pinned (.plain (OpenSpec.upto kernelRefersSpec)) kernelRefersUptoCard

/-- THE SECOND FORM's CARD OF 'pinfoldlaw26.KernelNews'. -/
def kernelNewsUptoCard : Claim7 := { stood := { row := kernelNewsUptoRow, standIns := [], harness := (true, "c1e2bb808e8c62aad63db22c2835949f4853c0de7acee38831814056b95f0248"), looks := false }, kinds := [], alts := [], laidByText := true, laidKinds := [.data, .pinned], laidTests := true, laidLooks := .later }
def KernelNewsUptoCardSaid : Prop := Claim7.holds Tryz.pinned (.plain (OpenSpec.upto kernelNewsSpec)) kernelNewsUptoCard

/-- THE SECOND FORM's CARD OF 'pinfoldlaw26.KernelOrphans'. -/
def kernelOrphansUptoCard : Claim7 := { stood := { row := kernelOrphansUptoRow, standIns := [], harness := (true, "c1e2bb808e8c62aad63db22c2835949f4853c0de7acee38831814056b95f0248"), looks := false }, kinds := [], alts := [], laidByText := true, laidKinds := [.data, .pinned], laidTests := true, laidLooks := .later }
def KernelOrphansUptoCardSaid : Prop := Claim7.holds Tryz.pinned (.plain (OpenSpec.upto kernelOrphansSpec)) kernelOrphansUptoCard

/-- THE SECOND FORM's CARD OF 'pinfoldlaw31.ExplainTexts'. -/
def explainTextsUptoCard : Claim7 := { stood := { row := explainTextsUptoRow, standIns := [], harness := (true, "c1e2bb808e8c62aad63db22c2835949f4853c0de7acee38831814056b95f0248"), looks := false }, kinds := [], alts := [], laidByText := true, laidKinds := [.data, .pinned], laidTests := true, laidLooks := .later }
def ExplainTextsUptoCardSaid : Prop := Claim7.holds Tryz.pinned (.plain (OpenSpec.upto explainTextsSpec)) explainTextsUptoCard
end Rows
end Go.Proofs.YtfobgbnjicmnaaaGreatDoor
