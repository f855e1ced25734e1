/-
  NARROWER THAN 'FOR EVERY INPUT', by the rows' own cells (each row's printed sentence says how): RulePorts: laid · DomainGrows: laid · RuleNone: laid · WalkLoops: laid · VfsNone: laid · VfsBinds: laid.
  DERIVED. THE GIVEN ROWS OF THIS SEAT. 6 by the template 'for every input the law returns true; each argument reads behind the call as it read before'; 0 by the template 'total and deterministic' (their statements: YtmibhogaoakcaaaDoorTotals.lean).
  GIVEN WITH THE SEED: the statements are not yours to turn. If you find one false, say at which input.
  Laid BY PROGRAM, IN A SANDBOX (cutbox-rows.mjs): the forced cells as the released guide's own fill.sh prints them over the translation f4e26557cc189328… (all of the seat's roots in one cut). By AI agents, Wed Nov 11 2026. No macro, syntax, notation, axiom, sorry.
-/
import Derived.Test.YtmibhogaoakcaaaDoorChecked
import GoSem.PinnedTables
import GoSem.Claim
import GoSem.ClaimJoined
import GoSem.ClaimMapViews
import Derived.JoinedTies
import Derived.KernelRfl
namespace Go.Proofs.YtmibhogaoakcaaaDoor
/- THE CELL 'sum', in the pinned program and in every row, IS THE sha256 OF THE DUMP (.gsa) THAT YtmibhogaoakcaaaDoorProg.lean LOADS. Nothing in Lean hashes anything: it is a label: what it is worth is what the hold of that sum in a sandbox is worth. -/
noncomputable def Tryd.pinned : Pinned := { name := "ytmibhogaoakcaaadoor", sum := "f4e26557cc189328c1d84bffeb150aa5da1fbf70fd01d45d4646d1094d0e1dc6", checked := Tryd.checked }
namespace Rows
def none {H : Type} : Left H := { results := [], args := [] }

/- WHAT THE LISTED PACKAGE-LEVEL VARIABLES READ AS WHEN THE CALL BEGINS. Each datum BY PROGRAM (the guide's laid-datum.mjs) off the statement by which the dump's own 'gosem.cut.vars' lays the variable. In a bare row this is a premise. The card (YtmibhogaoakcaaaDoorCards.lean) ties it to the program's text. -/
def laid_unicode_utf8_acceptRanges {H : Type} : DataW H := .agg [.agg [.lit (.int .u8 128), .lit (.int .u8 191)], .agg [.lit (.int .u8 160), .lit (.int .u8 191)], .agg [.lit (.int .u8 128), .lit (.int .u8 159)], .agg [.lit (.int .u8 144), .lit (.int .u8 191)], .agg [.lit (.int .u8 128), .lit (.int .u8 143)], .agg [.lit (.int .u8 0), .lit (.int .u8 0)], .agg [.lit (.int .u8 0), .lit (.int .u8 0)], .agg [.lit (.int .u8 0), .lit (.int .u8 0)], .agg [.lit (.int .u8 0), .lit (.int .u8 0)], .agg [.lit (.int .u8 0), .lit (.int .u8 0)], .agg [.lit (.int .u8 0), .lit (.int .u8 0)], .agg [.lit (.int .u8 0), .lit (.int .u8 0)], .agg [.lit (.int .u8 0), .lit (.int .u8 0)], .agg [.lit (.int .u8 0), .lit (.int .u8 0)], .agg [.lit (.int .u8 0), .lit (.int .u8 0)], .agg [.lit (.int .u8 0), .lit (.int .u8 0)]]
/-- One of Go's own tables, pinned by name: the form's constant. -/
def laid_unicode_utf8_first : DataW Unit := Go.Pinned.utf8First

/-- 'pinfoldlaw20.RulePorts': WHATEVER THE INPUT: true; the input reads as it did. -/
def rulePortsSpec : ChangeSpec := { name := "rulePorts", fn := fun _ => fun
  | [d1, d2, d3] => { results := [.lit (.bool true)], args := [d1, d2, d3] }
  | _ => none }
def rulePortsRow : OpenClaim := { program := "ytmibhogaoakcaaadoor", sum := "f4e26557cc189328c1d84bffeb150aa5da1fbf70fd01d45d4646d1094d0e1dc6", func := "pinfold/pinfoldlaw20.RulePorts", spec := "rulePorts", inPlace := ["sync/atomic.AddInt64", "internal/bytealg.CountString", "internal/bytealg.IndexByteString", "internal/bytealg.IndexString"], unfollowed := true, recurses := true, named := ["unicode/utf8.first", "unicode/utf8.acceptRanges", "internal/bytealg.MaxLen"], apart := false, laid := [("unicode/utf8.acceptRanges", laid_unicode_utf8_acceptRanges), ("unicode/utf8.first", laid_unicode_utf8_first)] }
def RulePortsSaid : Prop := rulePortsRow.holds Tryd.pinned (OpenSpec.ofChange rulePortsSpec)

/-- ITS FALSE NEIGHBOUR: 'it returns false'. Refute it at one input. -/
def rulePortsWrong : ChangeSpec := { name := "rulePorts", fn := fun _ => fun
  | [d1, d2, d3] => { results := [.lit (.bool false)], args := [d1, d2, d3] }
  | _ => none }
def RulePortsWrongFalsely : Prop := rulePortsRow.holds Tryd.pinned (OpenSpec.ofChange rulePortsWrong)

/-- 'pinfoldlaw21.DomainGrows': WHATEVER THE INPUT: true; the input reads as it did. -/
def domainGrowsSpec : ChangeSpec := { name := "domainGrows", fn := fun _ => fun
  | [d1, d2] => { results := [.lit (.bool true)], args := [d1, d2] }
  | _ => none }
def domainGrowsRow : OpenClaim := { program := "ytmibhogaoakcaaadoor", sum := "f4e26557cc189328c1d84bffeb150aa5da1fbf70fd01d45d4646d1094d0e1dc6", func := "pinfold/pinfoldlaw21.DomainGrows", spec := "domainGrows", inPlace := ["sync/atomic.AddInt64", "internal/bytealg.CountString", "internal/bytealg.IndexByteString", "internal/bytealg.IndexString"], unfollowed := true, recurses := true, named := ["unicode/utf8.first", "unicode/utf8.acceptRanges", "internal/bytealg.MaxLen"], apart := false, laid := [("unicode/utf8.acceptRanges", laid_unicode_utf8_acceptRanges), ("unicode/utf8.first", laid_unicode_utf8_first)] }
def DomainGrowsSaid : Prop := domainGrowsRow.holds Tryd.pinned (OpenSpec.ofChange domainGrowsSpec)

/-- ITS FALSE NEIGHBOUR: 'it returns false'. Refute it at one input. -/
def domainGrowsWrong : ChangeSpec := { name := "domainGrows", fn := fun _ => fun
  | [d1, d2] => { results := [.lit (.bool false)], args := [d1, d2] }
  | _ => none }
def DomainGrowsWrongFalsely : Prop := domainGrowsRow.holds Tryd.pinned (OpenSpec.ofChange domainGrowsWrong)

/-- 'pinfoldlaw20.RuleNone': WHATEVER THE INPUT: true; the input reads as it did. -/
def ruleNoneSpec : ChangeSpec := { name := "ruleNone", fn := fun _ => fun
  | [d1, d2, d3, d4] => { results := [.lit (.bool true)], args := [d1, d2, d3, d4] }
  | _ => none }
def ruleNoneRow : OpenClaim := { program := "ytmibhogaoakcaaadoor", sum := "f4e26557cc189328c1d84bffeb150aa5da1fbf70fd01d45d4646d1094d0e1dc6", func := "pinfold/pinfoldlaw20.RuleNone", spec := "ruleNone", inPlace := ["sync/atomic.AddInt64", "internal/bytealg.CountString", "internal/bytealg.IndexByteString", "internal/bytealg.IndexString"], unfollowed := true, recurses := true, named := ["unicode/utf8.first", "unicode/utf8.acceptRanges", "internal/bytealg.MaxLen"], apart := false, laid := [("unicode/utf8.acceptRanges", laid_unicode_utf8_acceptRanges), ("unicode/utf8.first", laid_unicode_utf8_first)] }
def RuleNoneSaid : Prop := ruleNoneRow.holds Tryd.pinned (OpenSpec.ofChange ruleNoneSpec)

/-- ITS FALSE NEIGHBOUR: 'it returns false'. Refute it at one input. -/
def ruleNoneWrong : ChangeSpec := { name := "ruleNone", fn := fun _ => fun
  | [d1, d2, d3, d4] => { results := [.lit (.bool false)], args := [d1, d2, d3, d4] }
  | _ => none }
def RuleNoneWrongFalsely : Prop := ruleNoneRow.holds Tryd.pinned (OpenSpec.ofChange ruleNoneWrong)

/-- 'pinfoldlaw18.WalkLoops': WHATEVER THE INPUT: true; the input reads as it did. -/
def walkLoopsSpec : ChangeSpec := { name := "walkLoops", fn := fun _ => fun
  | [d1, d2] => { results := [.lit (.bool true)], args := [d1, d2] }
  | _ => none }
def walkLoopsRow : OpenClaim := { program := "ytmibhogaoakcaaadoor", sum := "f4e26557cc189328c1d84bffeb150aa5da1fbf70fd01d45d4646d1094d0e1dc6", func := "pinfold/pinfoldlaw18.WalkLoops", spec := "walkLoops", inPlace := ["sync/atomic.AddInt64", "internal/bytealg.CountString", "internal/bytealg.IndexByteString", "internal/bytealg.IndexString", "internal/abi.NoEscape", "internal/bytealg.MakeNoZero"], unfollowed := true, recurses := true, named := ["unicode/utf8.first", "unicode/utf8.acceptRanges", "internal/bytealg.MaxLen"], apart := false, laid := [("unicode/utf8.acceptRanges", laid_unicode_utf8_acceptRanges), ("unicode/utf8.first", laid_unicode_utf8_first)] }
def WalkLoopsSaid : Prop := walkLoopsRow.holds Tryd.pinned (OpenSpec.ofChange walkLoopsSpec)

/-- ITS FALSE NEIGHBOUR: 'it returns false'. Refute it at one input. -/
def walkLoopsWrong : ChangeSpec := { name := "walkLoops", fn := fun _ => fun
  | [d1, d2] => { results := [.lit (.bool false)], args := [d1, d2] }
  | _ => none }
def WalkLoopsWrongFalsely : Prop := walkLoopsRow.holds Tryd.pinned (OpenSpec.ofChange walkLoopsWrong)

/-- 'pinfoldlaw19.VfsNone': WHATEVER THE INPUT: true; the input reads as it did. -/
def vfsNoneSpec : ChangeSpec := { name := "vfsNone", fn := fun _ => fun
  | [d1, d2, d3, d4, d5, d6] => { results := [.lit (.bool true)], args := [d1, d2, d3, d4, d5, d6] }
  | _ => none }
def vfsNoneRow : OpenClaim := { program := "ytmibhogaoakcaaadoor", sum := "f4e26557cc189328c1d84bffeb150aa5da1fbf70fd01d45d4646d1094d0e1dc6", func := "pinfold/pinfoldlaw19.VfsNone", spec := "vfsNone", inPlace := ["internal/bytealg.CountString", "internal/bytealg.IndexByteString", "internal/bytealg.IndexString", "sync/atomic.AddInt64"], unfollowed := true, recurses := true, named := ["unicode/utf8.first", "unicode/utf8.acceptRanges", "internal/bytealg.MaxLen"], apart := false, laid := [("unicode/utf8.acceptRanges", laid_unicode_utf8_acceptRanges), ("unicode/utf8.first", laid_unicode_utf8_first)] }
def VfsNoneSaid : Prop := vfsNoneRow.holds Tryd.pinned (OpenSpec.ofChange vfsNoneSpec)

/-- ITS FALSE NEIGHBOUR: 'it returns false'. Refute it at one input. -/
def vfsNoneWrong : ChangeSpec := { name := "vfsNone", fn := fun _ => fun
  | [d1, d2, d3, d4, d5, d6] => { results := [.lit (.bool false)], args := [d1, d2, d3, d4, d5, d6] }
  | _ => none }
def VfsNoneWrongFalsely : Prop := vfsNoneRow.holds Tryd.pinned (OpenSpec.ofChange vfsNoneWrong)

/-- 'pinfoldlaw19.VfsBinds': WHATEVER THE INPUT: true; the input reads as it did. -/
def vfsBindsSpec : ChangeSpec := { name := "vfsBinds", fn := fun _ => fun
  | [d1, d2] => { results := [.lit (.bool true)], args := [d1, d2] }
  | _ => none }
def vfsBindsRow : OpenClaim := { program := "ytmibhogaoakcaaadoor", sum := "f4e26557cc189328c1d84bffeb150aa5da1fbf70fd01d45d4646d1094d0e1dc6", func := "pinfold/pinfoldlaw19.VfsBinds", spec := "vfsBinds", inPlace := ["internal/bytealg.CountString", "internal/bytealg.IndexByteString", "internal/bytealg.IndexString", "sync/atomic.AddInt64"], unfollowed := true, recurses := true, named := ["unicode/utf8.first", "unicode/utf8.acceptRanges", "internal/bytealg.MaxLen"], apart := false, laid := [("unicode/utf8.acceptRanges", laid_unicode_utf8_acceptRanges), ("unicode/utf8.first", laid_unicode_utf8_first)] }
def VfsBindsSaid : Prop := vfsBindsRow.holds Tryd.pinned (OpenSpec.ofChange vfsBindsSpec)

/-- ITS FALSE NEIGHBOUR: 'it returns false'. Refute it at one input. -/
def vfsBindsWrong : ChangeSpec := { name := "vfsBinds", fn := fun _ => fun
  | [d1, d2] => { results := [.lit (.bool false)], args := [d1, d2] }
  | _ => none }
def VfsBindsWrongFalsely : Prop := vfsBindsRow.holds Tryd.pinned (OpenSpec.ofChange vfsBindsWrong)

/- THE SECOND FORM. 'bulk': how many values and letters a reading holds, each counted each time it is reached (what is shared counts as often as it is met; a slice's spare places count too). A statement '..UptoSaid' is the law's where the arguments, and the package variables that the reading takes, are together of bulk at most 1048576: NARROWER than '..Said'. Prove '..Said' where nothing that the law and all that it calls make is longer than what came in: it says more and counts as full. Else prove '..UptoSaid'. A law counts once. -/
mutual
def uptoBulk {H : Type} : DataW H → Nat
  | .lit (.string bytes) => bytes.length + 1
  | .lit _ => 1
  | .nil => 1
  | .ptr d => uptoBulk d + 1
  | .slice elems spare => uptoBulkAll elems + uptoBulkAll spare + 1
  | .agg parts => uptoBulkAll parts + 1
  | .iface _ d => uptoBulk d + 1
  | .map entries => uptoBulkEntries entries + 1
  | .held _ => 1
def uptoBulkAll {H : Type} : List (DataW H) → Nat
  | [] => 0
  | d :: r => uptoBulk d + uptoBulkAll r
def uptoBulkEntries {H : Type} : List (Lit × DataW H) → Nat
  | [] => 0
  | x :: r => uptoBulkEntry x + uptoBulkEntries r
def uptoBulkEntry {H : Type} : Lit × DataW H → Nat
  | (.string bytes, d) => bytes.length + uptoBulk d + 1
  | (_, d) => uptoBulk d + 1
 end
def uptoSmall : (H : Type) → List (DataW H) → Bool := fun _ ds => decide (uptoBulkAll ds ≤ 1048576)
def OpenSpec.upto (s : _root_.Go.ChangeSpec) : _root_.Go.OpenSpec := { _root_.Go.OpenSpec.ofChange s with cond := some uptoSmall }

/-- 'pinfoldlaw20.RulePorts', WHERE WHAT IT READS IS OF BULK AT MOST 1048576: true; the input reads as it did. -/
def rulePortsUptoRow : OpenClaim := { program := "ytmibhogaoakcaaadoor", sum := "f4e26557cc189328c1d84bffeb150aa5da1fbf70fd01d45d4646d1094d0e1dc6", func := "pinfold/pinfoldlaw20.RulePorts", spec := "rulePorts", inPlace := ["sync/atomic.AddInt64", "internal/bytealg.CountString", "internal/bytealg.IndexByteString", "internal/bytealg.IndexString"], unfollowed := true, recurses := true, named := ["unicode/utf8.first", "unicode/utf8.acceptRanges", "internal/bytealg.MaxLen"], apart := false, laid := [("unicode/utf8.acceptRanges", laid_unicode_utf8_acceptRanges), ("unicode/utf8.first", laid_unicode_utf8_first)], narrowed := true }
def RulePortsUptoSaid : Prop := rulePortsUptoRow.holds Tryd.pinned (OpenSpec.upto rulePortsSpec)

/-- 'pinfoldlaw21.DomainGrows', WHERE WHAT IT READS IS OF BULK AT MOST 1048576: true; the input reads as it did. -/
def domainGrowsUptoRow : OpenClaim := { program := "ytmibhogaoakcaaadoor", sum := "f4e26557cc189328c1d84bffeb150aa5da1fbf70fd01d45d4646d1094d0e1dc6", func := "pinfold/pinfoldlaw21.DomainGrows", spec := "domainGrows", inPlace := ["sync/atomic.AddInt64", "internal/bytealg.CountString", "internal/bytealg.IndexByteString", "internal/bytealg.IndexString"], unfollowed := true, recurses := true, named := ["unicode/utf8.first", "unicode/utf8.acceptRanges", "internal/bytealg.MaxLen"], apart := false, laid := [("unicode/utf8.acceptRanges", laid_unicode_utf8_acceptRanges), ("unicode/utf8.first", laid_unicode_utf8_first)], narrowed := true }
def DomainGrowsUptoSaid : Prop := domainGrowsUptoRow.holds Tryd.pinned (OpenSpec.upto domainGrowsSpec)

/-- 'pinfoldlaw20.RuleNone', WHERE WHAT IT READS IS OF BULK AT MOST 1048576: true; the input reads as it did. -/
def ruleNoneUptoRow : OpenClaim := { program := "ytmibhogaoakcaaadoor", sum := "f4e26557cc189328c1d84bffeb150aa5da1fbf70fd01d45d4646d1094d0e1dc6", func := "pinfold/pinfoldlaw20.RuleNone", spec := "ruleNone", inPlace := ["sync/atomic.AddInt64", "internal/bytealg.CountString", "internal/bytealg.IndexByteString", "internal/bytealg.IndexString"], unfollowed := true, recurses := true, named := ["unicode/utf8.first", "unicode/utf8.acceptRanges", "internal/bytealg.MaxLen"], apart := false, laid := [("unicode/utf8.acceptRanges", laid_unicode_utf8_acceptRanges), ("unicode/utf8.first", laid_unicode_utf8_first)], narrowed := true }
def RuleNoneUptoSaid : Prop := ruleNoneUptoRow.holds Tryd.pinned (OpenSpec.upto ruleNoneSpec)

/-- 'pinfoldlaw18.WalkLoops', WHERE WHAT IT READS IS OF BULK AT MOST 1048576: true; the input reads as it did. -/
def walkLoopsUptoRow : OpenClaim := { program := "ytmibhogaoakcaaadoor", sum := "f4e26557cc189328c1d84bffeb150aa5da1fbf70fd01d45d4646d1094d0e1dc6", func := "pinfold/pinfoldlaw18.WalkLoops", spec := "walkLoops", inPlace := ["sync/atomic.AddInt64", "internal/bytealg.CountString", "internal/bytealg.IndexByteString", "internal/bytealg.IndexString", "internal/abi.NoEscape", "internal/bytealg.MakeNoZero"], unfollowed := true, recurses := true, named := ["unicode/utf8.first", "unicode/utf8.acceptRanges", "internal/bytealg.MaxLen"], apart := false, laid := [("unicode/utf8.acceptRanges", laid_unicode_utf8_acceptRanges), ("unicode/utf8.first", laid_unicode_utf8_first)], narrowed := true }
def WalkLoopsUptoSaid : Prop := walkLoopsUptoRow.holds Tryd.pinned (OpenSpec.upto walkLoopsSpec)

/-- 'pinfoldlaw19.VfsNone', WHERE WHAT IT READS IS OF BULK AT MOST 1048576: true; the input reads as it did. -/
def vfsNoneUptoRow : OpenClaim := { program := "ytmibhogaoakcaaadoor", sum := "f4e26557cc189328c1d84bffeb150aa5da1fbf70fd01d45d4646d1094d0e1dc6", func := "pinfold/pinfoldlaw19.VfsNone", spec := "vfsNone", inPlace := ["internal/bytealg.CountString", "internal/bytealg.IndexByteString", "internal/bytealg.IndexString", "sync/atomic.AddInt64"], unfollowed := true, recurses := true, named := ["unicode/utf8.first", "unicode/utf8.acceptRanges", "internal/bytealg.MaxLen"], apart := false, laid := [("unicode/utf8.acceptRanges", laid_unicode_utf8_acceptRanges), ("unicode/utf8.first", laid_unicode_utf8_first)], narrowed := true }
def VfsNoneUptoSaid : Prop := vfsNoneUptoRow.holds Tryd.pinned (OpenSpec.upto vfsNoneSpec)

/-- 'pinfoldlaw19.VfsBinds', WHERE WHAT IT READS IS OF BULK AT MOST 1048576: true; the input reads as it did. -/
def vfsBindsUptoRow : OpenClaim := { program := "ytmibhogaoakcaaadoor", sum := "f4e26557cc189328c1d84bffeb150aa5da1fbf70fd01d45d4646d1094d0e1dc6", func := "pinfold/pinfoldlaw19.VfsBinds", spec := "vfsBinds", inPlace := ["internal/bytealg.CountString", "internal/bytealg.IndexByteString", "internal/bytealg.IndexString", "sync/atomic.AddInt64"], unfollowed := true, recurses := true, named := ["unicode/utf8.first", "unicode/utf8.acceptRanges", "internal/bytealg.MaxLen"], apart := false, laid := [("unicode/utf8.acceptRanges", laid_unicode_utf8_acceptRanges), ("unicode/utf8.first", laid_unicode_utf8_first)], narrowed := true }
def VfsBindsUptoSaid : Prop := vfsBindsUptoRow.holds Tryd.pinned (OpenSpec.upto vfsBindsSpec)

end Rows
end Go.Proofs.YtmibhogaoakcaaaDoor
