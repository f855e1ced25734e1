/-
  NARROWER THAN 'FOR EVERY INPUT', by the rows' own cells (each row's printed sentence says how): RuleGrants: laid · DomainOrder: laid · RuleSame: laid · DomainSums: laid · VfsRight: laid · WalkAbove: laid · WalkBack: laid · VfsPlays: laid.
  DERIVED. THE GIVEN ROWS OF THIS SEAT. 8 by the template 'for every input the law returns true; each argument reads behind the call as it read before'; 0 by the template 'total and deterministic' (their statements: YtgeenpollgalkaaGreatDoorTotals.lean).
  GIVEN WITH THE SEED: the statements are not yours to turn. If you find one false, say at which input.
  Laid BY PROGRAM, IN A SANDBOX (cutbox-rows.mjs): the forced cells as the released guide's own fill.sh prints them over the translation 81c320092eb87d0c… (all of the seat's roots in one cut). By AI agents, Wed Nov 11 2026. No macro, syntax, notation, axiom, sorry.
-/
import Derived.Test.YtgeenpollgalkaaGreatDoorChecked
import GoSem.PinnedTables
import GoSem.Claim
import GoSem.ClaimJoined
import GoSem.ClaimMapViews
import Derived.JoinedTies
import Derived.KernelRfl
namespace Go.Proofs.YtgeenpollgalkaaGreatDoor
/- THE CELL 'sum', in the pinned program and in every row, IS THE sha256 OF THE DUMP (.gsa) THAT YtgeenpollgalkaaGreatDoorProg.lean LOADS. Nothing in Lean hashes anything: it is a label: what it is worth is what the hold of that sum in a sandbox is worth. -/
noncomputable def Tryz.pinned : Pinned := { name := "ytgeenpollgalkaagreatdoor", sum := "81c320092eb87d0c8d85552a661eec8ed5e6619746386673e00e25662d400c9a", checked := Tryz.checked }
namespace Rows
def none {H : Type} : Left H := { results := [], args := [] }

/- WHAT THE LISTED PACKAGE-LEVEL VARIABLES READ AS WHEN THE CALL BEGINS. Each datum BY PROGRAM (the guide's laid-datum.mjs) off the statement by which the dump's own 'gosem.cut.vars' lays the variable. In a bare row this is a premise. The card (YtgeenpollgalkaaGreatDoorCards.lean) ties it to the program's text. -/
def laid_unicode_utf8_acceptRanges {H : Type} : DataW H := .agg [.agg [.lit (.int .u8 128), .lit (.int .u8 191)], .agg [.lit (.int .u8 160), .lit (.int .u8 191)], .agg [.lit (.int .u8 128), .lit (.int .u8 159)], .agg [.lit (.int .u8 144), .lit (.int .u8 191)], .agg [.lit (.int .u8 128), .lit (.int .u8 143)], .agg [.lit (.int .u8 0), .lit (.int .u8 0)], .agg [.lit (.int .u8 0), .lit (.int .u8 0)], .agg [.lit (.int .u8 0), .lit (.int .u8 0)], .agg [.lit (.int .u8 0), .lit (.int .u8 0)], .agg [.lit (.int .u8 0), .lit (.int .u8 0)], .agg [.lit (.int .u8 0), .lit (.int .u8 0)], .agg [.lit (.int .u8 0), .lit (.int .u8 0)], .agg [.lit (.int .u8 0), .lit (.int .u8 0)], .agg [.lit (.int .u8 0), .lit (.int .u8 0)], .agg [.lit (.int .u8 0), .lit (.int .u8 0)], .agg [.lit (.int .u8 0), .lit (.int .u8 0)]]
/-- One of Go's own tables, pinned by name: the form's constant. -/
def laid_unicode_utf8_first : DataW Unit := Go.Pinned.utf8First

/-- 'pinfoldlaw20.RuleGrants': WHATEVER THE INPUT: true; the input reads as it did. -/
def ruleGrantsSpec : ChangeSpec := { name := "ruleGrants", fn := fun _ => fun
  | [d1, d2, d3, d4, d5] => { results := [.lit (.bool true)], args := [d1, d2, d3, d4, d5] }
  | _ => none }
def ruleGrantsRow : OpenClaim := { program := "ytgeenpollgalkaagreatdoor", sum := "81c320092eb87d0c8d85552a661eec8ed5e6619746386673e00e25662d400c9a", func := "pinfold/pinfoldlaw20.RuleGrants", spec := "ruleGrants", inPlace := ["sync/atomic.AddInt64", "internal/bytealg.CountString", "internal/bytealg.IndexByteString", "internal/bytealg.IndexString"], unfollowed := true, recurses := true, named := ["unicode/utf8.first", "unicode/utf8.acceptRanges", "internal/bytealg.MaxLen"], apart := false, laid := [("unicode/utf8.acceptRanges", laid_unicode_utf8_acceptRanges), ("unicode/utf8.first", laid_unicode_utf8_first)] }
def RuleGrantsSaid : Prop := ruleGrantsRow.holds Tryz.pinned (OpenSpec.ofChange ruleGrantsSpec)

/-- ITS FALSE NEIGHBOUR: 'it returns false'. Refute it at one input. -/
def ruleGrantsWrong : ChangeSpec := { name := "ruleGrants", fn := fun _ => fun
  | [d1, d2, d3, d4, d5] => { results := [.lit (.bool false)], args := [d1, d2, d3, d4, d5] }
  | _ => none }
def RuleGrantsWrongFalsely : Prop := ruleGrantsRow.holds Tryz.pinned (OpenSpec.ofChange ruleGrantsWrong)

/-- 'pinfoldlaw21.DomainOrder': WHATEVER THE INPUT: true; the input reads as it did. -/
def domainOrderSpec : ChangeSpec := { name := "domainOrder", fn := fun _ => fun
  | [d1, d2, d3, d4, d5, d6] => { results := [.lit (.bool true)], args := [d1, d2, d3, d4, d5, d6] }
  | _ => none }
def domainOrderRow : OpenClaim := { program := "ytgeenpollgalkaagreatdoor", sum := "81c320092eb87d0c8d85552a661eec8ed5e6619746386673e00e25662d400c9a", func := "pinfold/pinfoldlaw21.DomainOrder", spec := "domainOrder", inPlace := ["sync/atomic.AddInt64", "internal/bytealg.CountString", "internal/bytealg.IndexByteString", "internal/bytealg.IndexString"], unfollowed := true, recurses := true, named := ["unicode/utf8.first", "unicode/utf8.acceptRanges", "internal/bytealg.MaxLen"], apart := false, laid := [("unicode/utf8.acceptRanges", laid_unicode_utf8_acceptRanges), ("unicode/utf8.first", laid_unicode_utf8_first)] }
def DomainOrderSaid : Prop := domainOrderRow.holds Tryz.pinned (OpenSpec.ofChange domainOrderSpec)

/-- ITS FALSE NEIGHBOUR: 'it returns false'. Refute it at one input. -/
def domainOrderWrong : ChangeSpec := { name := "domainOrder", fn := fun _ => fun
  | [d1, d2, d3, d4, d5, d6] => { results := [.lit (.bool false)], args := [d1, d2, d3, d4, d5, d6] }
  | _ => none }
def DomainOrderWrongFalsely : Prop := domainOrderRow.holds Tryz.pinned (OpenSpec.ofChange domainOrderWrong)

/-- 'pinfoldlaw20.RuleSame': WHATEVER THE INPUT: true; the input reads as it did. -/
def ruleSameSpec : ChangeSpec := { name := "ruleSame", fn := fun _ => fun
  | [d1, d2, d3] => { results := [.lit (.bool true)], args := [d1, d2, d3] }
  | _ => none }
def ruleSameRow : OpenClaim := { program := "ytgeenpollgalkaagreatdoor", sum := "81c320092eb87d0c8d85552a661eec8ed5e6619746386673e00e25662d400c9a", func := "pinfold/pinfoldlaw20.RuleSame", spec := "ruleSame", inPlace := ["sync/atomic.AddInt64", "internal/bytealg.CountString", "internal/bytealg.IndexByteString", "internal/bytealg.IndexString"], unfollowed := true, recurses := true, named := ["unicode/utf8.first", "unicode/utf8.acceptRanges", "internal/bytealg.MaxLen"], apart := false, laid := [("unicode/utf8.acceptRanges", laid_unicode_utf8_acceptRanges), ("unicode/utf8.first", laid_unicode_utf8_first)] }
def RuleSameSaid : Prop := ruleSameRow.holds Tryz.pinned (OpenSpec.ofChange ruleSameSpec)

/-- ITS FALSE NEIGHBOUR: 'it returns false'. Refute it at one input. -/
def ruleSameWrong : ChangeSpec := { name := "ruleSame", fn := fun _ => fun
  | [d1, d2, d3] => { results := [.lit (.bool false)], args := [d1, d2, d3] }
  | _ => none }
def RuleSameWrongFalsely : Prop := ruleSameRow.holds Tryz.pinned (OpenSpec.ofChange ruleSameWrong)

/-- 'pinfoldlaw21.DomainSums': WHATEVER THE INPUT: true; the input reads as it did. -/
def domainSumsSpec : ChangeSpec := { name := "domainSums", fn := fun _ => fun
  | [d1, d2, d3] => { results := [.lit (.bool true)], args := [d1, d2, d3] }
  | _ => none }
def domainSumsRow : OpenClaim := { program := "ytgeenpollgalkaagreatdoor", sum := "81c320092eb87d0c8d85552a661eec8ed5e6619746386673e00e25662d400c9a", func := "pinfold/pinfoldlaw21.DomainSums", spec := "domainSums", inPlace := ["sync/atomic.AddInt64", "internal/bytealg.CountString", "internal/bytealg.IndexByteString", "internal/bytealg.IndexString"], unfollowed := true, recurses := true, named := ["unicode/utf8.first", "unicode/utf8.acceptRanges", "internal/bytealg.MaxLen"], apart := false, laid := [("unicode/utf8.acceptRanges", laid_unicode_utf8_acceptRanges), ("unicode/utf8.first", laid_unicode_utf8_first)] }
def DomainSumsSaid : Prop := domainSumsRow.holds Tryz.pinned (OpenSpec.ofChange domainSumsSpec)

/-- ITS FALSE NEIGHBOUR: 'it returns false'. Refute it at one input. -/
def domainSumsWrong : ChangeSpec := { name := "domainSums", fn := fun _ => fun
  | [d1, d2, d3] => { results := [.lit (.bool false)], args := [d1, d2, d3] }
  | _ => none }
def DomainSumsWrongFalsely : Prop := domainSumsRow.holds Tryz.pinned (OpenSpec.ofChange domainSumsWrong)

/-- 'pinfoldlaw19.VfsRight': WHATEVER THE INPUT: true; the input reads as it did. -/
def vfsRightSpec : ChangeSpec := { name := "vfsRight", fn := fun _ => fun
  | [d1, d2, d3] => { results := [.lit (.bool true)], args := [d1, d2, d3] }
  | _ => none }
def vfsRightRow : OpenClaim := { program := "ytgeenpollgalkaagreatdoor", sum := "81c320092eb87d0c8d85552a661eec8ed5e6619746386673e00e25662d400c9a", func := "pinfold/pinfoldlaw19.VfsRight", spec := "vfsRight", inPlace := ["internal/bytealg.CountString", "internal/bytealg.IndexByteString", "internal/bytealg.IndexString", "sync/atomic.AddInt64"], unfollowed := true, recurses := true, named := ["unicode/utf8.first", "unicode/utf8.acceptRanges", "internal/bytealg.MaxLen"], apart := false, laid := [("unicode/utf8.acceptRanges", laid_unicode_utf8_acceptRanges), ("unicode/utf8.first", laid_unicode_utf8_first)] }
def VfsRightSaid : Prop := vfsRightRow.holds Tryz.pinned (OpenSpec.ofChange vfsRightSpec)

/-- ITS FALSE NEIGHBOUR: 'it returns false'. Refute it at one input. -/
def vfsRightWrong : ChangeSpec := { name := "vfsRight", fn := fun _ => fun
  | [d1, d2, d3] => { results := [.lit (.bool false)], args := [d1, d2, d3] }
  | _ => none }
def VfsRightWrongFalsely : Prop := vfsRightRow.holds Tryz.pinned (OpenSpec.ofChange vfsRightWrong)

/-- 'pinfoldlaw18.WalkAbove': WHATEVER THE INPUT: true; the input reads as it did. -/
def walkAboveSpec : ChangeSpec := { name := "walkAbove", fn := fun _ => fun
  | [d1, d2] => { results := [.lit (.bool true)], args := [d1, d2] }
  | _ => none }
def walkAboveRow : OpenClaim := { program := "ytgeenpollgalkaagreatdoor", sum := "81c320092eb87d0c8d85552a661eec8ed5e6619746386673e00e25662d400c9a", func := "pinfold/pinfoldlaw18.WalkAbove", spec := "walkAbove", inPlace := ["sync/atomic.AddInt64", "internal/bytealg.CountString", "internal/bytealg.IndexByteString", "internal/bytealg.IndexString", "internal/abi.NoEscape", "internal/bytealg.MakeNoZero"], unfollowed := true, recurses := true, named := ["unicode/utf8.first", "unicode/utf8.acceptRanges", "internal/bytealg.MaxLen"], apart := false, laid := [("unicode/utf8.acceptRanges", laid_unicode_utf8_acceptRanges), ("unicode/utf8.first", laid_unicode_utf8_first)] }
def WalkAboveSaid : Prop := walkAboveRow.holds Tryz.pinned (OpenSpec.ofChange walkAboveSpec)

/-- ITS FALSE NEIGHBOUR: 'it returns false'. Refute it at one input. -/
def walkAboveWrong : ChangeSpec := { name := "walkAbove", fn := fun _ => fun
  | [d1, d2] => { results := [.lit (.bool false)], args := [d1, d2] }
  | _ => none }
def WalkAboveWrongFalsely : Prop := walkAboveRow.holds Tryz.pinned (OpenSpec.ofChange walkAboveWrong)

/-- 'pinfoldlaw18.WalkBack': WHATEVER THE INPUT: true; the input reads as it did. -/
def walkBackSpec : ChangeSpec := { name := "walkBack", fn := fun _ => fun
  | [d1, d2] => { results := [.lit (.bool true)], args := [d1, d2] }
  | _ => none }
def walkBackRow : OpenClaim := { program := "ytgeenpollgalkaagreatdoor", sum := "81c320092eb87d0c8d85552a661eec8ed5e6619746386673e00e25662d400c9a", func := "pinfold/pinfoldlaw18.WalkBack", spec := "walkBack", inPlace := ["sync/atomic.AddInt64", "internal/bytealg.CountString", "internal/bytealg.IndexByteString", "internal/bytealg.IndexString", "internal/abi.NoEscape", "internal/bytealg.MakeNoZero"], unfollowed := true, recurses := true, named := ["unicode/utf8.first", "unicode/utf8.acceptRanges", "internal/bytealg.MaxLen"], apart := false, laid := [("unicode/utf8.acceptRanges", laid_unicode_utf8_acceptRanges), ("unicode/utf8.first", laid_unicode_utf8_first)] }
def WalkBackSaid : Prop := walkBackRow.holds Tryz.pinned (OpenSpec.ofChange walkBackSpec)

/-- ITS FALSE NEIGHBOUR: 'it returns false'. Refute it at one input. -/
def walkBackWrong : ChangeSpec := { name := "walkBack", fn := fun _ => fun
  | [d1, d2] => { results := [.lit (.bool false)], args := [d1, d2] }
  | _ => none }
def WalkBackWrongFalsely : Prop := walkBackRow.holds Tryz.pinned (OpenSpec.ofChange walkBackWrong)

/-- 'pinfoldlaw19.VfsPlays': WHATEVER THE INPUT: true; the input reads as it did. -/
def vfsPlaysSpec : ChangeSpec := { name := "vfsPlays", fn := fun _ => fun
  | [d1, d2] => { results := [.lit (.bool true)], args := [d1, d2] }
  | _ => none }
def vfsPlaysRow : OpenClaim := { program := "ytgeenpollgalkaagreatdoor", sum := "81c320092eb87d0c8d85552a661eec8ed5e6619746386673e00e25662d400c9a", func := "pinfold/pinfoldlaw19.VfsPlays", spec := "vfsPlays", inPlace := ["internal/bytealg.CountString", "internal/bytealg.IndexByteString", "internal/bytealg.IndexString", "sync/atomic.AddInt64"], unfollowed := true, recurses := true, named := ["unicode/utf8.first", "unicode/utf8.acceptRanges", "internal/bytealg.MaxLen"], apart := false, laid := [("unicode/utf8.acceptRanges", laid_unicode_utf8_acceptRanges), ("unicode/utf8.first", laid_unicode_utf8_first)] }
def VfsPlaysSaid : Prop := vfsPlaysRow.holds Tryz.pinned (OpenSpec.ofChange vfsPlaysSpec)

/-- ITS FALSE NEIGHBOUR: 'it returns false'. Refute it at one input. -/
def vfsPlaysWrong : ChangeSpec := { name := "vfsPlays", fn := fun _ => fun
  | [d1, d2] => { results := [.lit (.bool false)], args := [d1, d2] }
  | _ => none }
def VfsPlaysWrongFalsely : Prop := vfsPlaysRow.holds Tryz.pinned (OpenSpec.ofChange vfsPlaysWrong)

/- THE SECOND FORM. 'bulk': how many values and letters a reading holds, each counted each time it is reached (what is shared counts as often as it is met; a slice's spare places count too). A statement '..UptoSaid' is the law's where the arguments, and the package variables that the reading takes, are together of bulk at most 1048576: NARROWER than '..Said'. Prove '..Said' where nothing that the law and all that it calls make is longer than what came in: it says more and counts as full. Else prove '..UptoSaid'. A law counts once. -/
mutual
def uptoBulk {H : Type} : DataW H → Nat
  | .lit (.string bytes) => bytes.length + 1
  | .lit _ => 1
  | .nil => 1
  | .ptr d => uptoBulk d + 1
  | .slice elems spare => uptoBulkAll elems + uptoBulkAll spare + 1
  | .agg parts => uptoBulkAll parts + 1
  | .iface _ d => uptoBulk d + 1
  | .map entries => uptoBulkEntries entries + 1
  | .held _ => 1
def uptoBulkAll {H : Type} : List (DataW H) → Nat
  | [] => 0
  | d :: r => uptoBulk d + uptoBulkAll r
def uptoBulkEntries {H : Type} : List (Lit × DataW H) → Nat
  | [] => 0
  | x :: r => uptoBulkEntry x + uptoBulkEntries r
def uptoBulkEntry {H : Type} : Lit × DataW H → Nat
  | (.string bytes, d) => bytes.length + uptoBulk d + 1
  | (_, d) => uptoBulk d + 1
 end
def uptoSmall : (H : Type) → List (DataW H) → Bool := fun _ ds => decide (uptoBulkAll ds ≤ 1048576)
def OpenSpec.upto (s : _root_.Go.ChangeSpec) : _root_.Go.OpenSpec := { _root_.Go.OpenSpec.ofChange s with cond := some uptoSmall }

/-- 'pinfoldlaw20.RuleGrants', WHERE WHAT IT READS IS OF BULK AT MOST 1048576: true; the input reads as it did. -/
def ruleGrantsUptoRow : OpenClaim := { program := "ytgeenpollgalkaagreatdoor", sum := "81c320092eb87d0c8d85552a661eec8ed5e6619746386673e00e25662d400c9a", func := "pinfold/pinfoldlaw20.RuleGrants", spec := "ruleGrants", inPlace := ["sync/atomic.AddInt64", "internal/bytealg.CountString", "internal/bytealg.IndexByteString", "internal/bytealg.IndexString"], unfollowed := true, recurses := true, named := ["unicode/utf8.first", "unicode/utf8.acceptRanges", "internal/bytealg.MaxLen"], apart := false, laid := [("unicode/utf8.acceptRanges", laid_unicode_utf8_acceptRanges), ("unicode/utf8.first", laid_unicode_utf8_first)], narrowed := true }
def RuleGrantsUptoSaid : Prop := ruleGrantsUptoRow.holds Tryz.pinned (OpenSpec.upto ruleGrantsSpec)

/-- 'pinfoldlaw21.DomainOrder', WHERE WHAT IT READS IS OF BULK AT MOST 1048576: true; the input reads as it did. -/
def domainOrderUptoRow : OpenClaim := { program := "ytgeenpollgalkaagreatdoor", sum := "81c320092eb87d0c8d85552a661eec8ed5e6619746386673e00e25662d400c9a", func := "pinfold/pinfoldlaw21.DomainOrder", spec := "domainOrder", inPlace := ["sync/atomic.AddInt64", "internal/bytealg.CountString", "internal/bytealg.IndexByteString", "internal/bytealg.IndexString"], unfollowed := true, recurses := true, named := ["unicode/utf8.first", "unicode/utf8.acceptRanges", "internal/bytealg.MaxLen"], apart := false, laid := [("unicode/utf8.acceptRanges", laid_unicode_utf8_acceptRanges), ("unicode/utf8.first", laid_unicode_utf8_first)], narrowed := true }
def DomainOrderUptoSaid : Prop := domainOrderUptoRow.holds Tryz.pinned (OpenSpec.upto domainOrderSpec)

/-- 'pinfoldlaw20.RuleSame', WHERE WHAT IT READS IS OF BULK AT MOST 1048576: true; the input reads as it did. -/
def ruleSameUptoRow : OpenClaim := { program := "ytgeenpollgalkaagreatdoor", sum := "81c320092eb87d0c8d85552a661eec8ed5e6619746386673e00e25662d400c9a", func := "pinfold/pinfoldlaw20.RuleSame", spec := "ruleSame", inPlace := ["sync/atomic.AddInt64", "internal/bytealg.CountString", "internal/bytealg.IndexByteString", "internal/bytealg.IndexString"], unfollowed := true, recurses := true, named := ["unicode/utf8.first", "unicode/utf8.acceptRanges", "internal/bytealg.MaxLen"], apart := false, laid := [("unicode/utf8.acceptRanges", laid_unicode_utf8_acceptRanges), ("unicode/utf8.first", laid_unicode_utf8_first)], narrowed := true }
def RuleSameUptoSaid : Prop := ruleSameUptoRow.holds Tryz.pinned (OpenSpec.upto ruleSameSpec)

/-- 'pinfoldlaw21.DomainSums', WHERE WHAT IT READS IS OF BULK AT MOST 1048576: true; the input reads as it did. -/
def domainSumsUptoRow : OpenClaim := { program := "ytgeenpollgalkaagreatdoor", sum := "81c320092eb87d0c8d85552a661eec8ed5e6619746386673e00e25662d400c9a", func := "pinfold/pinfoldlaw21.DomainSums", spec := "domainSums", inPlace := ["sync/atomic.AddInt64", "internal/bytealg.CountString", "internal/bytealg.IndexByteString", "internal/bytealg.IndexString"], unfollowed := true, recurses := true, named := ["unicode/utf8.first", "unicode/utf8.acceptRanges", "internal/bytealg.MaxLen"], apart := false, laid := [("unicode/utf8.acceptRanges", laid_unicode_utf8_acceptRanges), ("unicode/utf8.first", laid_unicode_utf8_first)], narrowed := true }
def DomainSumsUptoSaid : Prop := domainSumsUptoRow.holds Tryz.pinned (OpenSpec.upto domainSumsSpec)

/-- 'pinfoldlaw19.VfsRight', WHERE WHAT IT READS IS OF BULK AT MOST 1048576: true; the input reads as it did. -/
def vfsRightUptoRow : OpenClaim := { program := "ytgeenpollgalkaagreatdoor", sum := "81c320092eb87d0c8d85552a661eec8ed5e6619746386673e00e25662d400c9a", func := "pinfold/pinfoldlaw19.VfsRight", spec := "vfsRight", inPlace := ["internal/bytealg.CountString", "internal/bytealg.IndexByteString", "internal/bytealg.IndexString", "sync/atomic.AddInt64"], unfollowed := true, recurses := true, named := ["unicode/utf8.first", "unicode/utf8.acceptRanges", "internal/bytealg.MaxLen"], apart := false, laid := [("unicode/utf8.acceptRanges", laid_unicode_utf8_acceptRanges), ("unicode/utf8.first", laid_unicode_utf8_first)], narrowed := true }
def VfsRightUptoSaid : Prop := vfsRightUptoRow.holds Tryz.pinned (OpenSpec.upto vfsRightSpec)

/-- 'pinfoldlaw18.WalkAbove', WHERE WHAT IT READS IS OF BULK AT MOST 1048576: true; the input reads as it did. -/
def walkAboveUptoRow : OpenClaim := { program := "ytgeenpollgalkaagreatdoor", sum := "81c320092eb87d0c8d85552a661eec8ed5e6619746386673e00e25662d400c9a", func := "pinfold/pinfoldlaw18.WalkAbove", spec := "walkAbove", inPlace := ["sync/atomic.AddInt64", "internal/bytealg.CountString", "internal/bytealg.IndexByteString", "internal/bytealg.IndexString", "internal/abi.NoEscape", "internal/bytealg.MakeNoZero"], unfollowed := true, recurses := true, named := ["unicode/utf8.first", "unicode/utf8.acceptRanges", "internal/bytealg.MaxLen"], apart := false, laid := [("unicode/utf8.acceptRanges", laid_unicode_utf8_acceptRanges), ("unicode/utf8.first", laid_unicode_utf8_first)], narrowed := true }
def WalkAboveUptoSaid : Prop := walkAboveUptoRow.holds Tryz.pinned (OpenSpec.upto walkAboveSpec)

/-- 'pinfoldlaw18.WalkBack', WHERE WHAT IT READS IS OF BULK AT MOST 1048576: true; the input reads as it did. -/
def walkBackUptoRow : OpenClaim := { program := "ytgeenpollgalkaagreatdoor", sum := "81c320092eb87d0c8d85552a661eec8ed5e6619746386673e00e25662d400c9a", func := "pinfold/pinfoldlaw18.WalkBack", spec := "walkBack", inPlace := ["sync/atomic.AddInt64", "internal/bytealg.CountString", "internal/bytealg.IndexByteString", "internal/bytealg.IndexString", "internal/abi.NoEscape", "internal/bytealg.MakeNoZero"], unfollowed := true, recurses := true, named := ["unicode/utf8.first", "unicode/utf8.acceptRanges", "internal/bytealg.MaxLen"], apart := false, laid := [("unicode/utf8.acceptRanges", laid_unicode_utf8_acceptRanges), ("unicode/utf8.first", laid_unicode_utf8_first)], narrowed := true }
def WalkBackUptoSaid : Prop := walkBackUptoRow.holds Tryz.pinned (OpenSpec.upto walkBackSpec)

/-- 'pinfoldlaw19.VfsPlays', WHERE WHAT IT READS IS OF BULK AT MOST 1048576: true; the input reads as it did. -/
def vfsPlaysUptoRow : OpenClaim := { program := "ytgeenpollgalkaagreatdoor", sum := "81c320092eb87d0c8d85552a661eec8ed5e6619746386673e00e25662d400c9a", func := "pinfold/pinfoldlaw19.VfsPlays", spec := "vfsPlays", inPlace := ["internal/bytealg.CountString", "internal/bytealg.IndexByteString", "internal/bytealg.IndexString", "sync/atomic.AddInt64"], unfollowed := true, recurses := true, named := ["unicode/utf8.first", "unicode/utf8.acceptRanges", "internal/bytealg.MaxLen"], apart := false, laid := [("unicode/utf8.acceptRanges", laid_unicode_utf8_acceptRanges), ("unicode/utf8.first", laid_unicode_utf8_first)], narrowed := true }
def VfsPlaysUptoSaid : Prop := vfsPlaysUptoRow.holds Tryz.pinned (OpenSpec.upto vfsPlaysSpec)

end Rows
end Go.Proofs.YtgeenpollgalkaaGreatDoor
