/-
  NARROWER THAN 'FOR EVERY INPUT', by the rows' own cells (each row's printed sentence says how): DomainGrows: laid · VfsNone: laid · VfsBinds: laid.
  DERIVED. THE GIVEN ROWS OF THIS SEAT. 3 by the template 'for every input the law returns true; each argument reads behind the call as it read before'; 0 by the template 'total and deterministic' (their statements: YtgeenpollgalkaaDoorTotals.lean).
  GIVEN WITH THE SEED: the statements are not yours to turn. If you find one false, say at which input.
  Laid BY PROGRAM, IN A SANDBOX (cutbox-rows.mjs): the forced cells as the released guide's own fill.sh prints them over the translation 5b52cca0f2c04936… (all of the seat's roots in one cut). By AI agents, Wed Nov 11 2026. No macro, syntax, notation, axiom, sorry.
-/
import Derived.Test.YtgeenpollgalkaaDoorChecked
import GoSem.PinnedTables
import GoSem.Claim
import GoSem.ClaimJoined
import GoSem.ClaimMapViews
import Derived.JoinedTies
import Derived.KernelRfl
namespace Go.Proofs.YtgeenpollgalkaaDoor
/- THE CELL 'sum', in the pinned program and in every row, IS THE sha256 OF THE DUMP (.gsa) THAT YtgeenpollgalkaaDoorProg.lean LOADS. Nothing in Lean hashes anything: it is a label: what it is worth is what the hold of that sum in a sandbox is worth. -/
noncomputable def Tryd.pinned : Pinned := { name := "ytgeenpollgalkaadoor", sum := "5b52cca0f2c04936be816635f3c87e598686f9136c84e7417e9943927d828a8c", checked := Tryd.checked }
namespace Rows
def none {H : Type} : Left H := { results := [], args := [] }

/- WHAT THE LISTED PACKAGE-LEVEL VARIABLES READ AS WHEN THE CALL BEGINS. Each datum BY PROGRAM (the guide's laid-datum.mjs) off the statement by which the dump's own 'gosem.cut.vars' lays the variable. In a bare row this is a premise. The card (YtgeenpollgalkaaDoorCards.lean) ties it to the program's text. -/
def laid_unicode_utf8_acceptRanges {H : Type} : DataW H := .agg [.agg [.lit (.int .u8 128), .lit (.int .u8 191)], .agg [.lit (.int .u8 160), .lit (.int .u8 191)], .agg [.lit (.int .u8 128), .lit (.int .u8 159)], .agg [.lit (.int .u8 144), .lit (.int .u8 191)], .agg [.lit (.int .u8 128), .lit (.int .u8 143)], .agg [.lit (.int .u8 0), .lit (.int .u8 0)], .agg [.lit (.int .u8 0), .lit (.int .u8 0)], .agg [.lit (.int .u8 0), .lit (.int .u8 0)], .agg [.lit (.int .u8 0), .lit (.int .u8 0)], .agg [.lit (.int .u8 0), .lit (.int .u8 0)], .agg [.lit (.int .u8 0), .lit (.int .u8 0)], .agg [.lit (.int .u8 0), .lit (.int .u8 0)], .agg [.lit (.int .u8 0), .lit (.int .u8 0)], .agg [.lit (.int .u8 0), .lit (.int .u8 0)], .agg [.lit (.int .u8 0), .lit (.int .u8 0)], .agg [.lit (.int .u8 0), .lit (.int .u8 0)]]
/-- One of Go's own tables, pinned by name: the form's constant. -/
def laid_unicode_utf8_first : DataW Unit := Go.Pinned.utf8First

/-- 'pinfoldlaw21.DomainGrows': WHATEVER THE INPUT: true; the input reads as it did. -/
def domainGrowsSpec : ChangeSpec := { name := "domainGrows", fn := fun _ => fun
  | [d1, d2] => { results := [.lit (.bool true)], args := [d1, d2] }
  | _ => none }
def domainGrowsRow : OpenClaim := { program := "ytgeenpollgalkaadoor", sum := "5b52cca0f2c04936be816635f3c87e598686f9136c84e7417e9943927d828a8c", func := "pinfold/pinfoldlaw21.DomainGrows", spec := "domainGrows", inPlace := ["sync/atomic.AddInt64", "internal/bytealg.CountString", "internal/bytealg.IndexByteString", "internal/bytealg.IndexString"], unfollowed := true, recurses := true, named := ["unicode/utf8.first", "unicode/utf8.acceptRanges", "internal/bytealg.MaxLen"], apart := false, laid := [("unicode/utf8.acceptRanges", laid_unicode_utf8_acceptRanges), ("unicode/utf8.first", laid_unicode_utf8_first)] }
def DomainGrowsSaid : Prop := domainGrowsRow.holds Tryd.pinned (OpenSpec.ofChange domainGrowsSpec)

/-- ITS FALSE NEIGHBOUR: 'it returns false'. Refute it at one input. -/
def domainGrowsWrong : ChangeSpec := { name := "domainGrows", fn := fun _ => fun
  | [d1, d2] => { results := [.lit (.bool false)], args := [d1, d2] }
  | _ => none }
def DomainGrowsWrongFalsely : Prop := domainGrowsRow.holds Tryd.pinned (OpenSpec.ofChange domainGrowsWrong)

/-- 'pinfoldlaw19.VfsNone': WHATEVER THE INPUT: true; the input reads as it did. -/
def vfsNoneSpec : ChangeSpec := { name := "vfsNone", fn := fun _ => fun
  | [d1, d2, d3, d4, d5, d6] => { results := [.lit (.bool true)], args := [d1, d2, d3, d4, d5, d6] }
  | _ => none }
def vfsNoneRow : OpenClaim := { program := "ytgeenpollgalkaadoor", sum := "5b52cca0f2c04936be816635f3c87e598686f9136c84e7417e9943927d828a8c", func := "pinfold/pinfoldlaw19.VfsNone", spec := "vfsNone", inPlace := ["internal/bytealg.CountString", "internal/bytealg.IndexByteString", "internal/bytealg.IndexString", "sync/atomic.AddInt64"], unfollowed := true, recurses := true, named := ["unicode/utf8.first", "unicode/utf8.acceptRanges", "internal/bytealg.MaxLen"], apart := false, laid := [("unicode/utf8.acceptRanges", laid_unicode_utf8_acceptRanges), ("unicode/utf8.first", laid_unicode_utf8_first)] }
def VfsNoneSaid : Prop := vfsNoneRow.holds Tryd.pinned (OpenSpec.ofChange vfsNoneSpec)

/-- ITS FALSE NEIGHBOUR: 'it returns false'. Refute it at one input. -/
def vfsNoneWrong : ChangeSpec := { name := "vfsNone", fn := fun _ => fun
  | [d1, d2, d3, d4, d5, d6] => { results := [.lit (.bool false)], args := [d1, d2, d3, d4, d5, d6] }
  | _ => none }
def VfsNoneWrongFalsely : Prop := vfsNoneRow.holds Tryd.pinned (OpenSpec.ofChange vfsNoneWrong)

/-- 'pinfoldlaw19.VfsBinds': WHATEVER THE INPUT: true; the input reads as it did. -/
def vfsBindsSpec : ChangeSpec := { name := "vfsBinds", fn := fun _ => fun
  | [d1, d2] => { results := [.lit (.bool true)], args := [d1, d2] }
  | _ => none }
def vfsBindsRow : OpenClaim := { program := "ytgeenpollgalkaadoor", sum := "5b52cca0f2c04936be816635f3c87e598686f9136c84e7417e9943927d828a8c", func := "pinfold/pinfoldlaw19.VfsBinds", spec := "vfsBinds", inPlace := ["internal/bytealg.CountString", "internal/bytealg.IndexByteString", "internal/bytealg.IndexString", "sync/atomic.AddInt64"], unfollowed := true, recurses := true, named := ["unicode/utf8.first", "unicode/utf8.acceptRanges", "internal/bytealg.MaxLen"], apart := false, laid := [("unicode/utf8.acceptRanges", laid_unicode_utf8_acceptRanges), ("unicode/utf8.first", laid_unicode_utf8_first)] }
def VfsBindsSaid : Prop := vfsBindsRow.holds Tryd.pinned (OpenSpec.ofChange vfsBindsSpec)

/-- ITS FALSE NEIGHBOUR: 'it returns false'. Refute it at one input. -/
def vfsBindsWrong : ChangeSpec := { name := "vfsBinds", fn := fun _ => fun
  | [d1, d2] => { results := [.lit (.bool false)], args := [d1, d2] }
  | _ => none }
def VfsBindsWrongFalsely : Prop := vfsBindsRow.holds Tryd.pinned (OpenSpec.ofChange vfsBindsWrong)

/- THE SECOND FORM. 'bulk': how many values and letters a reading holds, each counted each time it is reached (what is shared counts as often as it is met; a slice's spare places count too). A statement '..UptoSaid' is the law's where the arguments, and the package variables that the reading takes, are together of bulk at most 1048576: NARROWER than '..Said'. Prove '..Said' where nothing that the law and all that it calls make is longer than what came in: it says more and counts as full. Else prove '..UptoSaid'. A law counts once. -/
mutual
def uptoBulk {H : Type} : DataW H → Nat
  | .lit (.string bytes) => bytes.length + 1
  | .lit _ => 1
  | .nil => 1
  | .ptr d => uptoBulk d + 1
  | .slice elems spare => uptoBulkAll elems + uptoBulkAll spare + 1
  | .agg parts => uptoBulkAll parts + 1
  | .iface _ d => uptoBulk d + 1
  | .map entries => uptoBulkEntries entries + 1
  | .held _ => 1
def uptoBulkAll {H : Type} : List (DataW H) → Nat
  | [] => 0
  | d :: r => uptoBulk d + uptoBulkAll r
def uptoBulkEntries {H : Type} : List (Lit × DataW H) → Nat
  | [] => 0
  | x :: r => uptoBulkEntry x + uptoBulkEntries r
def uptoBulkEntry {H : Type} : Lit × DataW H → Nat
  | (.string bytes, d) => bytes.length + uptoBulk d + 1
  | (_, d) => uptoBulk d + 1
 end
def uptoSmall : (H : Type) → List (DataW H) → Bool := fun _ ds => decide (uptoBulkAll ds ≤ 1048576)
def OpenSpec.upto (s : _root_.Go.ChangeSpec) : _root_.Go.OpenSpec := { _root_.Go.OpenSpec.ofChange s with cond := some uptoSmall }

/-- 'pinfoldlaw21.DomainGrows', WHERE WHAT IT READS IS OF BULK AT MOST 1048576: true; the input reads as it did. -/
def domainGrowsUptoRow : OpenClaim := { program := "ytgeenpollgalkaadoor", sum := "5b52cca0f2c04936be816635f3c87e598686f9136c84e7417e9943927d828a8c", func := "pinfold/pinfoldlaw21.DomainGrows", spec := "domainGrows", inPlace := ["sync/atomic.AddInt64", "internal/bytealg.CountString", "internal/bytealg.IndexByteString", "internal/bytealg.IndexString"], unfollowed := true, recurses := true, named := ["unicode/utf8.first", "unicode/utf8.acceptRanges", "internal/bytealg.MaxLen"], apart := false, laid := [("unicode/utf8.acceptRanges", laid_unicode_utf8_acceptRanges), ("unicode/utf8.first", laid_unicode_utf8_first)], narrowed := true }
def DomainGrowsUptoSaid : Prop := domainGrowsUptoRow.holds Tryd.pinned (OpenSpec.upto domainGrowsSpec)

/-- 'pinfoldlaw19.VfsNone', WHERE WHAT IT READS IS OF BULK AT MOST 1048576: true; the input reads as it did. -/
def vfsNoneUptoRow : OpenClaim := { program := "ytgeenpollgalkaadoor", sum := "5b52cca0f2c04936be816635f3c87e598686f9136c84e7417e9943927d828a8c", func := "pinfold/pinfoldlaw19.VfsNone", spec := "vfsNone", inPlace := ["internal/bytealg.CountString", "internal/bytealg.IndexByteString", "internal/bytealg.IndexString", "sync/atomic.AddInt64"], unfollowed := true, recurses := true, named := ["unicode/utf8.first", "unicode/utf8.acceptRanges", "internal/bytealg.MaxLen"], apart := false, laid := [("unicode/utf8.acceptRanges", laid_unicode_utf8_acceptRanges), ("unicode/utf8.first", laid_unicode_utf8_first)], narrowed := true }
def VfsNoneUptoSaid : Prop := vfsNoneUptoRow.holds Tryd.pinned (OpenSpec.upto vfsNoneSpec)

/-- 'pinfoldlaw19.VfsBinds', WHERE WHAT IT READS IS OF BULK AT MOST 1048576: true; the input reads as it did. -/
def vfsBindsUptoRow : OpenClaim := { program := "ytgeenpollgalkaadoor", sum := "5b52cca0f2c04936be816635f3c87e598686f9136c84e7417e9943927d828a8c", func := "pinfold/pinfoldlaw19.VfsBinds", spec := "vfsBinds", inPlace := ["internal/bytealg.CountString", "internal/bytealg.IndexByteString", "internal/bytealg.IndexString", "sync/atomic.AddInt64"], unfollowed := true, recurses := true, named := ["unicode/utf8.first", "unicode/utf8.acceptRanges", "internal/bytealg.MaxLen"], apart := false, laid := [("unicode/utf8.acceptRanges", laid_unicode_utf8_acceptRanges), ("unicode/utf8.first", laid_unicode_utf8_first)], narrowed := true }
def VfsBindsUptoSaid : Prop := vfsBindsUptoRow.holds Tryd.pinned (OpenSpec.upto vfsBindsSpec)

end Rows
end Go.Proofs.YtgeenpollgalkaaDoor
