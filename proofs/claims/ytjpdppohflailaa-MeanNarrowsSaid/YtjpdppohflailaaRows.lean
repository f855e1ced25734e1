/-
  No cell of these rows narrows 'for every input' (looked for: loops, veiled, ifaces, maps, wideKeys, modest, calm, conditions, laid).
  DERIVED. THE GIVEN ROWS OF THIS SEAT. 11 by the template 'for every input the law returns true; each argument reads behind the call as it read before'; 0 by the template 'total and deterministic' (their statements: YtjpdppohflailaaTotals.lean).
  GIVEN WITH THE SEED: the statements are not yours to turn. If you find one false, say at which input.
  Laid BY PROGRAM, IN A SANDBOX (cutbox-rows.mjs): the forced cells as the released guide's own fill.sh prints them over the translation f22e042e1530ee9e… (all of the seat's roots in one cut). By AI agents, Wed Nov 11 2026. No macro, syntax, notation, axiom, sorry.
-/
import Derived.Test.YtjpdppohflailaaChecked
import GoSem.Claim
import GoSem.ClaimJoined
import GoSem.ClaimMapViews
import Derived.JoinedTies
import Derived.KernelRfl
namespace Go.Proofs.Ytjpdppohflailaa
/- THE CELL 'sum', in the pinned program and in every row, IS THE sha256 OF THE DUMP (.gsa) THAT YtjpdppohflailaaProg.lean LOADS. Nothing in Lean hashes anything: it is a label: what it is worth is what the hold of that sum in a sandbox is worth. -/
noncomputable def Try.pinned : Pinned := { name := "ytjpdppohflailaa", sum := "f22e042e1530ee9e97662ffe7704c7964a57082e371f5886a6356a01125aeef1", checked := Try.checked }
namespace Rows
def none {H : Type} : Left H := { results := [], args := [] }

/-- 'pinfoldlaw04.RecordOrder': WHATEVER THE INPUT: true; the input reads as it did. -/
def recordOrderSpec : ChangeSpec := { name := "recordOrder", fn := fun _ => fun
  | [d1, d2] => { results := [.lit (.bool true)], args := [d1, d2] }
  | _ => none }
def recordOrderRow : OpenClaim := { program := "ytjpdppohflailaa", sum := "f22e042e1530ee9e97662ffe7704c7964a57082e371f5886a6356a01125aeef1", func := "pinfold/pinfoldlaw04.RecordOrder", spec := "recordOrder", unfollowed := true, recurses := true, apart := false }
def RecordOrderSaid : Prop := recordOrderRow.holds Try.pinned (OpenSpec.ofChange recordOrderSpec)

/-- ITS FALSE NEIGHBOUR: 'it returns false'. Refute it at one input. -/
def recordOrderWrong : ChangeSpec := { name := "recordOrder", fn := fun _ => fun
  | [d1, d2] => { results := [.lit (.bool false)], args := [d1, d2] }
  | _ => none }
def RecordOrderWrongFalsely : Prop := recordOrderRow.holds Try.pinned (OpenSpec.ofChange recordOrderWrong)

/-- 'pinfoldlaw03.InsnKnown': WHATEVER THE INPUT: true; the input reads as it did. -/
def insnKnownSpec : ChangeSpec := { name := "insnKnown", fn := fun _ => fun
  | [d1, d2] => { results := [.lit (.bool true)], args := [d1, d2] }
  | _ => none }
def insnKnownRow : OpenClaim := { program := "ytjpdppohflailaa", sum := "f22e042e1530ee9e97662ffe7704c7964a57082e371f5886a6356a01125aeef1", func := "pinfold/pinfoldlaw03.InsnKnown", spec := "insnKnown", apart := false }
def InsnKnownSaid : Prop := insnKnownRow.holds Try.pinned (OpenSpec.ofChange insnKnownSpec)

/-- ITS FALSE NEIGHBOUR: 'it returns false'. Refute it at one input. -/
def insnKnownWrong : ChangeSpec := { name := "insnKnown", fn := fun _ => fun
  | [d1, d2] => { results := [.lit (.bool false)], args := [d1, d2] }
  | _ => none }
def InsnKnownWrongFalsely : Prop := insnKnownRow.holds Try.pinned (OpenSpec.ofChange insnKnownWrong)

/-- 'pinfoldlaw04.RecordActions': WHATEVER THE INPUT: true; the input reads as it did. -/
def recordActionsSpec : ChangeSpec := { name := "recordActions", fn := fun _ => fun
  | [d1, d2, d3, d4] => { results := [.lit (.bool true)], args := [d1, d2, d3, d4] }
  | _ => none }
def recordActionsRow : OpenClaim := { program := "ytjpdppohflailaa", sum := "f22e042e1530ee9e97662ffe7704c7964a57082e371f5886a6356a01125aeef1", func := "pinfold/pinfoldlaw04.RecordActions", spec := "recordActions", apart := false }
def RecordActionsSaid : Prop := recordActionsRow.holds Try.pinned (OpenSpec.ofChange recordActionsSpec)

/-- ITS FALSE NEIGHBOUR: 'it returns false'. Refute it at one input. -/
def recordActionsWrong : ChangeSpec := { name := "recordActions", fn := fun _ => fun
  | [d1, d2, d3, d4] => { results := [.lit (.bool false)], args := [d1, d2, d3, d4] }
  | _ => none }
def RecordActionsWrongFalsely : Prop := recordActionsRow.holds Try.pinned (OpenSpec.ofChange recordActionsWrong)

/-- 'pinfoldlaw03.InsnMakes': WHATEVER THE INPUT: true; the input reads as it did. -/
def insnMakesSpec : ChangeSpec := { name := "insnMakes", fn := fun _ => fun
  | [d1, d2, d3, d4] => { results := [.lit (.bool true)], args := [d1, d2, d3, d4] }
  | _ => none }
def insnMakesRow : OpenClaim := { program := "ytjpdppohflailaa", sum := "f22e042e1530ee9e97662ffe7704c7964a57082e371f5886a6356a01125aeef1", func := "pinfold/pinfoldlaw03.InsnMakes", spec := "insnMakes", apart := false }
def InsnMakesSaid : Prop := insnMakesRow.holds Try.pinned (OpenSpec.ofChange insnMakesSpec)

/-- ITS FALSE NEIGHBOUR: 'it returns false'. Refute it at one input. -/
def insnMakesWrong : ChangeSpec := { name := "insnMakes", fn := fun _ => fun
  | [d1, d2, d3, d4] => { results := [.lit (.bool false)], args := [d1, d2, d3, d4] }
  | _ => none }
def InsnMakesWrongFalsely : Prop := insnMakesRow.holds Try.pinned (OpenSpec.ofChange insnMakesWrong)

/-- 'pinfoldlaw03.InsnBytes': WHATEVER THE INPUT: true; the input reads as it did. -/
def insnBytesSpec : ChangeSpec := { name := "insnBytes", fn := fun _ => fun
  | [d1, d2, d3] => { results := [.lit (.bool true)], args := [d1, d2, d3] }
  | _ => none }
def insnBytesRow : OpenClaim := { program := "ytjpdppohflailaa", sum := "f22e042e1530ee9e97662ffe7704c7964a57082e371f5886a6356a01125aeef1", func := "pinfold/pinfoldlaw03.InsnBytes", spec := "insnBytes", apart := false }
def InsnBytesSaid : Prop := insnBytesRow.holds Try.pinned (OpenSpec.ofChange insnBytesSpec)

/-- ITS FALSE NEIGHBOUR: 'it returns false'. Refute it at one input. -/
def insnBytesWrong : ChangeSpec := { name := "insnBytes", fn := fun _ => fun
  | [d1, d2, d3] => { results := [.lit (.bool false)], args := [d1, d2, d3] }
  | _ => none }
def InsnBytesWrongFalsely : Prop := insnBytesRow.holds Try.pinned (OpenSpec.ofChange insnBytesWrong)

/-- 'pinfoldlaw04.RecordBytes': WHATEVER THE INPUT: true; the input reads as it did. -/
def recordBytesSpec : ChangeSpec := { name := "recordBytes", fn := fun _ => fun
  | [d1, d2, d3] => { results := [.lit (.bool true)], args := [d1, d2, d3] }
  | _ => none }
def recordBytesRow : OpenClaim := { program := "ytjpdppohflailaa", sum := "f22e042e1530ee9e97662ffe7704c7964a57082e371f5886a6356a01125aeef1", func := "pinfold/pinfoldlaw04.RecordBytes", spec := "recordBytes", apart := false }
def RecordBytesSaid : Prop := recordBytesRow.holds Try.pinned (OpenSpec.ofChange recordBytesSpec)

/-- ITS FALSE NEIGHBOUR: 'it returns false'. Refute it at one input. -/
def recordBytesWrong : ChangeSpec := { name := "recordBytes", fn := fun _ => fun
  | [d1, d2, d3] => { results := [.lit (.bool false)], args := [d1, d2, d3] }
  | _ => none }
def RecordBytesWrongFalsely : Prop := recordBytesRow.holds Try.pinned (OpenSpec.ofChange recordBytesWrong)

/-- 'pinfoldlaw04.RecordHalves': WHATEVER THE INPUT: true; the input reads as it did. -/
def recordHalvesSpec : ChangeSpec := { name := "recordHalves", fn := fun _ => fun
  | [d1, d2] => { results := [.lit (.bool true)], args := [d1, d2] }
  | _ => none }
def recordHalvesRow : OpenClaim := { program := "ytjpdppohflailaa", sum := "f22e042e1530ee9e97662ffe7704c7964a57082e371f5886a6356a01125aeef1", func := "pinfold/pinfoldlaw04.RecordHalves", spec := "recordHalves", apart := false }
def RecordHalvesSaid : Prop := recordHalvesRow.holds Try.pinned (OpenSpec.ofChange recordHalvesSpec)

/-- ITS FALSE NEIGHBOUR: 'it returns false'. Refute it at one input. -/
def recordHalvesWrong : ChangeSpec := { name := "recordHalves", fn := fun _ => fun
  | [d1, d2] => { results := [.lit (.bool false)], args := [d1, d2] }
  | _ => none }
def RecordHalvesWrongFalsely : Prop := recordHalvesRow.holds Try.pinned (OpenSpec.ofChange recordHalvesWrong)

/-- 'pinfoldlaw11.MeanSays': WHATEVER THE INPUT: true; the input reads as it did. -/
def meanSaysSpec : ChangeSpec := { name := "meanSays", fn := fun _ => fun
  | [d1, d2, d3, d4] => { results := [.lit (.bool true)], args := [d1, d2, d3, d4] }
  | _ => none }
def meanSaysRow : OpenClaim := { program := "ytjpdppohflailaa", sum := "f22e042e1530ee9e97662ffe7704c7964a57082e371f5886a6356a01125aeef1", func := "pinfold/pinfoldlaw11.MeanSays", spec := "meanSays", unfollowed := true, recurses := true, apart := false }
def MeanSaysSaid : Prop := meanSaysRow.holds Try.pinned (OpenSpec.ofChange meanSaysSpec)

/-- ITS FALSE NEIGHBOUR: 'it returns false'. Refute it at one input. -/
def meanSaysWrong : ChangeSpec := { name := "meanSays", fn := fun _ => fun
  | [d1, d2, d3, d4] => { results := [.lit (.bool false)], args := [d1, d2, d3, d4] }
  | _ => none }
def MeanSaysWrongFalsely : Prop := meanSaysRow.holds Try.pinned (OpenSpec.ofChange meanSaysWrong)

/-- 'pinfoldlaw11.MeanNarrows': WHATEVER THE INPUT: true; the input reads as it did. -/
def meanNarrowsSpec : ChangeSpec := { name := "meanNarrows", fn := fun _ => fun
  | [d1, d2, d3, d4] => { results := [.lit (.bool true)], args := [d1, d2, d3, d4] }
  | _ => none }
def meanNarrowsRow : OpenClaim := { program := "ytjpdppohflailaa", sum := "f22e042e1530ee9e97662ffe7704c7964a57082e371f5886a6356a01125aeef1", func := "pinfold/pinfoldlaw11.MeanNarrows", spec := "meanNarrows", unfollowed := true, recurses := true, apart := false }
def MeanNarrowsSaid : Prop := meanNarrowsRow.holds Try.pinned (OpenSpec.ofChange meanNarrowsSpec)

/-- ITS FALSE NEIGHBOUR: 'it returns false'. Refute it at one input. -/
def meanNarrowsWrong : ChangeSpec := { name := "meanNarrows", fn := fun _ => fun
  | [d1, d2, d3, d4] => { results := [.lit (.bool false)], args := [d1, d2, d3, d4] }
  | _ => none }
def MeanNarrowsWrongFalsely : Prop := meanNarrowsRow.holds Try.pinned (OpenSpec.ofChange meanNarrowsWrong)

/-- 'pinfoldlaw11.MeanAll': WHATEVER THE INPUT: true; the input reads as it did. -/
def meanAllSpec : ChangeSpec := { name := "meanAll", fn := fun _ => fun
  | [d1, d2, d3, d4] => { results := [.lit (.bool true)], args := [d1, d2, d3, d4] }
  | _ => none }
def meanAllRow : OpenClaim := { program := "ytjpdppohflailaa", sum := "f22e042e1530ee9e97662ffe7704c7964a57082e371f5886a6356a01125aeef1", func := "pinfold/pinfoldlaw11.MeanAll", spec := "meanAll", unfollowed := true, recurses := true, apart := false }
def MeanAllSaid : Prop := meanAllRow.holds Try.pinned (OpenSpec.ofChange meanAllSpec)

/-- ITS FALSE NEIGHBOUR: 'it returns false'. Refute it at one input. -/
def meanAllWrong : ChangeSpec := { name := "meanAll", fn := fun _ => fun
  | [d1, d2, d3, d4] => { results := [.lit (.bool false)], args := [d1, d2, d3, d4] }
  | _ => none }
def MeanAllWrongFalsely : Prop := meanAllRow.holds Try.pinned (OpenSpec.ofChange meanAllWrong)

/-- 'pinfoldlaw11.MeanSpeaks': WHATEVER THE INPUT: true; the input reads as it did. -/
def meanSpeaksSpec : ChangeSpec := { name := "meanSpeaks", fn := fun _ => fun
  | [d1, d2, d3, d4] => { results := [.lit (.bool true)], args := [d1, d2, d3, d4] }
  | _ => none }
def meanSpeaksRow : OpenClaim := { program := "ytjpdppohflailaa", sum := "f22e042e1530ee9e97662ffe7704c7964a57082e371f5886a6356a01125aeef1", func := "pinfold/pinfoldlaw11.MeanSpeaks", spec := "meanSpeaks", unfollowed := true, recurses := true, apart := false }
def MeanSpeaksSaid : Prop := meanSpeaksRow.holds Try.pinned (OpenSpec.ofChange meanSpeaksSpec)

/-- ITS FALSE NEIGHBOUR: 'it returns false'. Refute it at one input. -/
def meanSpeaksWrong : ChangeSpec := { name := "meanSpeaks", fn := fun _ => fun
  | [d1, d2, d3, d4] => { results := [.lit (.bool false)], args := [d1, d2, d3, d4] }
  | _ => none }
def MeanSpeaksWrongFalsely : Prop := meanSpeaksRow.holds Try.pinned (OpenSpec.ofChange meanSpeaksWrong)

/- THE SECOND FORM. 'bulk': how many values and letters a reading holds, each counted each time it is reached (what is shared counts as often as it is met; a slice's spare places count too). A statement '..UptoSaid' is the law's where the arguments, and the package variables that the reading takes, are together of bulk at most 1048576: NARROWER than '..Said'. Prove '..Said' where nothing that the law and all that it calls make is longer than what came in: it says more and counts as full. Else prove '..UptoSaid'. A law counts once. -/
mutual
def uptoBulk {H : Type} : DataW H → Nat
  | .lit (.string bytes) => bytes.length + 1
  | .lit _ => 1
  | .nil => 1
  | .ptr d => uptoBulk d + 1
  | .slice elems spare => uptoBulkAll elems + uptoBulkAll spare + 1
  | .agg parts => uptoBulkAll parts + 1
  | .iface _ d => uptoBulk d + 1
  | .map entries => uptoBulkEntries entries + 1
  | .held _ => 1
def uptoBulkAll {H : Type} : List (DataW H) → Nat
  | [] => 0
  | d :: r => uptoBulk d + uptoBulkAll r
def uptoBulkEntries {H : Type} : List (Lit × DataW H) → Nat
  | [] => 0
  | x :: r => uptoBulkEntry x + uptoBulkEntries r
def uptoBulkEntry {H : Type} : Lit × DataW H → Nat
  | (.string bytes, d) => bytes.length + uptoBulk d + 1
  | (_, d) => uptoBulk d + 1
 end
def uptoSmall : (H : Type) → List (DataW H) → Bool := fun _ ds => decide (uptoBulkAll ds ≤ 1048576)
def OpenSpec.upto (s : _root_.Go.ChangeSpec) : _root_.Go.OpenSpec := { _root_.Go.OpenSpec.ofChange s with cond := some uptoSmall }

/-- 'pinfoldlaw04.RecordOrder', WHERE WHAT IT READS IS OF BULK AT MOST 1048576: true; the input reads as it did. -/
def recordOrderUptoRow : OpenClaim := { program := "ytjpdppohflailaa", sum := "f22e042e1530ee9e97662ffe7704c7964a57082e371f5886a6356a01125aeef1", func := "pinfold/pinfoldlaw04.RecordOrder", spec := "recordOrder", unfollowed := true, recurses := true, apart := false, narrowed := true }
def RecordOrderUptoSaid : Prop := recordOrderUptoRow.holds Try.pinned (OpenSpec.upto recordOrderSpec)

/-- 'pinfoldlaw03.InsnKnown', WHERE WHAT IT READS IS OF BULK AT MOST 1048576: true; the input reads as it did. -/
def insnKnownUptoRow : OpenClaim := { program := "ytjpdppohflailaa", sum := "f22e042e1530ee9e97662ffe7704c7964a57082e371f5886a6356a01125aeef1", func := "pinfold/pinfoldlaw03.InsnKnown", spec := "insnKnown", apart := false, narrowed := true }
def InsnKnownUptoSaid : Prop := insnKnownUptoRow.holds Try.pinned (OpenSpec.upto insnKnownSpec)

/-- 'pinfoldlaw04.RecordActions', WHERE WHAT IT READS IS OF BULK AT MOST 1048576: true; the input reads as it did. -/
def recordActionsUptoRow : OpenClaim := { program := "ytjpdppohflailaa", sum := "f22e042e1530ee9e97662ffe7704c7964a57082e371f5886a6356a01125aeef1", func := "pinfold/pinfoldlaw04.RecordActions", spec := "recordActions", apart := false, narrowed := true }
def RecordActionsUptoSaid : Prop := recordActionsUptoRow.holds Try.pinned (OpenSpec.upto recordActionsSpec)

/-- 'pinfoldlaw03.InsnMakes', WHERE WHAT IT READS IS OF BULK AT MOST 1048576: true; the input reads as it did. -/
def insnMakesUptoRow : OpenClaim := { program := "ytjpdppohflailaa", sum := "f22e042e1530ee9e97662ffe7704c7964a57082e371f5886a6356a01125aeef1", func := "pinfold/pinfoldlaw03.InsnMakes", spec := "insnMakes", apart := false, narrowed := true }
def InsnMakesUptoSaid : Prop := insnMakesUptoRow.holds Try.pinned (OpenSpec.upto insnMakesSpec)

/-- 'pinfoldlaw03.InsnBytes', WHERE WHAT IT READS IS OF BULK AT MOST 1048576: true; the input reads as it did. -/
def insnBytesUptoRow : OpenClaim := { program := "ytjpdppohflailaa", sum := "f22e042e1530ee9e97662ffe7704c7964a57082e371f5886a6356a01125aeef1", func := "pinfold/pinfoldlaw03.InsnBytes", spec := "insnBytes", apart := false, narrowed := true }
def InsnBytesUptoSaid : Prop := insnBytesUptoRow.holds Try.pinned (OpenSpec.upto insnBytesSpec)

/-- 'pinfoldlaw04.RecordBytes', WHERE WHAT IT READS IS OF BULK AT MOST 1048576: true; the input reads as it did. -/
def recordBytesUptoRow : OpenClaim := { program := "ytjpdppohflailaa", sum := "f22e042e1530ee9e97662ffe7704c7964a57082e371f5886a6356a01125aeef1", func := "pinfold/pinfoldlaw04.RecordBytes", spec := "recordBytes", apart := false, narrowed := true }
def RecordBytesUptoSaid : Prop := recordBytesUptoRow.holds Try.pinned (OpenSpec.upto recordBytesSpec)

/-- 'pinfoldlaw04.RecordHalves', WHERE WHAT IT READS IS OF BULK AT MOST 1048576: true; the input reads as it did. -/
def recordHalvesUptoRow : OpenClaim := { program := "ytjpdppohflailaa", sum := "f22e042e1530ee9e97662ffe7704c7964a57082e371f5886a6356a01125aeef1", func := "pinfold/pinfoldlaw04.RecordHalves", spec := "recordHalves", apart := false, narrowed := true }
def RecordHalvesUptoSaid : Prop := recordHalvesUptoRow.holds Try.pinned (OpenSpec.upto recordHalvesSpec)

/-- 'pinfoldlaw11.MeanSays', WHERE WHAT IT READS IS OF BULK AT MOST 1048576: true; the input reads as it did. -/
def meanSaysUptoRow : OpenClaim := { program := "ytjpdppohflailaa", sum := "f22e042e1530ee9e97662ffe7704c7964a57082e371f5886a6356a01125aeef1", func := "pinfold/pinfoldlaw11.MeanSays", spec := "meanSays", unfollowed := true, recurses := true, apart := false, narrowed := true }
def MeanSaysUptoSaid : Prop := meanSaysUptoRow.holds Try.pinned (OpenSpec.upto meanSaysSpec)

/-- 'pinfoldlaw11.MeanNarrows', WHERE WHAT IT READS IS OF BULK AT MOST 1048576: true; the input reads as it did. -/
def meanNarrowsUptoRow : OpenClaim := { program := "ytjpdppohflailaa", sum := "f22e042e1530ee9e97662ffe7704c7964a57082e371f5886a6356a01125aeef1", func := "pinfold/pinfoldlaw11.MeanNarrows", spec := "meanNarrows", unfollowed := true, recurses := true, apart := false, narrowed := true }
def MeanNarrowsUptoSaid : Prop := meanNarrowsUptoRow.holds Try.pinned (OpenSpec.upto meanNarrowsSpec)

/-- 'pinfoldlaw11.MeanAll', WHERE WHAT IT READS IS OF BULK AT MOST 1048576: true; the input reads as it did. -/
def meanAllUptoRow : OpenClaim := { program := "ytjpdppohflailaa", sum := "f22e042e1530ee9e97662ffe7704c7964a57082e371f5886a6356a01125aeef1", func := "pinfold/pinfoldlaw11.MeanAll", spec := "meanAll", unfollowed := true, recurses := true, apart := false, narrowed := true }
def MeanAllUptoSaid : Prop := meanAllUptoRow.holds Try.pinned (OpenSpec.upto meanAllSpec)

/-- 'pinfoldlaw11.MeanSpeaks', WHERE WHAT IT READS IS OF BULK AT MOST 1048576: true; the input reads as it did. -/
def meanSpeaksUptoRow : OpenClaim := { program := "ytjpdppohflailaa", sum := "f22e042e1530ee9e97662ffe7704c7964a57082e371f5886a6356a01125aeef1", func := "pinfold/pinfoldlaw11.MeanSpeaks", spec := "meanSpeaks", unfollowed := true, recurses := true, apart := false, narrowed := true }
def MeanSpeaksUptoSaid : Prop := meanSpeaksUptoRow.holds Try.pinned (OpenSpec.upto meanSpeaksSpec)

end Rows
end Go.Proofs.Ytjpdppohflailaa
