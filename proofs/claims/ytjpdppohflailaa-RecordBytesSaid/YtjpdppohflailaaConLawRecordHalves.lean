/- CONTRACTS ON THE PRINTED FUNCTIONS: LawRecordHalves. -/
import Derived.Test.YtjpdppohflailaaF
import Derived.Test.YtjpdppohflailaaAmStr
import Derived.Test.YtjpdppohflailaaAmTyped
import Derived.Test.YtjpdppohflailaaConRecordWord
import Derived.Test.YtjpdppohflailaaConLawRecordOrder
set_option linter.all false
namespace Go.AM
variable {E : Sy} {H : AH} {Q : Value → AH → Prop}
abbrev recSh : Sh := .struct [.int .u32, .int .u32, .int .u64, .arr 6 (.int .u64)]
theorem SV.rec {cs : List Value} (h : SV H recSh cs) : ∃ r : RecD, r.ok ∧ cs = r.cells := by
  obtain ⟨c1, c2, rfl, h1, c3, c4, rfl, h2, c5, c6, rfl, h3, c7, c8, rfl, h4, rfl⟩ := h
  obtain ⟨x1, rfl⟩ := h1.u32
  obtain ⟨x2, rfl⟩ := h2.u32
  obtain ⟨x3, rfl⟩ := h3.u64
  obtain ⟨rows, hl, rfl, hr⟩ := h4
  obtain ⟨l, rfl⟩ := rows_map (f := AM.u64) fun r h => (hr r h).u64
  refine ⟨⟨x1, x2, x3, l⟩, by simpa [RecD.ok] using hl, ?_⟩
  have := flatten_single (l.map AM.u64)
  rw [List.map_map] at this
  simp only [RecD.cells, List.cons_append, List.nil_append, List.append_nil]
  simpa [Function.comp_def] using this
theorem ArgSV.rec {v : Value} (h : ArgSV H recSh v) : ∃ r : RecD, r.ok ∧ v = r.v := by
  obtain ⟨cs, rfl, h⟩ := h
  obtain ⟨r, hr, rfl⟩ := SV.rec (show SV H recSh cs from h)
  exact ⟨r, hr, rfl⟩
theorem S.law_RecordHalves (hE : Fold E) (args : List Value) (ha : ArgsSV H [recSh, .int .i64] args) (hQ : ∀ H', Q (vb true) H') : E.call (E.fid i.pinfoldlaw04_RecordHalves) args H Q := by
  obtain ⟨v1, _, rfl, h1, ha⟩ := ha.cons_inv
  obtain ⟨v2, _, rfl, h2, ha⟩ := ha.cons_inv
  obtain rfl := ha.nil_inv
  obtain ⟨r, hr, rfl⟩ := h1.rec
  obtain ⟨n, rfl, _⟩ := h2.i64
  exact S.RecordHalves_ hE r hr n (fun h => S.pinfoldlaw04_Awake hE h) hQ
end Go.AM
