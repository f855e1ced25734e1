/- CONTRACTS ON THE PRINTED FUNCTIONS: LawInsnKnown. -/
import Derived.Test.YtjpdppohflailaaF
import Derived.Test.YtjpdppohflailaaAmStr
import Derived.Test.YtjpdppohflailaaAmTyped
import Derived.Test.YtjpdppohflailaaConInsn3
import Derived.Test.YtjpdppohflailaaConInsn4
namespace Go.AM
variable {E : Sy} {H : AH} {Q : Value → AH → Prop}
theorem S.law_InsnKnown (hE : Fold E) (args : List Value) (ha : ArgsSV H [.int .u16, .int .u8] args) (hQ : ∀ H', Q (vb true) H') : E.call (E.fid i.pinfoldlaw03_InsnKnown) args H Q := by
  obtain ⟨v1, _, rfl, h1, ha⟩ := ha.cons_inv
  obtain ⟨v2, _, rfl, h2, ha⟩ := ha.cons_inv
  obtain rfl := ha.nil_inv
  obtain ⟨x1, rfl⟩ := h1.u16
  obtain ⟨x2, rfl⟩ := h2.u8
  exact S.InsnKnown_ hE x1 x2 known_eq class_mod hQ
end Go.AM
