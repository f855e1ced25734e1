/- CONTRACTS ON THE PRINTED FUNCTIONS: LawInsnMakes. -/
import Derived.Test.YtjpdppohflailaaF
import Derived.Test.YtjpdppohflailaaAmStr
import Derived.Test.YtjpdppohflailaaAmTyped
import Derived.Test.YtjpdppohflailaaConInsn3
namespace Go.AM
variable {E : Sy} {H : AH} {Q : Value → AH → Prop}
theorem S.InsnMakes_ (hE : Fold E) (k : BitVec 32) (jt jf how : BitVec 8) (hQ : ∀ H', Q (vb true) H') : E.call (E.fid i.pinfoldlaw03_InsnMakes) [u32 k, u8 jt, u8 jf, u8 how] H Q := by
  apply hE.pinfoldlaw03_InsnMakes
  apply S.pinfoldlaw03_Awake hE
  intro H1 h1
  simp [splice]
  generalize hH2 : H1.new _ = H2
  have hV : Vals H2 (slc H1.next 0 4 4) ([16#16, 32#16, 48#16, 64#16].map u16) := Vals.made (f := none) (by subst hH2; simp) (.inl rfl) rfl
  generalize slc H1.next 0 4 4 = v at *
  have hlt : how.toNat % 4 < 4 := Nat.mod_lt _ (by omega)
  obtain ⟨b, o, e1, e2⟩ := Vals.elem hV (i := how.toNat % 4) (by simpa using hlt)
  obtain ⟨h, hh⟩ : ∃ h, [16#16, 32#16, 48#16, 64#16][how.toNat % 4]'(by simpa using hlt) = h := ⟨_, rfl⟩
  simp only [List.getElem_map, hh] at e2
  simp at e1
  simp [e1, e2]
  apply S.insn_Load hE; intro H3 h3
  simp
  apply S.insn_Return hE; intro H4 h4
  simp
  apply S.insn_Skip hE; intro H5 h5
  simp
  apply S.insn_Mask hE; intro H6 h6
  simp
  apply S.insn_If hE; intro H7 h7
  simp
  have e : how % 4#8 = BitVec.ofNat 8 (how.toNat % 4) := by
    apply BitVec.eq_of_toNat_eq
    simp only [BitVec.toNat_umod, BitVec.toNat_ofNat]
    rw [show (4 % 2 ^ 8 : Nat) = 4 from rfl]
    omega
  rw [e]
  have : 5#16 ||| h = 5#16 + 16#16 * (1#16 + BitVec.setWidth 16 (BitVec.ofNat 8 (how.toNat % 4))) := by
    subst hh
    clear e e1 e2
    generalize how.toNat % 4 = r at *
    have : r = 0 ∨ r = 1 ∨ r = 2 ∨ r = 3 := by omega
    rcases this with rfl | rfl | rfl | rfl <;> simp
  simp only [this, decide_true]
  exact hQ _
theorem S.law_InsnMakes (hE : Fold E) (args : List Value) (ha : ArgsSV H [.int .u32, .int .u8, .int .u8, .int .u8] args) (hQ : ∀ H', Q (vb true) H') : E.call (E.fid i.pinfoldlaw03_InsnMakes) args H Q := by
  obtain ⟨v1, _, rfl, h1, ha⟩ := ha.cons_inv
  obtain ⟨v2, _, rfl, h2, ha⟩ := ha.cons_inv
  obtain ⟨v3, _, rfl, h3, ha⟩ := ha.cons_inv
  obtain ⟨v4, _, rfl, h4, ha⟩ := ha.cons_inv
  obtain rfl := ha.nil_inv
  obtain ⟨x1, rfl⟩ := h1.u32
  obtain ⟨x2, rfl⟩ := h2.u8
  obtain ⟨x3, rfl⟩ := h3.u8
  obtain ⟨x4, rfl⟩ := h4.u8
  exact S.InsnMakes_ hE x1 x2 x3 x4 hQ
end Go.AM
