/- CONTRACTS ON THE PRINTED FUNCTIONS: Insn3. -/
import Derived.Test.YtjpdppohflailaaF
import Derived.Test.YtjpdppohflailaaAmStr
import Derived.Test.YtjpdppohflailaaAmTyped
import Derived.Test.YtjpdppohflailaaConInsn2
set_option linter.all false
namespace Go.AM
variable {E : Sy} {H : AH} {Q : Value → AH → Prop}
abbrev insnV (c : BitVec 16) (jt jf : BitVec 8) (k : BitVec 32) : Value := .agg #[u16 c, u8 jt, u8 jf, u32 k]

theorem S.insn_Load (hE : Fold E) (k : BitVec 32) (hQ : ∀ H', Ext H H' → Q (insnV 32 0 0 k) H') : E.call (E.fid i.insn_Load) [u32 k] H Q := by
  apply hE.insn_Load
  simp [F.insn_Load, splice, AH.get_new]
  exact hQ _ ((Ext.refl H).new _)
theorem S.insn_Return (hE : Fold E) (k : BitVec 32) (hQ : ∀ H', Ext H H' → Q (insnV 6 0 0 k) H') : E.call (E.fid i.insn_Return) [u32 k] H Q := by
  apply hE.insn_Return
  simp [F.insn_Return, splice, AH.get_new]
  exact hQ _ ((Ext.refl H).new _)
theorem S.insn_Skip (hE : Fold E) (k : BitVec 32) (hQ : ∀ H', Ext H H' → Q (insnV 5 0 0 k) H') : E.call (E.fid i.insn_Skip) [u32 k] H Q := by
  apply hE.insn_Skip
  simp [F.insn_Skip, splice, AH.get_new]
  exact hQ _ ((Ext.refl H).new _)
theorem S.insn_Mask (hE : Fold E) (k : BitVec 32) (hQ : ∀ H', Ext H H' → Q (insnV 84 0 0 k) H') : E.call (E.fid i.insn_Mask) [u32 k] H Q := by
  apply hE.insn_Mask
  simp [F.insn_Mask, splice, AH.get_new]
  exact hQ _ ((Ext.refl H).new _)
theorem S.insn_If (hE : Fold E) (c : BitVec 16) (k : BitVec 32) (jt jf : BitVec 8) (hQ : ∀ H', Ext H H' → Q (insnV (5#16 ||| c ||| 0#16) jt jf k) H') : E.call (E.fid i.insn_If) [u16 c, u32 k, u8 jt, u8 jf] H Q := by
  apply hE.insn_If
  simp [F.insn_If, splice, AH.get_new]
  simpa using hQ _ ((Ext.refl H).new _)

abbrev bytesV (l : List (BitVec 8)) : Value := .agg (l.map u8).toArray
def ibytes (c : BitVec 16) (jt jf : BitVec 8) (k : BitVec 32) : List (BitVec 8) :=
  [c.setWidth 8, (c >>> 8).setWidth 8, jt, jf, k.setWidth 8, (k >>> 8).setWidth 8, (k >>> 16).setWidth 8, (k >>> 24).setWidth 8]
theorem S.insn_Insn_Bytes (hE : Fold E) (c : BitVec 16) (jt jf : BitVec 8) (k : BitVec 32) (hQ : ∀ H', Ext H H' → Q (bytesV (ibytes c jt jf k)) H') :
    E.call (E.fid i.insn_Insn_Bytes) [insnV c jt jf k] H Q := by
  apply hE.insn_Insn_Bytes
  simp [F.insn_Insn_Bytes, zs, AH.get_new, Nat.add_assoc]
  iterate 4
    apply LoopL.step; intro X hX
    simp [F.insn_Insn_Bytes_l1, zs, AH.get_new, Nat.add_assoc, i64_add, i64_mul]
    apply hX; clear hX X
  apply LoopL.step; intro X hX
  simp [F.insn_Insn_Bytes_l1, zs, AH.get_new, Nat.add_assoc, splice]
  refine hQ _ ?_
  repeat (first | exact Ext.refl _ | apply Ext.new | (refine Ext.put ?_ (by omega) _))

theorem S.pinfoldlaw03_Awake (hE : Fold E) (hQ : ∀ H', Ext H H' → Q (vb true) H') : E.call (E.fid i.pinfoldlaw03_Awake) [] H Q := by
  apply hE.pinfoldlaw03_Awake
  apply S.insn_Load hE 4
  intro H1 h1
  apply S.insn_Insn_Bytes hE
  intro H2 h2
  simp [ibytes, zs, AH.get_new, splice, slArr, bnd, Addr.add]
  have hV : Vals (H2.new (AObj.cells [u8 32#8, u8 0#8, u8 0#8, u8 0#8, u8 4#8, u8 0#8, u8 0#8, u8 0#8] none)) (slc H2.next 0 8 8) ([32, 0, 0, 0, 4, 0, 0, 0].map u8) :=
    Vals.made (f := none) (by simp) (.inl rfl) rfl
  rw [strOf_vals hV]
  simp
  apply S.insn_Known hE 32
  simp [inames]
  exact hQ _ (((h1.trans h2).new _))

theorem S.InsnKnown_ (hE : Fold E) (c : BitVec 16) (low : BitVec 8) (hk : ∀ c : BitVec 16, rknown c.toNat = (inames.contains c || iknown1 c)) (hc : ∀ c : BitVec 16, iclass c = c % 8#16)
    (hQ : ∀ H', Q (vb true) H') : E.call (E.fid i.pinfoldlaw03_InsnKnown) [u16 c, u8 low] H Q := by
  apply hE.pinfoldlaw03_InsnKnown
  apply S.pinfoldlaw03_Awake hE
  intro H1 h1
  simp [splice]
  generalize hH2 : H1.new _ = H2
  have hV : Vals H2 (slc H1.next 0 2 2) ([c, BitVec.setWidth 16 low].map u16) := Vals.made (f := none) (by subst hH2; simp) (.inl rfl) rfl
  generalize slc H1.next 0 2 2 = v at *
  refine LoopL.count 2 (fun i l H' => Ext H2 H' ∧ l = [v, vi 2, vi i]) ?_ ⟨Ext.refl _, rfl⟩
  rintro i l H' X hi hX ⟨hx, rfl⟩
  simp [F.pinfoldlaw03_InsnKnown_l1]
  refine ifB_split (fun h => ?_) (fun h => hQ _)
  obtain ⟨b, o, e1, e2⟩ := Vals.elem (hV.mono hx) (i := i) (by simp; omega)
  have hi2 : i < 2 := by omega
  obtain ⟨x, hxi⟩ : ∃ x, [c, BitVec.setWidth 16 low][i]'(by simp; omega) = x := ⟨_, rfl⟩
  simp only [List.getElem_map, hxi] at e2
  simp [e1, e2]
  apply S.insn_Known hE
  simp
  apply S.pinfoldref03_Known hE
  intro H'' hx''
  simp [hk]
  apply S.insn_Class hE
  simp [hc]
  rw [i64_inc (by omega)]
  exact hX hi2 _ _ ⟨hx.trans hx'', rfl⟩
end Go.AM
