/- CONTRACTS ON THE PRINTED FUNCTIONS: InsnBytes. -/
import Derived.Test.YtjpdppohflailaaF
import Derived.Test.YtjpdppohflailaaAmStr
import Derived.Test.YtjpdppohflailaaAmTyped
import Derived.Test.YtjpdppohflailaaConInsn3
import Derived.Test.YtjpdppohflailaaConRecordPure
set_option linter.all false
namespace Go.AM
variable {E : Sy} {H : AH} {Q : Value → AH → Prop}
structure InsnD where
  code : BitVec 16
  jt : BitVec 8
  jf : BitVec 8
  k : BitVec 32
def InsnD.cells (i : InsnD) : List Value := [u16 i.code, u8 i.jt, u8 i.jf, u32 i.k]
abbrev InsnD.v (i : InsnD) : Value := .agg i.cells.toArray
def InsnD.bytes (i : InsnD) : List (BitVec 8) := ibytes i.code i.jt i.jf i.k
theorem InsnD.bytes_len (i : InsnD) : i.bytes.length = 8 := rfl
def insnOf (l : List (BitVec 8)) : InsnD :=
  ⟨(l.getD 0 0).setWidth 16 ||| (l.getD 1 0).setWidth 16 <<< 8, l.getD 2 0, l.getD 3 0,
    (l.getD 4 0).setWidth 32 ||| (l.getD 5 0).setWidth 32 <<< 8 ||| (l.getD 6 0).setWidth 32 <<< 16 ||| (l.getD 7 0).setWidth 32 <<< 24⟩
theorem or2 (n : BitVec 16) : ((n.setWidth 8).setWidth 16 ||| ((n >>> 8).setWidth 8).setWidth 16 <<< 8) = n := by
  apply BitVec.eq_of_getLsbD_eq
  intro p hp
  simp only [BitVec.getLsbD_or, BitVec.getLsbD_shiftLeft, BitVec.getLsbD_setWidth, BitVec.getLsbD_ushiftRight]
  by_cases h : p < 8
  · simp [h, hp]
  · simp [h, hp, show p - 8 < 16 by omega, show p - 8 < 8 by omega, show 8 + (p - 8) = p by omega]
theorem insnOf_bytes (i : InsnD) : insnOf i.bytes = i := by
  obtain ⟨c, jt, jf, k⟩ := i
  have h := or4 k
  simp only [byteAt] at h
  simp [insnOf, InsnD.bytes, ibytes, or2]
  simpa using h
theorem byte_or4 (a b c d : BitVec 8) (i : Nat) (hi : i < 4) : byteAt (a.setWidth 32 ||| b.setWidth 32 <<< 8 ||| c.setWidth 32 <<< 16 ||| d.setWidth 32 <<< 24) i = [a, b, c, d][i] := by
  apply BitVec.eq_of_getLsbD_eq
  intro p hp
  rw [byteAt_get]
  simp only [BitVec.getLsbD_or, BitVec.getLsbD_shiftLeft, BitVec.getLsbD_setWidth]
  have : i = 0 ∨ i = 1 ∨ i = 2 ∨ i = 3 := by omega
  rcases this with rfl | rfl | rfl | rfl
  · simp [hp, show p < 16 by omega, show p < 24 by omega, show p < 32 by omega]
  · simp [hp, show 8 + p < 16 by omega, show 8 + p < 24 by omega, show 8 + p < 32 by omega, show p < 32 by omega, BitVec.getLsbD_of_ge a (8 + p) (by omega)]
  · simp [hp, show 16 + p < 24 by omega, show 16 + p < 32 by omega, show p < 32 by omega, BitVec.getLsbD_of_ge a (16 + p) (by omega), show 16 + p - 8 = 8 + p by omega, BitVec.getLsbD_of_ge b (8 + p) (by omega)]
  · simp [hp, show 24 + p < 32 by omega, show p < 32 by omega, BitVec.getLsbD_of_ge a (24 + p) (by omega), show 24 + p - 8 = 16 + p by omega, BitVec.getLsbD_of_ge b (16 + p) (by omega), show 24 + p - 16 = 8 + p by omega, BitVec.getLsbD_of_ge c (8 + p) (by omega)]
theorem byte_or2 (a b : BitVec 8) : (a.setWidth 16 ||| b.setWidth 16 <<< 8).setWidth 8 = a ∧ ((a.setWidth 16 ||| b.setWidth 16 <<< 8) >>> 8).setWidth 8 = b := by
  constructor
  · apply BitVec.eq_of_getLsbD_eq
    intro p hp
    simp only [BitVec.getLsbD_or, BitVec.getLsbD_shiftLeft, BitVec.getLsbD_setWidth]
    simp [hp, show p < 16 by omega]
  · apply BitVec.eq_of_getLsbD_eq
    intro p hp
    simp only [BitVec.getLsbD_or, BitVec.getLsbD_shiftLeft, BitVec.getLsbD_setWidth, BitVec.getLsbD_ushiftRight]
    simp [hp, show 8 + p < 16 by omega, show p < 16 by omega, BitVec.getLsbD_of_ge a (8 + p) (by omega)]
theorem bytes_insnOf (l : List (BitVec 8)) (hl : l.length = 8) : (insnOf l).bytes = l := by
  match l, hl with
  | [b0, b1, b2, b3, b4, b5, b6, b7], _ =>
    have h0 := byte_or4 b4 b5 b6 b7 0 (by omega)
    have h1 := byte_or4 b4 b5 b6 b7 1 (by omega)
    have h2 := byte_or4 b4 b5 b6 b7 2 (by omega)
    have h3 := byte_or4 b4 b5 b6 b7 3 (by omega)
    obtain ⟨q1, q2⟩ := byte_or2 b0 b1
    simp only [byteAt] at h0 h1 h2 h3
    simp only [insnOf, InsnD.bytes, ibytes, List.getD_cons_zero, List.getD_cons_succ, q1, q2]
    simp at h0 h1 h2 h3
    simp [h0, h1, h2, h3]
theorem S.insn_Of (hE : Fold E) (l : List (BitVec 8)) (hl : l.length = 8) (hQ : ∀ H', Ext H H' → Q (insnOf l).v H') : E.call (E.fid i.insn_Of) [bytesV l] H Q := by
  apply hE.insn_Of
  match l, hl with
  | [b0, b1, b2, b3, b4, b5, b6, b7], _ =>
    simp [F.insn_Of, slArr, bnd, Addr.add]
    iterate 4
      apply LoopL.step; intro X hX
      simp [F.insn_Of_l1, AH.get_new, Nat.add_assoc, i64_add, i64_mul]
      apply hX; clear hX X
    apply LoopL.step; intro X hX
    simp [F.insn_Of_l1, AH.get_new, Nat.add_assoc, splice]
    have := hQ
    simp [insnOf, InsnD.cells] at this
    refine this _ ?_
    repeat (first | exact Ext.refl _ | apply Ext.new | (refine Ext.put ?_ (by omega) _))
theorem i64_rem_n (a n : Nat) (h : n ≠ 0) : binInt .rem (vi (a : Int)) (vi (n : Int)) = some (vi ((a % n : Nat) : Int)) := by
  rw [binInt_rem _ _ _ (by omega), ← Int.ofNat_tmod]
theorem i64_quo_n (a n : Nat) (h : n ≠ 0) (ha : a < 9223372036854775808) : binInt .quo (vi (a : Int)) (vi (n : Int)) = some (vi ((a / n : Nat) : Int)) := by
  have h1 : ((a / n : Nat) : Int) ≤ (a : Int) := Int.ofNat_le.2 (Nat.div_le_self _ _)
  have h0 : (0 : Int) ≤ ((a / n : Nat) : Int) := Int.natCast_nonneg _
  rw [binInt_quo _ _ _ (by omega), ← Int.ofNat_tdiv, wrap_i64 (Int.le_trans (by decide) h0) (Int.lt_of_le_of_lt h1 (by omega))]
theorem S.pinfoldref03_Bytes (hE : Fold E) (d : InsnD) (hQ : ∀ v H', Ext H H' → Vals H' v (d.bytes.map u8) → Q v H') : E.call (E.fid i.pinfoldref03_Bytes) [.agg #[vi d.code.toNat, vi d.jt.toNat, vi d.jf.toNat, u32 d.k]] H Q := by
  apply hE.pinfoldref03_Bytes
  obtain ⟨c, jt, jf, k⟩ := d
  have r1 : binInt .rem (vi (c.toNat : Int)) (vi 256) = some (vi ((c.toNat % 256 : Nat) : Int)) := i64_rem_n c.toNat 256 (by omega)
  have r2 : binInt .quo (vi (c.toNat : Int)) (vi 256) = some (vi ((c.toNat / 256 : Nat) : Int)) := i64_quo_n c.toNat 256 (by omega) (by have := c.isLt; omega)
  have e1 : BitVec.ofInt 8 ((c.toNat % 256 : Nat) : Int) = c.setWidth 8 := by
    rw [BitVec.ofInt_natCast]; apply BitVec.eq_of_toNat_eq; simp
  have e2 : BitVec.ofInt 8 ((c.toNat / 256 : Nat) : Int) = (c >>> 8).setWidth 8 := by
    rw [BitVec.ofInt_natCast]; apply BitVec.eq_of_toNat_eq; simp [Nat.shiftRight_eq_div_pow]
  have e3 : ∀ x : BitVec 8, BitVec.ofInt 8 (x.toNat : Int) = x := bv_ofInt_nat
  have e4 : (k % 256#32).setWidth 8 = k.setWidth 8 := by apply BitVec.eq_of_toNat_eq; simp
  have e5 : (k / 256#32 % 256#32).setWidth 8 = (k >>> 8).setWidth 8 := by apply BitVec.eq_of_toNat_eq; simp [Nat.shiftRight_eq_div_pow]
  have e6 : (k / 65536#32 % 256#32).setWidth 8 = (k >>> 16).setWidth 8 := by apply BitVec.eq_of_toNat_eq; simp [Nat.shiftRight_eq_div_pow]
  have e7 : (k / 16777216#32).setWidth 8 = (k >>> 24).setWidth 8 := by apply BitVec.eq_of_toNat_eq; simp [Nat.shiftRight_eq_div_pow]
  simp only [F.pinfoldref03_Bytes, boxO_agg, mk_some, mkPtr_eq, addOff_ptr, opt_some, load1_ptr, AH.get_new_self, cell_cells, Nat.zero_add, List.getElem?_cons_zero, List.getElem?_cons_succ, r1, r2, i64_to_u8, e1, e2, e3]
  simp [e4, e5, e6, e7, splice]
  refine hQ _ _ (((Ext.refl H).new _).new _) (Vals.made (f := none) ?_ (.inl rfl) rfl)
  simp [InsnD.bytes, ibytes, AH.get_new]
theorem S.pinfoldlaw03_Ref (hE : Fold E) (d : InsnD) (hQ : ∀ H', Ext H H' → Q (.agg #[vi d.code.toNat, vi d.jt.toNat, vi d.jf.toNat, u32 d.k]) H') : E.call (E.fid i.pinfoldlaw03_Ref) [d.v] H Q := by
  apply hE.pinfoldlaw03_Ref
  simp [F.pinfoldlaw03_Ref, InsnD.cells, AH.get_new, splice]
  exact hQ _ (((Ext.refl H).new _).new _)
/-- The slice of one array's bytes. -/
theorem slArr_all (n b o : Nat) (hn : n ≠ 0) : slArr n 1 (ptr b o) none none none = some (slc b o n n) := by
  have e0 : bnd (none : Option Value) n n = some n := rfl
  have e1 : bnd (none : Option Value) 0 n = some 0 := rfl
  simp only [slArr, Option.isSome_none, Bool.false_and, Bool.false_eq_true, if_false, e0, e1, Option.bind_some, Nat.sub_zero]
  rw [if_neg (by omega)]
  simp [Addr.add]
theorem makeS_room (size bytes n : Nat) (z : List Value) (hz : z.length = size) (h1 : n * bytes ≤ 2 ^ 47) (h2 : n < 2 ^ 62) : makeS size bytes z.toArray (vi 0) (vi n) = some (.cells (List.replicate n z).flatten none, fun b => slc b 0 0 n) := by
  simp only [makeS]
  rw [if_pos ⟨by omega, by omega, by exact_mod_cast h1, by exact_mod_cast h2⟩]
  simp only [Int.toNat_natCast, Int.toNat_zero]
  rw [repl_eq n size _ (by simpa using hz)]
  rfl
theorem S.insn_Encode (hE : Fold E) (v : Value) (l : List InsnD) (hl : l.length ≤ 10000) (hR : Rows H 4 v (l.map InsnD.cells)) (hQ : ∀ v' H', Ext H H' → Vals H' v' ((l.flatMap InsnD.bytes).map u8) → Q v' H') :
    E.call (E.fid i.insn_Encode) [v] H Q := by
  apply hE.insn_Encode
  have hlen := hR.lenSlc
  simp only [List.length_map] at hlen
  simp only [F.insn_Encode, hlen, opt_some]
  rw [i64_mul (by omega) (by omega), opt_some]
  have e8 : (l.length : Int) * 8 = ((l.length * 8 : Nat) : Int) := by omega
  have hm := makeS_room 1 1 (l.length * 8) [.int .u8 0] rfl (by omega) (by omega)
  rw [e8, hm, mk_some]
  generalize hH1 : H.new _ = H1
  have x1 : Ext H H1 := by subst hH1; exact (Ext.refl H).new _
  have o1 : Own H H1 1 (slc H.next 0 0 (l.length * 8)) [] := by
    subst hH1
    exact Own.room (Nat.le_refl _) (AH.get_new_self _ _) (by simp [List.length_flatten, List.map_replicate, List.sum_replicate_nat])
  generalize slc H.next 0 0 (l.length * 8) = v0 at o1
  clear hH1 hm
  refine LoopL.count l.length (fun i s H' => ∃ v', s = [v', v, vi l.length, vi i] ∧ Ext H H' ∧ Own H H' 1 v' ((((l.take i).flatMap InsnD.bytes).map u8).map fun x => [x])) ?_ ⟨v0, rfl, x1, by simpa using o1⟩
  rintro i _ H' X hi hX ⟨v', rfl, hx, ho⟩
  simp only [F.insn_Encode_l1, nth_0, nth_1, nth_2, nth_3, i64_lss, opt_some]
  refine ifB_split (fun h => ?_) (fun h => ?_)
  · have hil : i < l.length := by omega
    obtain ⟨b, o, f1, f2⟩ := Rows.ix (hR.mono hx) (i := i) (by simpa using hil)
    simp only [List.getElem_map] at f2
    simp only [f1, opt_some, loadN_ptr, f2, Option.map_some]
    generalize hd : l[i] = d at *
    simp [InsnD.cells, splice]
    generalize hH2 : H'.new _ = H2
    have x2 : Ext H' H2 := by subst hH2; exact (Ext.refl _).new _
    refine S.insn_Insn_Bytes hE _ _ _ _ fun H3 h3 => ?_
    have hs : storeN 8 (ptr H3.next 0) (bytesV d.bytes) (H3.new (.cells (zs 8 (u8 0#8)) none)) = some (H3.new (.cells (d.bytes.map u8) none)) := by
      rw [storeN_ptr, AH.get_new_self]
      simp [splice, InsnD.bytes_len]
    have hs' := hs
    simp only [InsnD.bytes] at hs'
    rw [hs', opt_some, slArr_all 8 _ _ (by omega), opt_some]
    generalize hH5 : H3.new _ = H5
    have x5 : Ext H3 H5 := by subst hH5; exact (Ext.refl _).new _
    have hb : Vals H5 (slc H3.next 0 8 8) (d.bytes.map u8) := Vals.made (f := none) (by subst hH5; simp [InsnD.bytes]) (.inl rfl) (by simp [InsnD.bytes_len])
    have x05 : Ext H' H5 := (x2.trans h3).trans x5
    have hlm : (((l.take i).flatMap InsnD.bytes).map u8).length = 8 * i := by
      have : ∀ m : List InsnD, (m.flatMap InsnD.bytes).length = 8 * m.length := by
        intro m; induction m with
        | nil => rfl
        | cons y m ih => simp only [List.flatMap_cons, List.length_append, ih, InsnD.bytes_len, List.length_cons]; omega
      rw [List.length_map, this, List.length_take, Nat.min_eq_left hi]
    obtain ⟨v2, H6, a1, a2, a3⟩ := (ho.mono x05).app (hx.trans x05) (bytes := 1) hb (by simp) (by omega) (by omega) (by simp [InsnD.bytes_len] at *; omega) (by simp [InsnD.bytes_len] at *; omega)
    rw [a1, opt2_some, i64_inc (by omega), opt_some]
    refine hX hil _ _ ⟨v2, rfl, a3.1, ?_⟩
    rw [List.take_succ_eq_append_getElem hil, List.flatMap_append, List.map_append, List.map_append]
    simpa [hd] using a2
  · have : i = l.length := by omega
    subst this
    rw [List.take_length] at ho
    exact hQ _ _ hx ho.toRows
end Go.AM
