/- CONTRACTS ON THE PRINTED FUNCTIONS: LawRecordBytes. -/
import Derived.Test.YtjpdppohflailaaF
import Derived.Test.YtjpdppohflailaaAmStr
import Derived.Test.YtjpdppohflailaaAmTyped
import Derived.Test.YtjpdppohflailaaConLawRecordHalves
set_option linter.all false
namespace Go.AM
variable {E : Sy} {H : AH} {Q : Value → AH → Prop}
abbrev wordsV (r : RecD) : Value := .agg (r.words.map u32).toArray
theorem pairs_len : ∀ l : List (BitVec 64), (l.flatMap fun a => [u32 (lo32 a), u32 (hi32 a)]).length = 2 * l.length
  | [] => rfl
  | a :: l => by simp only [List.flatMap_cons, List.length_append, pairs_len l, List.length_cons, List.length_nil]; omega
theorem S.pinfoldref03_Of (hE : Fold E) (r : RecD) (hr : r.ok) (hQ : ∀ H', Ext H H' → Q (wordsV r) H') :
    E.call (E.fid i.pinfoldref03_Of) [u32 r.number, u32 r.arch, u64 r.at_, .agg (r.args.map u64).toArray] H Q := by
  apply hE.pinfoldref03_Of
  simp [F.pinfoldref03_Of, mod32, div32, splice, zs, AH.get_new, Nat.add_assoc]
  generalize hH3 : (((H.new _).new _).new _) = H3
  have h1 : Ext H H3 := by subst hH3; exact (((Ext.refl H).new _).new _).new _
  have h2 : H3.next = H.next + 3 := by subst hH3; rfl
  have h3 : H3.get H.next = .cells (r.args.map u64) none := by subst hH3; simp [AH.get_new, Nat.add_assoc]
  have h4 : H3.get (H.next + 1) = .cells (zs 16 (u32 0#32)) none := by subst hH3; simp [AH.get_new, Nat.add_assoc, zs]
  have h5 : H3.get (H.next + 2) = .cells ([u32 r.number, u32 r.arch, u32 (lo32 r.at_), u32 (hi32 r.at_)] ++ zs 12 (u32 0#32)) none := by subst hH3; simp [AH.get_new, Nat.add_assoc, zs]
  clear hH3
  let done : Nat → List Value := fun i => [u32 r.number, u32 r.arch, u32 (lo32 r.at_), u32 (hi32 r.at_)] ++ (r.args.take i).flatMap fun a => [u32 (lo32 a), u32 (hi32 a)]
  have hlen : ∀ i, i ≤ 6 → (done i).length = 4 + 2 * i := by
    intro i hi
    have : (r.args.take i).length = i := by rw [List.length_take, hr]; omega
    simp only [done, List.length_append, pairs_len, this, List.length_cons, List.length_nil]
  refine LoopL.count 6 (fun i s H' => s = [ptr H.next 0, ptr (H.next + 1) 0, ptr (H.next + 2) 0, vi i] ∧ Ext H H' ∧ H'.next = H.next + 3 ∧ H'.get H.next = .cells (r.args.map u64) none ∧ H'.get (H.next + 1) = .cells (zs 16 (u32 0#32)) none ∧
      H'.get (H.next + 2) = .cells (done i ++ zs (12 - 2 * i) (u32 0#32)) none) ?_ ⟨rfl, h1, h2, h3, h4, by simpa [done] using h5⟩
  clear h1 h2 h3 h4 h5 H3
  rintro i _ H' X hi hX ⟨rfl, h1, h2, h3, h4, h5⟩
  simp [F.pinfoldref03_Of_l1]
  refine ifB_split (fun h => ?_) (fun h => ?_)
  · have hi6 : i < 6 := by omega
    have hia : i < r.args.length := by rw [hr]; exact hi6
    rw [i64_mul (by omega) (by omega), opt_some, i64_add (by omega) (by omega), opt_some, ixArr_nat 6 1 _ _ i hi6, opt_some, load1_ptr, h3]
    have ea : (r.args.map u64)[0 + i * 1]? = some (u64 r.args[i]) := by simp [hia]
    simp only [cell_cells, ea, opt_some]
    simp [mod32]
    have e1 : (4 : Int) + 2 * (i : Int) = ((4 + 2 * i : Nat) : Int) := by omega
    rw [e1, ixArr_nat 16 1 _ _ (4 + 2 * i) (by omega), opt_some, store1_ptr, h5]
    have z1 : zs (12 - 2 * i) (u32 0#32) = u32 0#32 :: u32 0#32 :: zs (12 - 2 * (i + 1)) (u32 0#32) := by
      rw [show 12 - 2 * i = (12 - 2 * (i + 1)) + 1 + 1 by omega]; rfl
    have hl := hlen i hi
    simp only [plain1_u32, if_true]
    rw [if_pos (by simp [hl]; omega), opt_some]
    rw [i64_add (by omega) (by omega), opt_some]
    have ea' : (r.args.map u64)[i]? = some (u64 r.args[i]) := by simp [hia]
    rw [AH.get_put_ne _ _ (by omega), h3]
    simp only [cell_cells, ea', opt_some]
    simp [div32]
    have e2 : (5 : Int) + 2 * (i : Int) = ((5 + 2 * i : Nat) : Int) := by omega
    rw [e2, ixArr_nat 16 1 _ _ (5 + 2 * i) (by omega), opt_some, store1_ptr, AH.get_put_self _ _ (by omega)]
    simp only [plain1_u32, if_true]
    rw [if_pos (by simp [hl]; omega), opt_some, i64_inc (by omega), opt_some]
    refine hX hi6 _ _ ⟨rfl, (h1.put (by omega) _).put (by omega) _, h2, ?_, ?_, ?_⟩
    · rw [AH.get_put_ne _ _ (by omega), AH.get_put_ne _ _ (by omega)]; exact h3
    · rw [AH.get_put_ne _ _ (by omega), AH.get_put_ne _ _ (by omega)]; exact h4
    · rw [AH.get_put_self _ _ (by simp; omega)]
      rw [z1, show 4 + 2 * i = (done i).length by omega, set_snoc]
      have : 0 + (5 + 2 * i) * 1 = (done i ++ [u32 (lo32 r.args[i])]).length := by simp [hl]; omega
      rw [this, set_snoc]
      congr 2
      simp only [done]
      rw [List.take_succ_eq_append_getElem hia, List.flatMap_append]
      simp
  · have : i = 6 := by omega
    subst this
    have e3 : done 6 = r.words.map u32 := by
      have : r.args.take 6 = r.args := List.take_of_length_le (by rw [hr]; omega)
      simp only [done, this, RecD.words, List.map_cons, List.map_flatMap, List.map_nil]
      rfl
    have e4 : r.words.length = 16 := words_len r hr
    simp only [Nat.reduceMul, Nat.sub_self, zs_zero, List.append_nil, e3] at h5
    have hl : (r.words.map u32).length = 16 := by simp [e4]
    have hp : (r.words.map u32).all plain1 = true := by simp
    have hQ' : ∀ H', Ext H H' → Q (.agg (r.words.map u32).toArray) H' := hQ
    clear hQ
    generalize r.words.map u32 = ws at *
    simp only [load1_ptr, loadN_ptr, h5, row_cells, Nat.zero_add, List.drop_zero]
    rw [if_pos (by omega)]
    simp only [Option.map_some, opt_some, storeN_ptr, h4]
    rw [List.take_of_length_le (by omega)]
    simp only [List.size_toArray, hl, List.toList_toArray]
    rw [if_pos ⟨trivial, by simp, hp⟩, opt_some]
    have h6 : H'.next > H.next + 1 := by omega
    simp only [AH.get_put_self _ _ h6, row_cells, splice]
    simp only [List.take_zero, List.nil_append, Nat.zero_add, hl]
    simp
    rw [if_pos (by omega)]
    simp
    rw [List.take_of_length_le (by omega)]
    exact hQ' _ (h1.put (b := H.next + 1) (by omega) _)
theorem S.pinfoldlaw04_Ref (hE : Fold E) (r : RecD) (hr : r.ok) (hQ : ∀ H', Ext H H' → Q (wordsV r) H') : E.call (E.fid i.pinfoldlaw04_Ref) [r.v] H Q := by
  apply hE.pinfoldlaw04_Ref
  obtain ⟨n, a, t, x0, x1, x2, x3, x4, x5, rfl⟩ := RecD.ok_cases hr
  simp [F.pinfoldlaw04_Ref, RecD.cells, AH.get_new, Nat.add_assoc]
  refine S.pinfoldref03_Of hE ⟨n, a, t, [x0, x1, x2, x3, x4, x5]⟩ rfl fun H4 h4 => ?_
  have hg := h4.get (b := H.next + 1) (by simp)
  simp [AH.get_new, Nat.add_assoc] at hg
  have hn : H4.next > H.next + 1 := by have := h4.1; simp at this; omega
  simp [hg, RecD.words, AH.get_put, hn, splice]
  exact hQ _ ((((Ext.refl H).new _).new _).trans h4 |>.put (b := H.next + 1) (by omega) _)
theorem same_u8s (a b : List (BitVec 8)) (h : a.length = b.length) : sameCells (List.replicate a.length 0) (a.map u8) (b.map u8) = some (decide (a = b)) := by
  induction a generalizing b with
  | nil => cases b <;> simp at h ⊢
  | cons x a ih =>
    cases b with
    | nil => simp at h
    | cons y b =>
      simp only [List.length_cons, List.replicate_succ, List.map_cons, sameCells_cons, same_u8, Option.bind_some]
      rw [ih b (by simpa using h)]
      simp [Bool.decide_and]
theorem S.RecordBytes_end (hE : Fold E) (r : RecD) (hr : r.ok) (a : BitVec 32) (v7 v8 : Value) (b3 : Nat) (hg : H.get b3 = .cells r.cells none) (hQ : ∀ H', Q (vb true) H') (X : List Value → AH → Prop) :
    F.pinfoldlaw04_RecordBytes_l1 E Q (u32 a) (ptr b3 0) v7 v8 (vi 16) H X := by
  have hl9 : r.cells.length = 9 := by
    obtain ⟨n, a, t, x0, x1, x2, x3, x4, x5, rfl⟩ := RecD.ok_cases hr
    rfl
  simp [F.pinfoldlaw04_RecordBytes_l1, hg]
  rw [if_pos (by omega), List.take_of_length_le (by omega)]
  simp only [Option.map_some, opt_some]
  refine S.record_Record_Word hE r hr a fun H1 h1 => ?_
  simp
  have hm : (a % 4#32 = 0#32) ↔ a.toNat % 4 = 0 := by
    rw [← BitVec.toNat_inj]; simp
  by_cases h1 : a.toNat % 4 = 0
  · have e1 : a % 4#32 = 0#32 := hm.2 h1
    by_cases h2 : a.toNat ≤ 60
    · simp [e1, h2, rword, h1]
      exact hQ _
    · simp [e1, h2, rword, h1]
      exact hQ _
  · have e1 : ¬ a % 4#32 = 0#32 := fun e => h1 (hm.1 e)
    simp [e1, rword, h1]
    exact hQ _
theorem S.RecordBytes_ (hE : Fold E) (r : RecD) (hr : r.ok) (l : List (BitVec 8)) (hl : l.length = 64) (a : BitVec 32) (hA : ∀ {H Q}, Q (vb true) H → E.call (E.fid i.pinfoldlaw04_Awake) [] H Q) (hQ : ∀ H', Q (vb true) H') :
    E.call (E.fid i.pinfoldlaw04_RecordBytes) [r.v, bytesV l, u32 a] H Q := by
  apply hE.pinfoldlaw04_RecordBytes
  unfold F.pinfoldlaw04_RecordBytes
  have hl9 : r.cells.length = 9 := by
    obtain ⟨n, a, t, x0, x1, x2, x3, x4, x5, rfl⟩ := RecD.ok_cases hr
    rfl
  simp only [boxO_agg, mk_some, mkPtr_eq, AH.next_new]
  apply hA
  simp only [un_not, opt_some, Bool.not_true, ifB_false]
  generalize hH2 : (H.new _).new _ = H2
  have g1 : H2.get H.next = .cells r.cells none := by subst hH2; simp [AH.get_new]
  have g2 : H2.get (H.next + 1) = .cells (l.map u8) none := by subst hH2; simp [AH.get_new]
  have x2 : Ext H H2 := by subst hH2; exact ((Ext.refl H).new _).new _
  clear hH2
  have ld9 : ∀ {H' : AH}, H'.get H.next = .cells r.cells none → loadN 9 (ptr H.next 0) H' = some r.v := by
    intro H' h
    rw [loadN_ptr, h, row_cells, if_pos (by omega)]
    simp [List.take_of_length_le (by omega : r.cells.length ≤ 9)]
  have ld64 : ∀ {H' : AH} {b : Nat} {m : List (BitVec 8)}, m.length = 64 → H'.get b = .cells (m.map u8) none → loadN 64 (ptr b 0) H' = some (bytesV m) := by
    intro H' b m hm h
    rw [loadN_ptr, h, row_cells, if_pos (by simp [hm])]
    simp [List.take_of_length_le (by simp [hm] : (m.map u8).length ≤ 64)]
  rw [ld9 g1, opt_some]
  refine S.record_Record_Bytes hE r hr fun H4 h4 => ?_
  have hb := bytes_len r hr
  simp only [allocW_eq]
  have s64 : ∀ {H' : AH} {b : Nat} {cs : List Value} {m : List (BitVec 8)}, m.length = 64 → cs.length = 64 → H'.get b = .cells cs none → storeN 64 (ptr b 0) (bytesV m) H' = some (H'.put b (.cells (m.map u8) none)) := by
    intro H' b cs m hm hc h
    rw [storeN_ptr, h]
    simp [hm, hc, splice, List.drop_eq_nil_of_le (by omega : cs.length ≤ 64)]
  rw [s64 hb (by simp) (AH.get_new_self _ _), opt_some, AH.new_put]
  generalize hH6 : H4.new _ = H6
  have x6 : Ext H2 H6 := by subst hH6; exact h4.new _
  have k6 : H6.get H4.next = .cells (r.bytes.map u8) none := by subst hH6; simp
  clear hH6
  rw [ld9 (x6.cells g1), opt_some]
  refine S.pinfoldlaw04_Ref hE r hr fun H7 h7 => ?_
  have hw := words_len r hr
  have s16 : storeN 16 (ptr H7.next 0) (wordsV r) (H7.new (.cells (zs 16 (u32 0#32)) none)) = some (H7.new (.cells (r.words.map u32) none)) := by
    rw [storeN_ptr, AH.get_new_self]
    simp [hw, splice]
  have z32 : (Value.int IntKind.u32 0) = u32 0#32 := rfl
  rw [z32, s16, opt_some]
  generalize hH9 : H7.new _ = H9
  have x9 : Ext H6 H9 := by subst hH9; exact h7.new _
  have k9 : H9.get H7.next = .cells (r.words.map u32) none := by subst hH9; simp
  have j9 : H9.get H4.next = .cells (r.bytes.map u8) none := x9.cells k6
  have g19 : H9.get H.next = .cells r.cells none := x9.cells (x6.cells g1)
  have g29 : H9.get (H.next + 1) = .cells (l.map u8) none := x9.cells (x6.cells g2)
  clear hH9
  rw [ld64 hb j9, opt_some, ld9 g19, opt_some]
  refine S.record_Of hE r.bytes hb fun H10 h10 => ⟨?_, ?_⟩
  · rw [ld9 (h10.cells g19)]
  rw [recOf_bytes r hr]
  have e9 : binAgg (List.replicate 9 0) .neq r.v r.v = some (.bool false) := by
    obtain ⟨n, a, t, x0, x1, x2, x3, x4, x5, rfl⟩ := RecD.ok_cases hr
    simp [RecD.cells]
  rw [e9, opt_some]
  have g2a : H10.get (H.next + 1) = .cells (l.map u8) none := h10.cells g29
  simp only [gd_ff]
  rw [ld64 hl g2a, opt_some, opt_some]
  refine S.record_Of hE l hl fun H13 h13 => ⟨?_, ?_⟩
  · rw [gdC_bool]; intro _; rw [ld64 hl (h13.cells g2a)]
  refine S.record_Record_Bytes hE _ (recOf_ok l) fun H14 h14 => ⟨?_, ?_⟩
  · rw [gdC_bool]; intro _; rw [ld64 hl (h14.cells (h13.cells g2a))]
  rw [bytes_recOf l hl]
  have e64 : binAgg (List.replicate 64 0) .neq (bytesV l) (bytesV l) = some (.bool false) := by
    rw [binAgg_neq]
    have := same_u8s l l rfl
    rw [hl] at this
    rw [this]; simp

  rw [e64, opt_some, pick_false, opt_some, ifB_false]
  have x14 : Ext H9 H14 := (h10.trans h13).trans h14
  refine LoopL.count 16 (fun i s H' => s = [u32 a, ptr H.next 0, ptr H4.next 0, ptr H7.next 0, vi i] ∧ Ext H14 H') ?_ ⟨rfl, Ext.refl _⟩
  rintro i _ H' X hi hX ⟨rfl, hx⟩
  have hx9 := x14.trans hx
  by_cases hi16 : i = 16
  · subst hi16
    exact S.RecordBytes_end hE r hr a _ _ _ (hx9.cells g19) hQ X
  have hi' : i < 16 := by omega
  have kb : H'.get H4.next = .cells (r.bytes.map u8) none := hx9.cells j9
  have kw : H'.get H7.next = .cells (r.words.map u32) none := hx9.cells k9
  have kr : H'.get H.next = .cells r.cells none := hx9.cells g19
  have bb : ∀ k (hk : k < 4), (r.bytes.map u8)[4 * i + k]? = some (u8 (byteAt (r.words[i]'(by omega)) k)) := by
    intro k hk
    rw [List.getElem?_map, List.getElem?_eq_getElem (by omega), bytes_byte r hr i k hi' hk]; rfl
  have b0 := bb 0 (by omega)
  have b1 := bb 1 (by omega)
  have b2 := bb 2 (by omega)
  have b3 := bb 3 (by omega)
  have wi : (r.words.map u32)[i]? = some (u32 (r.words[i]'(by omega))) := by
    rw [List.getElem?_map, List.getElem?_eq_getElem (by omega)]; rfl
  generalize hwx : r.words[i]'(by omega) = x at *
  have m4 : binInt .mul (vi 4) (vi i) = some (vi ((4 * i : Nat) : Int)) := by rw [i64_mul (by omega) (by omega)]; simp
  have a1 : binInt .add (vi ((4 * i : Nat) : Int)) (vi 1) = some (vi ((4 * i + 1 : Nat) : Int)) := by rw [i64_add (by omega) (by omega)]; simp
  have a2 : binInt .add (vi ((4 * i : Nat) : Int)) (vi 2) = some (vi ((4 * i + 2 : Nat) : Int)) := by rw [i64_add (by omega) (by omega)]; simp
  have a3 : binInt .add (vi ((4 * i : Nat) : Int)) (vi 3) = some (vi ((4 * i + 3 : Nat) : Int)) := by rw [i64_add (by omega) (by omega)]; simp
  have p0 : ixArr 64 1 (ptr H4.next 0) (vi ((4 * i : Nat) : Int)) = some (ptr H4.next (4 * i + 0)) := by rw [ixArr_nat 64 1 _ _ (4 * i) (by omega)]; simp
  have p1 : ixArr 64 1 (ptr H4.next 0) (vi ((4 * i + 1 : Nat) : Int)) = some (ptr H4.next (4 * i + 1)) := by rw [ixArr_nat 64 1 _ _ (4 * i + 1) (by omega)]; simp
  have p2 : ixArr 64 1 (ptr H4.next 0) (vi ((4 * i + 2 : Nat) : Int)) = some (ptr H4.next (4 * i + 2)) := by rw [ixArr_nat 64 1 _ _ (4 * i + 2) (by omega)]; simp
  have p3 : ixArr 64 1 (ptr H4.next 0) (vi ((4 * i + 3 : Nat) : Int)) = some (ptr H4.next (4 * i + 3)) := by rw [ixArr_nat 64 1 _ _ (4 * i + 3) (by omega)]; simp
  have pw : ∀ {H'' : AH}, Ext H' H'' → ixArr 16 1 (ptr H7.next 0) (vi i) = some (ptr H7.next i) ∧ load1 (ptr H7.next i) H'' = some (u32 x) := by
    intro H'' h
    refine ⟨by rw [ixArr_nat 16 1 _ _ i hi']; simp, ?_⟩
    rw [load1_ptr, h.cells kw, cell_cells, wi]
  have ho := or4 x
  simp only [F.pinfoldlaw04_RecordBytes_l1, nth_0, nth_1, nth_2, nth_3, nth_4, i64_lss, opt_some]
  rw [show decide ((i : Int) < 16) = true by simp; omega]
  simp only [ifB_true, m4, opt_some, p0, load1_ptr, kb, cell_cells, b0, u8_to_u32, a1, p1, b1, a2, p2, b2, a3, p3, b3]
  simp

  rw [ho, kr, row_cells, if_pos (by omega), List.take_of_length_le (by simp; omega)]
  simp only [Option.map_some, opt_some, List.drop_zero]
  have e4 : BitVec.ofInt 32 (4 * (i : Int)) = BitVec.ofNat 32 (4 * i) := by
    rw [show (4 : Int) * (i : Int) = ((4 * i : Nat) : Int) by omega, BitVec.ofInt_natCast]
  rw [e4]
  refine S.record_Record_Word hE r hr _ fun H1 h1 => ?_
  have ew : rword r (BitVec.ofNat 32 (4 * i)) = (x, true) := by
    unfold rword
    have : (BitVec.ofNat 32 (4 * i)).toNat = 4 * i := by rw [BitVec.toNat_ofNat]; apply Nat.mod_eq_of_lt; omega
    rw [this, if_pos (by omega), show 4 * i / 4 = i by omega, List.getD_eq_getElem?_getD, List.getElem?_eq_getElem (by omega)]
    simp [hwx]
  rw [ew]
  obtain ⟨w1, w2⟩ := pw h1
  rw [load1_ptr] at w2
  simp [w1, w2]
  rw [i64_inc (by omega)]
  exact hX hi' _ _ ⟨rfl, hx.trans h1⟩
theorem SV.bytes64 {cs : List Value} (h : SV H (.arr 64 (.int .u8)) cs) : ∃ l : List (BitVec 8), l.length = 64 ∧ cs = l.map AM.u8 := by
  obtain ⟨rows, hl, rfl, hr⟩ := h
  obtain ⟨l, rfl⟩ := rows_map (f := AM.u8) fun r h => (hr r h).u8
  refine ⟨l, by simpa using hl, ?_⟩
  have := flatten_single (l.map AM.u8)
  rw [List.map_map] at this
  simpa [Function.comp_def] using this
theorem S.law_RecordBytes (hE : Fold E) (args : List Value) (ha : ArgsSV H [recSh, .arr 64 (.int .u8), .int .u32] args) (hQ : ∀ H', Q (vb true) H') : E.call (E.fid i.pinfoldlaw04_RecordBytes) args H Q := by
  obtain ⟨v1, _, rfl, h1, ha⟩ := ha.cons_inv
  obtain ⟨v2, _, rfl, h2, ha⟩ := ha.cons_inv
  obtain ⟨v3, _, rfl, h3, ha⟩ := ha.cons_inv
  obtain rfl := ha.nil_inv
  obtain ⟨r, hr, rfl⟩ := h1.rec
  obtain ⟨cs, rfl, h2⟩ := h2
  obtain ⟨l, hl, rfl⟩ := SV.bytes64 h2
  obtain ⟨a, rfl⟩ := h3.u32
  exact S.RecordBytes_ hE r hr l hl a (fun h => S.pinfoldlaw04_Awake hE h) hQ
end Go.AM
