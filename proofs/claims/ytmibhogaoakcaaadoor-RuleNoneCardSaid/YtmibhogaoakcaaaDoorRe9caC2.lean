/- CONTRACTS ON THE PRINTED FUNCTIONS. -/
import Derived.Test.YtmibhogaoakcaaaDoorRe9caC1
set_option linter.all false
section
namespace Go.AM
section
variable {E : Sy} {X : List Res} {H H' H0 Z : AH} {Q : Value → AH → Prop} {t w : Nat} {T T' : Tr} {M M' : List MntD} {nx nx' : Int} {L : List Res} {s : Nat} {d : SetD}
theorem S.rule_Set_Hold_nil (hE : Fold E) (v : Value) (b : Bool) (hQ : Q (.tuple #[]) H) : E.call (E.fid i.f40) [.pointer none, v, vb b] H Q := by
  apply hE.f40
  have hn : binNil eqPtr .eql (.pointer none) (.pointer none) = some (vb true) := rfl
  simp only [F.f40, hn, nth_0, nth_1, nth_2, nth_3, nth_4, nth_5, nth_6, nth_7, nth_8, nth_9, nth_10, nth_11, nth_12, nth_13, nth_14, nth_15, nilCk_p, addOff_ptr, load1_ptr, Nat.zero_add, Nat.add_zero, cell_cells_z, List.getElem?_cons_zero, List.getElem?_cons_succ, gd_tt, gd_tf, gd_ft, gd_ff, gd_skip, pick_true_z, pick_false_z, un_not_z, Bool.not_true, Bool.not_false, ext_tuple, boxO_agg_z, List.toList_toArray, mkPtr_eq_z, AM.mk_some, mkSlc_eq, opt2_some, AH.next_new_z, tk_eq, opt_some, ifB_true, ifB_false]
  exact hQ
theorem S.rule_Set_Inodes_nil (hE : Fold E) (hQ : Q nilS H) : E.call (E.fid i.f41) [.pointer none] H Q := by
  apply hE.f41
  have hn : binNil eqPtr .eql (.pointer none) (.pointer none) = some (vb true) := rfl
  simp only [F.f41, hn, nth_0, nth_1, nth_2, nth_3, nth_4, nth_5, nth_6, nth_7, nth_8, nth_9, nth_10, nth_11, nth_12, nth_13, nth_14, nth_15, nilCk_p, addOff_ptr, load1_ptr, Nat.zero_add, Nat.add_zero, cell_cells_z, List.getElem?_cons_zero, List.getElem?_cons_succ, gd_tt, gd_tf, gd_ft, gd_ff, gd_skip, pick_true_z, pick_false_z, un_not_z, Bool.not_true, Bool.not_false, ext_tuple, boxO_agg_z, List.toList_toArray, mkPtr_eq_z, AM.mk_some, mkSlc_eq, opt2_some, AH.next_new_z, tk_eq, opt_some, ifB_true, ifB_false]
  exact hQ
theorem S.rule_Set_Handled_nil (hE : Fold E) (hQ : Q (u16 0#16) H) : E.call (E.fid i.f39) [.pointer none] H Q := by
  apply hE.f39
  have hn : binNil eqPtr .eql (.pointer none) (.pointer none) = some (vb true) := rfl
  simp only [F.f39, hn, nth_0, nth_1, nth_2, nth_3, nth_4, nth_5, nth_6, nth_7, nth_8, nth_9, nth_10, nth_11, nth_12, nth_13, nth_14, nth_15, nilCk_p, addOff_ptr, load1_ptr, Nat.zero_add, Nat.add_zero, cell_cells_z, List.getElem?_cons_zero, List.getElem?_cons_succ, gd_tt, gd_tf, gd_ft, gd_ff, gd_skip, pick_true_z, pick_false_z, un_not_z, Bool.not_true, Bool.not_false, ext_tuple, boxO_agg_z, List.toList_toArray, mkPtr_eq_z, AM.mk_some, mkSlc_eq, opt2_some, AH.next_new_z, tk_eq, opt_some, ifB_true, ifB_false]
  exact hQ
theorem S.rule_Set_At_nil (hE : Fold E) (n : BitVec 16) (hQ : Q (u16 0#16) H) : E.call (E.fid i.f36) [.pointer none, u16 n] H Q := by
  apply hE.f36
  have hn : binNil eqPtr .eql (.pointer none) (.pointer none) = some (vb true) := rfl
  simp only [F.f36, hn, nth_0, nth_1, nth_2, nth_3, nth_4, nth_5, nth_6, nth_7, nth_8, nth_9, nth_10, nth_11, nth_12, nth_13, nth_14, nth_15, nilCk_p, addOff_ptr, load1_ptr, Nat.zero_add, Nat.add_zero, cell_cells_z, List.getElem?_cons_zero, List.getElem?_cons_succ, gd_tt, gd_tf, gd_ft, gd_ff, gd_skip, pick_true_z, pick_false_z, un_not_z, Bool.not_true, Bool.not_false, ext_tuple, boxO_agg_z, List.toList_toArray, mkPtr_eq_z, AM.mk_some, mkSlc_eq, opt2_some, AH.next_new_z, tk_eq, opt_some, ifB_true, ifB_false]
  exact hQ
theorem S.rule_Set_Port_nil (hE : Fold E) (a b : BitVec 16) (hQ : Q (vb true) H) : E.call (E.fid i.f42) [.pointer none, u16 a, u16 b] H Q := by
  apply hE.f42
  have hn : binNil eqPtr .eql (.pointer none) (.pointer none) = some (vb true) := rfl
  simp only [F.f42, hn, nth_0, nth_1, nth_2, nth_3, nth_4, nth_5, nth_6, nth_7, nth_8, nth_9, nth_10, nth_11, nth_12, nth_13, nth_14, nth_15, nilCk_p, addOff_ptr, load1_ptr, Nat.zero_add, Nat.add_zero, cell_cells_z, List.getElem?_cons_zero, List.getElem?_cons_succ, gd_tt, gd_tf, gd_ft, gd_ff, gd_skip, pick_true_z, pick_false_z, un_not_z, Bool.not_true, Bool.not_false, ext_tuple, boxO_agg_z, List.toList_toArray, mkPtr_eq_z, AM.mk_some, mkSlc_eq, opt2_some, AH.next_new_z, tk_eq, opt_some, ifB_true, ifB_false]
  exact hQ
theorem S.rule_Set_Granted_nil (hE : Fold E) (n : BitVec 16) (v : Value) (l : List PlaceD) (hv : Rows H 2 v (placeR l)) (hl : l.length < 2 ^ 63) (hQ : ∀ H', Ext H H' → Q (u16 0#16) H') : E.call (E.fid i.f38) [.pointer none, u16 n, v] H Q := by
  apply hE.f38
  simp only [F.f38]
  refine S.rule_Set_At_nil hE n ?_
  have hls := hv.lenSlc
  rw [placeR_length] at hls
  simp only [hls, nth_0, nth_1, nth_2, nth_3, nth_4, nth_5, nth_6, nth_7, nth_8, nth_9, nth_10, nth_11, nth_12, nth_13, nth_14, nth_15, nilCk_p, addOff_ptr, load1_ptr, Nat.zero_add, Nat.add_zero, cell_cells_z, List.getElem?_cons_zero, List.getElem?_cons_succ, gd_tt, gd_tf, gd_ft, gd_ff, gd_skip, pick_true_z, pick_false_z, un_not_z, Bool.not_true, Bool.not_false, ext_tuple, boxO_agg_z, List.toList_toArray, mkPtr_eq_z, AM.mk_some, mkSlc_eq, opt2_some, AH.next_new_z, tk_eq, opt_some, ifB_true, ifB_false]
  refine LoopL.count l.length (fun j ls H' => ls = [.pointer none, u16 0#16, v, vi l.length, vi j] ∧ Ext H H') ?_ ⟨rfl, Ext.refl _⟩
  rintro j _ H1 X hj hX ⟨rfl, e1⟩
  rcases Nat.lt_or_ge j l.length with hjl | hjl
  · have hX := hX hjl
    have hjl' : (j : Int) < l.length := by omega
    have hjj := i64_inc (i := j) (by omega)
    obtain ⟨b, o, f1, f2⟩ := (hv.mono e1).ix (i := j) (by rw [placeR_length]; exact hjl)
    have hrow : (placeR l)[j]'(by rw [placeR_length]; exact hjl) = (l[j]).cells := by simp [placeR]
    rw [hrow] at f2
    generalize l[j] = p at *
    have hlo : loadN 2 (ptr b o) H1 = some p.v := by rw [loadN_ptr, f2]; rfl
    have hst : storeN 2 (ptr H1.next 0) p.v (H1.new (.cells [(.int .i64 0), (.int .u16 0)] none)) = some (H1.new (.cells p.cells none)) := two_store rfl rfl rfl
    have x2 : Ext H1 (H1.new (.cells p.cells none)) := (Ext.refl H1).new _
    have c1 : p.cells[1]? = some (u16 p.i) := rfl
    simp only [F.f38_l1, i64_lss, hjl', decide_true, f1, hlo, allocW_eq, hst, AH.get_new_self, c1, nth_0, nth_1, nth_2, nth_3, nth_4, nth_5, nth_6, nth_7, nth_8, nth_9, nth_10, nth_11, nth_12, nth_13, nth_14, nth_15, nilCk_p, addOff_ptr, load1_ptr, Nat.zero_add, Nat.add_zero, cell_cells_z, List.getElem?_cons_zero, List.getElem?_cons_succ, gd_tt, gd_tf, gd_ft, gd_ff, gd_skip, pick_true_z, pick_false_z, un_not_z, Bool.not_true, Bool.not_false, ext_tuple, boxO_agg_z, List.toList_toArray, mkPtr_eq_z, AM.mk_some, mkSlc_eq, opt2_some, AH.next_new_z, tk_eq, opt_some, ifB_true, ifB_false]
    refine S.rule_Set_At_nil hE p.i ?_
    simp only [u16_or, BitVec.or_self, hjj, nth_0, nth_1, nth_2, nth_3, nth_4, nth_5, nth_6, nth_7, nth_8, nth_9, nth_10, nth_11, nth_12, nth_13, nth_14, nth_15, nilCk_p, addOff_ptr, load1_ptr, Nat.zero_add, Nat.add_zero, cell_cells_z, List.getElem?_cons_zero, List.getElem?_cons_succ, gd_tt, gd_tf, gd_ft, gd_ff, gd_skip, pick_true_z, pick_false_z, un_not_z, Bool.not_true, Bool.not_false, ext_tuple, boxO_agg_z, List.toList_toArray, mkPtr_eq_z, AM.mk_some, mkSlc_eq, opt2_some, AH.next_new_z, tk_eq, opt_some, ifB_true, ifB_false]
    exact hX _ _ ⟨rfl, e1.trans x2⟩
  · have hjl' : ¬ (j : Int) < l.length := by omega
    simp only [F.f38_l1, i64_lss, hjl', decide_false, nth_0, nth_1, nth_2, nth_3, nth_4, nth_5, nth_6, nth_7, nth_8, nth_9, nth_10, nth_11, nth_12, nth_13, nth_14, nth_15, nilCk_p, addOff_ptr, load1_ptr, Nat.zero_add, Nat.add_zero, cell_cells_z, List.getElem?_cons_zero, List.getElem?_cons_succ, gd_tt, gd_tf, gd_ft, gd_ff, gd_skip, pick_true_z, pick_false_z, un_not_z, Bool.not_true, Bool.not_false, ext_tuple, boxO_agg_z, List.toList_toArray, mkPtr_eq_z, AM.mk_some, mkSlc_eq, opt2_some, AH.next_new_z, tk_eq, opt_some, ifB_true, ifB_false]
    exact hQ _ e1
theorem S.rule_Set_Denied_nil (hE : Fold E) (want n : BitVec 16) (v : Value) (l : List PlaceD) (hv : Rows H 2 v (placeR l)) (hl : l.length < 2 ^ 63) (hQ : ∀ H', Ext H H' → Q (u16 0#16) H') : E.call (E.fid i.f37) [.pointer none, u16 want, u16 n, v] H Q := by
  apply hE.f37
  simp only [F.f37]
  refine S.rule_Set_Handled_nil hE ?_
  simp only [u16_and, BitVec.and_zero, nth_0, nth_1, nth_2, nth_3, nth_4, nth_5, nth_6, nth_7, nth_8, nth_9, nth_10, nth_11, nth_12, nth_13, nth_14, nth_15, nilCk_p, addOff_ptr, load1_ptr, Nat.zero_add, Nat.add_zero, cell_cells_z, List.getElem?_cons_zero, List.getElem?_cons_succ, gd_tt, gd_tf, gd_ft, gd_ff, gd_skip, pick_true_z, pick_false_z, un_not_z, Bool.not_true, Bool.not_false, ext_tuple, boxO_agg_z, List.toList_toArray, mkPtr_eq_z, AM.mk_some, mkSlc_eq, opt2_some, AH.next_new_z, tk_eq, opt_some, ifB_true, ifB_false]
  refine S.rule_Set_Granted_nil hE n v l hv hl fun H1 e1 => ?_
  simp only [u16_andNot, BitVec.zero_and, nth_0, nth_1, nth_2, nth_3, nth_4, nth_5, nth_6, nth_7, nth_8, nth_9, nth_10, nth_11, nth_12, nth_13, nth_14, nth_15, nilCk_p, addOff_ptr, load1_ptr, Nat.zero_add, Nat.add_zero, cell_cells_z, List.getElem?_cons_zero, List.getElem?_cons_succ, gd_tt, gd_tf, gd_ft, gd_ff, gd_skip, pick_true_z, pick_false_z, un_not_z, Bool.not_true, Bool.not_false, ext_tuple, boxO_agg_z, List.toList_toArray, mkPtr_eq_z, AM.mk_some, mkSlc_eq, opt2_some, AH.next_new_z, tk_eq, opt_some, ifB_true, ifB_false]
  exact hQ _ e1
theorem S.rule_Same_nil (hE : Fold E) (v : Value) (x : Bool) (hx : binNil eqPtr .eql (.pointer none) v = some (vb x)) (hQ : Q (vb x) H) : E.call (E.fid i.f35) [.pointer none, v] H Q := by
  apply hE.f35
  have hn : binNil eqPtr .eql (.pointer none) (.pointer none) = some (vb true) := rfl
  simp only [F.f35, hn, hx, nth_0, nth_1, nth_2, nth_3, nth_4, nth_5, nth_6, nth_7, nth_8, nth_9, nth_10, nth_11, nth_12, nth_13, nth_14, nth_15, nilCk_p, addOff_ptr, load1_ptr, Nat.zero_add, Nat.add_zero, cell_cells_z, List.getElem?_cons_zero, List.getElem?_cons_succ, gd_tt, gd_tf, gd_ft, gd_ff, gd_skip, pick_true_z, pick_false_z, un_not_z, Bool.not_true, Bool.not_false, ext_tuple, boxO_agg_z, List.toList_toArray, mkPtr_eq_z, AM.mk_some, mkSlc_eq, opt2_some, AH.next_new_z, tk_eq, opt_some, ifB_true, ifB_false]
  exact hQ
theorem S.rule_Of_nil (hE : Fold E) (cs : List Value) (c : PlaceD) (hQ : ∀ H', Ext H H' → Q (.tuple #[.pointer none, vi 201]) H') : E.call (E.fid i.f34) [.agg cs.toArray, .pointer none, c.v] H Q := by
  apply hE.f34
  have hn : binNil eqPtr .eql (.pointer none) (.pointer none) = some (vb true) := rfl
  have hc : c.v = .agg c.cells.toArray := rfl
  simp only [F.f34, hc, hn, nth_0, nth_1, nth_2, nth_3, nth_4, nth_5, nth_6, nth_7, nth_8, nth_9, nth_10, nth_11, nth_12, nth_13, nth_14, nth_15, nilCk_p, addOff_ptr, load1_ptr, Nat.zero_add, Nat.add_zero, cell_cells_z, List.getElem?_cons_zero, List.getElem?_cons_succ, gd_tt, gd_tf, gd_ft, gd_ff, gd_skip, pick_true_z, pick_false_z, un_not_z, Bool.not_true, Bool.not_false, ext_tuple, boxO_agg_z, List.toList_toArray, mkPtr_eq_z, AM.mk_some, mkSlc_eq, opt2_some, AH.next_new_z, tk_eq, opt_some, ifB_true, ifB_false]
  exact hQ _ (((Ext.refl H).new _).new _)
theorem S.f32 (hE : Fold E) (x : PolX) (cs : List Value) (hx : PolXAt H x cs) (want n : BitVec 16) (v : Value) (l : List PlaceD) (hv : Rows H 2 v (placeR l)) (hQ : ∀ H', Q (vb true) H') : E.call (E.fid i.f32) [.agg cs.toArray, u16 want, u16 n, v] H Q := by
  apply hE.f32
  have x1 : Ext H (H.new (.cells cs none)) := (Ext.refl _).new _
  have hb1 := AH.get_new_self H (.cells cs none)
  have hlen : cs.length = 6 := by
    obtain ⟨v, pv, qv, rfl, _⟩ := hx
    rfl
  have hv := hv.mono x1
  simp only [F.f32, nth_0, nth_1, nth_2, nth_3, nth_4, nth_5, nth_6, nth_7, nth_8, nth_9, nth_10, nth_11, nth_12, nth_13, nth_14, nth_15, nilCk_p, addOff_ptr, load1_ptr, Nat.zero_add, Nat.add_zero, cell_cells_z, List.getElem?_cons_zero, List.getElem?_cons_succ, gd_tt, gd_tf, gd_ft, gd_ff, gd_skip, pick_true_z, pick_false_z, un_not_z, Bool.not_true, Bool.not_false, ext_tuple, boxO_agg_z, List.toList_toArray, mkPtr_eq_z, AM.mk_some, mkSlc_eq, opt2_some, AH.next_new_z, tk_eq, opt_some, ifB_true, ifB_false]
  generalize H.new (.cells cs none) = H1 at *
  refine S.f31 hE fun H2 e2 => ?_
  have hlv := hv.lenSlc
  rw [placeR_length] at hlv
  simp only [hlv, i64_gtr, nth_0, nth_1, nth_2, nth_3, nth_4, nth_5, nth_6, nth_7, nth_8, nth_9, nth_10, nth_11, nth_12, nth_13, nth_14, nth_15, nilCk_p, addOff_ptr, load1_ptr, Nat.zero_add, Nat.add_zero, cell_cells_z, List.getElem?_cons_zero, List.getElem?_cons_succ, gd_tt, gd_tf, gd_ft, gd_ff, gd_skip, pick_true_z, pick_false_z, un_not_z, Bool.not_true, Bool.not_false, ext_tuple, boxO_agg_z, List.toList_toArray, mkPtr_eq_z, AM.mk_some, mkSlc_eq, opt2_some, AH.next_new_z, tk_eq, opt_some, ifB_true, ifB_false]
  by_cases hbig : (20 : Int) < l.length
  · simp only [hbig, gt_iff_lt, decide_true, nth_0, nth_1, nth_2, nth_3, nth_4, nth_5, nth_6, nth_7, nth_8, nth_9, nth_10, nth_11, nth_12, nth_13, nth_14, nth_15, nilCk_p, addOff_ptr, load1_ptr, Nat.zero_add, Nat.add_zero, cell_cells_z, List.getElem?_cons_zero, List.getElem?_cons_succ, gd_tt, gd_tf, gd_ft, gd_ff, gd_skip, pick_true_z, pick_false_z, un_not_z, Bool.not_true, Bool.not_false, ext_tuple, boxO_agg_z, List.toList_toArray, mkPtr_eq_z, AM.mk_some, mkSlc_eq, opt2_some, AH.next_new_z, tk_eq, opt_some, ifB_true, ifB_false]
    exact hQ _
  have hl : l.length < 2 ^ 63 := by omega
  simp only [hbig, gt_iff_lt, decide_false, nth_0, nth_1, nth_2, nth_3, nth_4, nth_5, nth_6, nth_7, nth_8, nth_9, nth_10, nth_11, nth_12, nth_13, nth_14, nth_15, nilCk_p, addOff_ptr, load1_ptr, Nat.zero_add, Nat.add_zero, cell_cells_z, List.getElem?_cons_zero, List.getElem?_cons_succ, gd_tt, gd_tf, gd_ft, gd_ff, gd_skip, pick_true_z, pick_false_z, un_not_z, Bool.not_true, Bool.not_false, ext_tuple, boxO_agg_z, List.toList_toArray, mkPtr_eq_z, AM.mk_some, mkSlc_eq, opt2_some, AH.next_new_z, tk_eq, opt_some, ifB_true, ifB_false]
  refine S.f72 hE 3 fun w H3 h3 => ?_
  refine S.rule_Set_Hold_nil hE _ true ?_
  have hlo : ∀ {H'}, Ext H1 H' → loadN 6 (ptr H.next 0) H' = some (.agg cs.toArray) := fun e => by rw [loadN_ptr, e.cells hb1, row_all _ _ 6 hlen]; rfl
  have e3 := e2.trans h3.ext
  simp only [hlo e3, nth_0, nth_1, nth_2, nth_3, nth_4, nth_5, nth_6, nth_7, nth_8, nth_9, nth_10, nth_11, nth_12, nth_13, nth_14, nth_15, nilCk_p, addOff_ptr, load1_ptr, Nat.zero_add, Nat.add_zero, cell_cells_z, List.getElem?_cons_zero, List.getElem?_cons_succ, gd_tt, gd_tf, gd_ft, gd_ff, gd_skip, pick_true_z, pick_false_z, un_not_z, Bool.not_true, Bool.not_false, ext_tuple, boxO_agg_z, List.toList_toArray, mkPtr_eq_z, AM.mk_some, mkSlc_eq, opt2_some, AH.next_new_z, tk_eq, opt_some, ifB_true, ifB_false]
  refine S.f30 hE fun H5 e5 => ?_
  have e5' := e3.trans e5
  refine ⟨(hlo e5').trans (hlo e3).symm, ?_⟩
  refine S.rule_Of_nil hE cs _ fun H6 e6 => ?_
  have sp : (.string ⟨#[47, 97]⟩ : Value) = str [47, 97] := rfl
  have s0 : (.string ⟨#[]⟩ : Value) = str [] := rfl
  have n4 : (.int .u16 4 : Value) = u16 4#16 := rfl
  have n0 : (.int .u16 0 : Value) = u16 0#16 := rfl
  have b1 : buildV [(0, 1), (1, 1)] #[str [], u16 0#16] [(0, str [47, 97]), (1, u16 4#16)] = some (.agg #[str [47, 97], u16 4#16]) := rfl
  have b2 := buildS_one 2 [str [], u16 0#16] [str [47, 97], u16 4#16] rfl rfl
  have b2 : buildS 1 2 #[str [], u16 0#16] [(0, .agg #[str [47, 97], u16 4#16])] = some (.cells [str [47, 97], u16 4#16] none, mkSlc 1 1) := b2
  have z32 : (.int .u32 0 : Value) = u32 0#32 := rfl
  have b3 : ∀ v, buildV [(0, 1), (1, 1), (2, 1), (3, 1), (4, 1), (5, 1)] #[str [], u32 0#32, (.slice none 0 0), u16 0#16, (.slice none 0 0), (.slice none 0 0)] [(3, u16 4#16), (4, slc v 0 1 1)] = some (.agg #[str [], u32 0#32, nilS, u16 4#16, slc v 0 1 1, nilS]) := fun v => rfl
  have b4 : buildV [(0, 1), (1, 1), (2, 1), (3, 1), (4, 1), (5, 1)] #[str [], u32 0#32, (.slice none 0 0), u16 0#16, (.slice none 0 0), (.slice none 0 0)] [] = some (.agg #[str [], u32 0#32, nilS, u16 0#16, nilS, nilS]) := rfl
  simp only [sp, s0, n4, n0, b1, b2, z32, b3, nth_0, nth_1, nth_2, nth_3, nth_4, nth_5, nth_6, nth_7, nth_8, nth_9, nth_10, nth_11, nth_12, nth_13, nth_14, nth_15, nilCk_p, addOff_ptr, load1_ptr, Nat.zero_add, Nat.add_zero, cell_cells_z, List.getElem?_cons_zero, List.getElem?_cons_succ, gd_tt, gd_tf, gd_ft, gd_ff, gd_skip, pick_true_z, pick_false_z, un_not_z, Bool.not_true, Bool.not_false, ext_tuple, boxO_agg_z, List.toList_toArray, mkPtr_eq_z, AM.mk_some, mkSlc_eq, opt2_some, AH.next_new_z, tk_eq, opt_some, ifB_true, ifB_false]
  have e6' := e5'.trans e6
  have x7 : Ext H6 (H6.new (.cells [str [47, 97], u16 4#16] none)) := (Ext.refl _).new _
  have r7 : Rows (H6.new (.cells [str [47, 97], u16 4#16] none)) 2 (slc H6.next 0 1 1) ([([47, 97], 4#16)].map fun p : List UInt8 × BitVec 16 => [str p.1, u16 p.2]) := Rows.made (f := none) (by rw [AH.get_new_self]; rfl) (.inl rfl) rfl (by simp)
  have e7 := e6'.trans x7
  generalize H6.new (.cells [str [47, 97], u16 4#16] none) = H7 at *
  refine S.f72 hE 3 fun w2 H8 h8 => ?_
  refine S.f30 hE fun H9 e9 => ?_
  have h9 := h8.mono e9
  have hp : PolXAt H9 awkPol [str [], u32 0#32, nilS, u16 4#16, slc H6.next 0 1 1, nilS] := ⟨nilS, _, nilS, rfl, ⟨[], Rows.nil _ _ none, rfl, fun i h => by simp [awkPol] at h⟩, r7.mono h9.ext, Rows.nil _ _ none⟩
  have f2 : (awkPol.set (Tr.new 3) tab0 ⟨0, 1#16⟩).2 = 2 := by decide +kernel
  refine S.f34 hE h9.at_ (Tr.new_wf 3) (Tr.KD.lt (Tr.KD.new 3)) awkPol _ hp ⟨by decide, by decide⟩ (by simp [awkPol]) ⟨0, 1#16⟩ (fun _ H10 e10 => ?_) fun h => by rw [f2] at h; exact absurd h (by decide)
  rw [f2]
  simp only [s0, n0, b4, z32, nth_0, nth_1, nth_2, nth_3, nth_4, nth_5, nth_6, nth_7, nth_8, nth_9, nth_10, nth_11, nth_12, nth_13, nth_14, nth_15, nilCk_p, addOff_ptr, load1_ptr, Nat.zero_add, Nat.add_zero, cell_cells_z, List.getElem?_cons_zero, List.getElem?_cons_succ, gd_tt, gd_tf, gd_ft, gd_ff, gd_skip, pick_true_z, pick_false_z, un_not_z, Bool.not_true, Bool.not_false, ext_tuple, boxO_agg_z, List.toList_toArray, mkPtr_eq_z, AM.mk_some, mkSlc_eq, opt2_some, AH.next_new_z, tk_eq, opt_some, ifB_true, ifB_false]
  have e10' := e7.trans (h9.ext.trans e10)
  refine S.f72 hE 3 fun w3 H11 h11 => ?_
  refine S.f30 hE fun H12 e12 => ?_
  have h12 := h11.mono e12
  have hp0 : PolXAt H12 ⟨[], ⟨0#32, []⟩, 0#16, [], []⟩ [str [], u32 0#32, nilS, u16 0#16, nilS, nilS] := ⟨nilS, _, nilS, rfl, ⟨[], Rows.nil _ _ none, rfl, fun i h => by simp at h⟩, Rows.nil _ _ none, Rows.nil _ _ none⟩
  refine S.f34 hE h12.at_ (Tr.new_wf 3) (Tr.KD.lt (Tr.KD.new 3)) _ _ hp0 ⟨by decide, by decide⟩ (by simp) ⟨0, 1#16⟩ (fun h => (h rfl).elim) fun _ s H13 e13 _ hs13 => ?_
  have hl0 : AM.lenSlc nilS = some (vi 0) := rfl
  simp only [i64_eql, decide_true, nth_0, nth_1, nth_2, nth_3, nth_4, nth_5, nth_6, nth_7, nth_8, nth_9, nth_10, nth_11, nth_12, nth_13, nth_14, nth_15, nilCk_p, addOff_ptr, load1_ptr, Nat.zero_add, Nat.add_zero, cell_cells_z, List.getElem?_cons_zero, List.getElem?_cons_succ, gd_tt, gd_tf, gd_ft, gd_ff, gd_skip, pick_true_z, pick_false_z, un_not_z, Bool.not_true, Bool.not_false, ext_tuple, boxO_agg_z, List.toList_toArray, mkPtr_eq_z, AM.mk_some, mkSlc_eq, opt2_some, AH.next_new_z, tk_eq, opt_some, ifB_true, ifB_false]
  refine S.rule_Set_Inodes_nil hE ?_
  simp only [hl0, i64_eql, decide_true, nth_0, nth_1, nth_2, nth_3, nth_4, nth_5, nth_6, nth_7, nth_8, nth_9, nth_10, nth_11, nth_12, nth_13, nth_14, nth_15, nilCk_p, addOff_ptr, load1_ptr, Nat.zero_add, Nat.add_zero, cell_cells_z, List.getElem?_cons_zero, List.getElem?_cons_succ, gd_tt, gd_tf, gd_ft, gd_ff, gd_skip, pick_true_z, pick_false_z, un_not_z, Bool.not_true, Bool.not_false, ext_tuple, boxO_agg_z, List.toList_toArray, mkPtr_eq_z, AM.mk_some, mkSlc_eq, opt2_some, AH.next_new_z, tk_eq, opt_some, ifB_true, ifB_false]
  refine S.rule_Set_Handled_nil hE ?_
  simp only [nth_0, nth_1, nth_2, nth_3, nth_4, nth_5, nth_6, nth_7, nth_8, nth_9, nth_10, nth_11, nth_12, nth_13, nth_14, nth_15, nilCk_p, addOff_ptr, load1_ptr, Nat.zero_add, Nat.add_zero, cell_cells_z, List.getElem?_cons_zero, List.getElem?_cons_succ, gd_tt, gd_tf, gd_ft, gd_ff, gd_skip, pick_true_z, pick_false_z, un_not_z, Bool.not_true, Bool.not_false, ext_tuple, boxO_agg_z, List.toList_toArray, mkPtr_eq_z, AM.mk_some, mkSlc_eq, opt2_some, AH.next_new_z, tk_eq, opt_some, ifB_true, ifB_false]
  refine S.rule_Set_At_nil hE n ?_
  have hv13 := hv.mono (e10'.trans (h12.ext.trans e13))
  simp only [u16_add, BitVec.add_zero, nth_0, nth_1, nth_2, nth_3, nth_4, nth_5, nth_6, nth_7, nth_8, nth_9, nth_10, nth_11, nth_12, nth_13, nth_14, nth_15, nilCk_p, addOff_ptr, load1_ptr, Nat.zero_add, Nat.add_zero, cell_cells_z, List.getElem?_cons_zero, List.getElem?_cons_succ, gd_tt, gd_tf, gd_ft, gd_ff, gd_skip, pick_true_z, pick_false_z, un_not_z, Bool.not_true, Bool.not_false, ext_tuple, boxO_agg_z, List.toList_toArray, mkPtr_eq_z, AM.mk_some, mkSlc_eq, opt2_some, AH.next_new_z, tk_eq, opt_some, ifB_true, ifB_false]
  refine S.rule_Set_Granted_nil hE n v l hv13 hl fun H14 e14 => ?_
  simp only [u16_add, BitVec.add_zero, nth_0, nth_1, nth_2, nth_3, nth_4, nth_5, nth_6, nth_7, nth_8, nth_9, nth_10, nth_11, nth_12, nth_13, nth_14, nth_15, nilCk_p, addOff_ptr, load1_ptr, Nat.zero_add, Nat.add_zero, cell_cells_z, List.getElem?_cons_zero, List.getElem?_cons_succ, gd_tt, gd_tf, gd_ft, gd_ff, gd_skip, pick_true_z, pick_false_z, un_not_z, Bool.not_true, Bool.not_false, ext_tuple, boxO_agg_z, List.toList_toArray, mkPtr_eq_z, AM.mk_some, mkSlc_eq, opt2_some, AH.next_new_z, tk_eq, opt_some, ifB_true, ifB_false]
  refine S.rule_Set_Denied_nil hE want n v l (hv13.mono e14) hl fun H15 e15 => ?_
  simp only [u16_add, BitVec.add_zero, n0, u16_eql, decide_true, nth_0, nth_1, nth_2, nth_3, nth_4, nth_5, nth_6, nth_7, nth_8, nth_9, nth_10, nth_11, nth_12, nth_13, nth_14, nth_15, nilCk_p, addOff_ptr, load1_ptr, Nat.zero_add, Nat.add_zero, cell_cells_z, List.getElem?_cons_zero, List.getElem?_cons_succ, gd_tt, gd_tf, gd_ft, gd_ff, gd_skip, pick_true_z, pick_false_z, un_not_z, Bool.not_true, Bool.not_false, ext_tuple, boxO_agg_z, List.toList_toArray, mkPtr_eq_z, AM.mk_some, mkSlc_eq, opt2_some, AH.next_new_z, tk_eq, opt_some, ifB_true, ifB_false]
  refine S.rule_Set_Port_nil hE want n ?_
  simp only [nth_0, nth_1, nth_2, nth_3, nth_4, nth_5, nth_6, nth_7, nth_8, nth_9, nth_10, nth_11, nth_12, nth_13, nth_14, nth_15, nilCk_p, addOff_ptr, load1_ptr, Nat.zero_add, Nat.add_zero, cell_cells_z, List.getElem?_cons_zero, List.getElem?_cons_succ, gd_tt, gd_tf, gd_ft, gd_ff, gd_skip, pick_true_z, pick_false_z, un_not_z, Bool.not_true, Bool.not_false, ext_tuple, boxO_agg_z, List.toList_toArray, mkPtr_eq_z, AM.mk_some, mkSlc_eq, opt2_some, AH.next_new_z, tk_eq, opt_some, ifB_true, ifB_false]
  refine S.rule_Same_nil hE _ true rfl ?_
  simp only [nth_0, nth_1, nth_2, nth_3, nth_4, nth_5, nth_6, nth_7, nth_8, nth_9, nth_10, nth_11, nth_12, nth_13, nth_14, nth_15, nilCk_p, addOff_ptr, load1_ptr, Nat.zero_add, Nat.add_zero, cell_cells_z, List.getElem?_cons_zero, List.getElem?_cons_succ, gd_tt, gd_tf, gd_ft, gd_ff, gd_skip, pick_true_z, pick_false_z, un_not_z, Bool.not_true, Bool.not_false, ext_tuple, boxO_agg_z, List.toList_toArray, mkPtr_eq_z, AM.mk_some, mkSlc_eq, opt2_some, AH.next_new_z, tk_eq, opt_some, ifB_true, ifB_false]
  refine S.rule_Same_nil hE _ false rfl ?_
  simp only [nth_0, nth_1, nth_2, nth_3, nth_4, nth_5, nth_6, nth_7, nth_8, nth_9, nth_10, nth_11, nth_12, nth_13, nth_14, nth_15, nilCk_p, addOff_ptr, load1_ptr, Nat.zero_add, Nat.add_zero, cell_cells_z, List.getElem?_cons_zero, List.getElem?_cons_succ, gd_tt, gd_tf, gd_ft, gd_ff, gd_skip, pick_true_z, pick_false_z, un_not_z, Bool.not_true, Bool.not_false, ext_tuple, boxO_agg_z, List.toList_toArray, mkPtr_eq_z, AM.mk_some, mkSlc_eq, opt2_some, AH.next_new_z, tk_eq, opt_some, ifB_true, ifB_false]
  have hs15 := hs13.mono (e14.trans e15)
  refine S.f35 hE hs15 hs15 fun H16 e16 => ?_
  have fin : (PolX.set (Tr.new 3) tab0 ⟨0, 1#16⟩ ⟨[], ⟨0#32, []⟩, 0#16, [], []⟩).1.same (PolX.set (Tr.new 3) tab0 ⟨0, 1#16⟩ ⟨[], ⟨0#32, []⟩, 0#16, [], []⟩).1 = true := by
    simp [SetD.same, PolX.set, ofPaths, ofPorts]
  rw [fin]
  simp only [nth_0, nth_1, nth_2, nth_3, nth_4, nth_5, nth_6, nth_7, nth_8, nth_9, nth_10, nth_11, nth_12, nth_13, nth_14, nth_15, nilCk_p, addOff_ptr, load1_ptr, Nat.zero_add, Nat.add_zero, cell_cells_z, List.getElem?_cons_zero, List.getElem?_cons_succ, gd_tt, gd_tf, gd_ft, gd_ff, gd_skip, pick_true_z, pick_false_z, un_not_z, Bool.not_true, Bool.not_false, ext_tuple, boxO_agg_z, List.toList_toArray, mkPtr_eq_z, AM.mk_some, mkSlc_eq, opt2_some, AH.next_new_z, tk_eq, opt_some, ifB_true, ifB_false]
  exact hQ _
theorem S.law_RuleNone (hE : Fold E) (args : List Value) (ha : ArgsSV H [polSh, .int .u16, .int .u16, .slice 2 (.struct [.int .i64, .int .u16])] args) (hQ : ∀ H', Q (vb true) H') : E.call (E.fid i.f32) args H Q := by
  obtain ⟨v1, _, rfl, h1, ha⟩ := ha.cons_inv
  obtain ⟨v2, _, rfl, h2, ha⟩ := ha.cons_inv
  obtain ⟨v3, _, rfl, h3, ha⟩ := ha.cons_inv
  obtain ⟨v4, _, rfl, h4, ha⟩ := ha.cons_inv
  obtain rfl := ha.nil_inv
  obtain ⟨x, cs, rfl, q, _⟩ := ArgSV.pol h1
  obtain ⟨x2, rfl⟩ := h2.u16
  obtain ⟨x3, rfl⟩ := h3.u16
  obtain ⟨l, g, _⟩ := PlaceD.ofSlice h4
  exact S.f32 hE x cs q x2 x3 v4 l g hQ
end
end Go.AM
end
