/- CONTRACTS ON THE PRINTED FUNCTIONS: LawMeanSays, LawMeanSpeaks, LawMeanAll, LawMeanNarrows. -/
import Derived.Test.YtjpdppohflailaaConf3eb5e87af
set_option linter.all false
section
namespace Go.AM
variable {E : Sy} {H : AH} {Q : Value → AH → Prop}
theorem RRuleAt.mono' {H H' : AH} {r : RuleD} {cs : List Value} (h : RRuleAt H r cs) (e : Ext H H') : RRuleAt H' r cs := h.sub e.sub
theorem ext_row {H H' : AH} (e : Ext H H') {b o n : Nat} {l : List Value} (h : (H.get b).row o n = some l) : (H'.get b).row o n = some l := by rw [e.get (AH.lt_of_get (row_notdead h))]; exact h
theorem ext_cell {H H' : AH} (e : Ext H H') {b o : Nat} {v : Value} (h : (H.get b).cell o = some v) : (H'.get b).cell o = some v := by
  rw [e.get (AH.lt_of_get (fun k => by rw [k] at h; cases h))]; exact h
theorem MeanSays_l4 (hE : Fold E) (X0 X1 X2 : List Value → AH → Prop) (t2 t3 t10 t31 t32 t33 t42 t43 t44 t49 t50 : Value) (b11 b13 : Nat) (i : Nat) (p : PolD) (x : RuleD) (hi : p.rules[i]? = some x) (hx : x.conds.length < 2 ^ 63) (hn : i + 1 < 2 ^ 63) (w : Value) (hw : Rows H 4 w (x.conds.map CondD.cells)) (r : RecD) (hr : r.ok) (h13 : H.get b13 = .cells r.cells none)
    (cs : List Value) (v : Value) (h11 : H.get b11 = .cells cs none) (hc : cs[2]? = some v) (hv : SliceOf RRuleAt H 3 v p.rules)
    (hX : ∀ H', Ext H H' → X2 [t2, t3, t10, ptr b11 0, ptr b13 0, t31, t32, t33, t42, t43, t44, t49, t50, vi ((i + 1 : Nat) : Int)] H') :
    LoopL (fun l H X3 => F.pinfoldlaw11_MeanSays_l4 E Q X0 X1 X2 (nth l 0) (nth l 1) (nth l 2) (nth l 3) (nth l 4) (nth l 5) (nth l 6) (nth l 7) (nth l 8) (nth l 9) (nth l 10) (nth l 11) (nth l 12) (nth l 13) (nth l 14) (nth l 15) (nth l 16) (nth l 17) H X3)
      [t2, t3, t10, ptr b11 0, ptr b13 0, vi i, t31, t32, t33, t42, t43, t44, t49, t50, vi i, w, vi x.conds.length, vi 0] H := by
  refine LoopL.count x.conds.length (fun j s H' => s = [t2, t3, t10, ptr b11 0, ptr b13 0, vi i, t31, t32, t33, t42, t43, t44, t49, t50, vi i, w, vi x.conds.length, vi j] ∧ Ext H H') ?_ ⟨rfl, Ext.refl _⟩
  rintro j _ H' X hj hX' ⟨rfl, e1⟩
  simp only [F.pinfoldlaw11_MeanSays_l4, nth_0, nth_1, nth_2, nth_3, nth_4, nth_5, nth_6, nth_7, nth_8, nth_9, nth_10, nth_11, nth_12, nth_13, nth_14, nth_15, nth_16, nth_17, i64_lss, opt_some]
  refine ifB_split (fun h => ?_) (fun h => ?_)
  · have hjl : j < x.conds.length := by omega
    obtain ⟨hil, hix⟩ := List.getElem?_eq_some_iff.1 hi
    obtain ⟨b, o, f1, f2⟩ := (hw.mono e1).ix (i := j) (by simpa using hjl)
    simp only [List.getElem_map] at f2
    obtain ⟨b3, o3, rcs, m1, m2, m3⟩ := (hv.mono (fun _ _ _ _ h e => RRuleAt.mono' h e) e1).ix (i := i) hil
    rw [hix] at m3
    obtain ⟨_, w', rfl, hw'⟩ := m3
    have m2' := row_at m2 (by omega : 2 < 3)
    simp at m2'
    obtain ⟨b4, o4, n1, n2⟩ := hw'.ix (i := j) (by simpa using hjl)
    simp only [List.getElem_map] at n2
    generalize x.conds[j] = c at *
    have k13 := e1.cells h13
    have k11 := e1.cells h11
    have e9 := row_all r.cells none 9 (RecD.cells_len hr)
    have eN : Ext H' (H'.new (.cells c.cells none)) := (Ext.refl _).new _
    have k13' := eN.cells k13
    have k11' := eN.cells k11
    have m2n := ext_cell eN m2'
    have n2n := ext_row eN n2
    simp [f1, f2, CondD.cells, splice]
    simp only [CondD.cells] at k13' k11' m2n n2n eN
    simp [k13', k11', e9, hc, m1, m2n, n1, n2n]
    refine S.mean_Holds hE c r hr fun H3 e3 => ?_
    simp [e3.cells k13', e3.cells k11', ext_cell e3 m2n, ext_row e3 n2n, e9, hc]
    refine S.pinfoldlaw11_Ref hE r hr fun H4 e4 => ?_
    have e34 := e3.trans e4
    simp [e34.cells k11', ext_cell e34 m2n, ext_row e34 n2n, hc]
    refine S.pinfoldref09_Holds hE c r hr fun H5 e5 => ?_
    simp
    rw [i64_inc (by omega), opt_some]
    exact hX' hjl _ _ ⟨rfl, e1.trans (eN.trans (e34.trans e5))⟩
  · rw [i64_inc (by omega), opt_some]
    exact hX _ e1
theorem MeanSays_l3 (hE : Fold E) (X0 X1 : List Value → AH → Prop) (t2 t3 t31 t32 t33 t42 t43 : Value) (b10 b11 b13 : Nat) (k : Nat) (hk : k < 1000) (p : PolD) (hp : p.rules.length < 2 ^ 63) (r : RecD) (hr : r.ok) (h13 : H.get b13 = .cells r.cells none)
    (cs0 : List Value) (v0 : Value) (hl0 : cs0.length = 6) (h10 : H.get b10 = .cells cs0 none) (hpa : PolAt H p cs0) (hv0 : SliceOf RuleAt H 3 v0 p.rules)
    (cs : List Value) (v : Value) (hl : cs.length = 6) (h11 : H.get b11 = .cells cs none) (hc : cs[2]? = some v) (hra : RPolAt H p cs) (hv : SliceOf RRuleAt H 3 v p.rules)
    (hX : ∀ H', Ext H H' → X1 [t2, t3, ptr b10 0, ptr b11 0, t31, t32, t33, t42, t43, vi ((k + 1 : Nat) : Int)] H') :
    LoopL (fun l H X2 => F.pinfoldlaw11_MeanSays_l3 E Q X0 X1 (nth l 0) (nth l 1) (nth l 2) (nth l 3) (nth l 4) (nth l 5) (nth l 6) (nth l 7) (nth l 8) (nth l 9) (nth l 10) (nth l 11) (nth l 12) (nth l 13) H X2)
      [t2, t3, ptr b10 0, ptr b11 0, ptr b13 0, t31, t32, t33, t42, t43, vi k, v0, vi p.rules.length, vi 0] H := by
  refine LoopL.count p.rules.length (fun j s H' => s = [t2, t3, ptr b10 0, ptr b11 0, ptr b13 0, t31, t32, t33, t42, t43, vi k, v0, vi p.rules.length, vi j] ∧ Ext H H') ?_ ⟨rfl, Ext.refl _⟩
  rintro j _ H' X hj hX' ⟨rfl, e1⟩
  have e9 := row_all r.cells none 9 (RecD.cells_len hr)
  have k13 := e1.cells h13
  have k11 := e1.cells h11
  have k10 := e1.cells h10
  simp only [F.pinfoldlaw11_MeanSays_l3, nth_0, nth_1, nth_2, nth_3, nth_4, nth_5, nth_6, nth_7, nth_8, nth_9, nth_10, nth_11, nth_12, nth_13, i64_lss, opt_some]
  refine ifB_split (fun h => ?_) (fun h => ?_)
  · have hjl : j < p.rules.length := by omega
    obtain ⟨b, o, rcs0, f1, f2, f3⟩ := (hv0.mono (fun _ _ _ _ h e => RuleAt.mono h e) e1).ix (i := j) hjl
    obtain ⟨b3, o3, rcs, m1, m2, m3⟩ := (hv.mono (fun _ _ _ _ h e => RRuleAt.mono' h e) e1).ix (i := j) hjl
    have hx : p.rules[j]? = some p.rules[j] := List.getElem?_eq_getElem hjl
    obtain ⟨hxl, w, rfl, hw⟩ := f3
    generalize hxx : p.rules[j] = x at *
    have eN : Ext H' (H'.new (.cells [u32 x.number, u32 x.action, w] none)) := (Ext.refl _).new _
    have k13' := eN.cells k13
    have k11' := eN.cells k11
    have m2n := ext_row eN m2
    have hlw := hw.lenSlc
    rw [List.length_map] at hlw
    simp [f1, f2, splice, hw.plain]
    simp [k13', k11', e9, hc, m1, m2n]
    refine S.mean_Matches hE x [u32 x.number, u32 x.action, w] ⟨hxl, w, rfl, hw.mono eN⟩ r hr fun H3 e3 => ?_
    simp [e3.cells k13', e3.cells k11', ext_row e3 m2n, e9, hc]
    refine S.pinfoldlaw11_Ref hE r hr fun H4 e4 => ?_
    have e34 := e3.trans e4
    simp [e34.cells k11', ext_row e34 m2n, hc]
    refine S.pinfoldref09_Matches hE x rcs (m3.mono' (eN.trans e34)) r hr fun H5 e5 => ?_
    have e345 := e34.trans e5
    have k4 : H5.get H'.next = .cells [u32 x.number, u32 x.action, w] none := e345.cells (AH.get_new_self _ _)
    simp [k4, hlw]
    have eA := e1.trans (eN.trans e345)
    refine MeanSays_l4 hE X0 X1 X t2 t3 (ptr b10 0) t31 t32 t33 t42 t43 (vi k) v0 (vi p.rules.length) b11 b13 j p x (by rw [← hxx]; exact List.getElem?_eq_getElem hjl) hxl (by omega) w (hw.mono (eN.trans e345)) r hr (eA.cells h13) cs v (eA.cells h11) hc (hv.mono (fun _ _ _ _ h e => RRuleAt.mono' h e) eA) fun H6 e6 => ?_
    exact hX' hjl _ _ ⟨rfl, eA.trans e6⟩
  · have e6 := row_all cs0 none 6 hl0
    have e6' := row_all cs none 6 hl
    simp [k10, k11, k13, e9, e6, e6']
    refine S.mean_Says hE p cs0 (hpa.mono e1) r hr fun H6 x6 => ?_
    simp [x6.cells k13, x6.cells k11, e9, e6']
    refine S.pinfoldlaw11_Ref hE r hr fun H7 x7 => ?_
    have x67 := x6.trans x7
    simp [x67.cells k11, e6']
    refine S.pinfoldref09_Says hE p cs (hra.mono (e1.trans x67)) r hr fun H8 x8 => ?_
    simp
    rw [i64_inc (by omega), opt_some]
    exact hX _ (e1.trans (x67.trans x8))
theorem MeanSays_l2 (hE : Fold E) (X0 : List Value → AH → Prop) (t2 t3 t31 t32 : Value) (b10 b11 : Nat) (m : Nat) (hm : m < 1000) (p : PolD) (hp : p.rules.length < 2 ^ 63) (l : List RecD) (hlen : l.length ≤ 50) (hr : ∀ r ∈ l, r.ok) (lv : Value) (hlv : Rows H 9 lv (l.map RecD.cells))
    (cs0 : List Value) (hl0 : cs0.length = 6) (h10 : H.get b10 = .cells cs0 none) (hpa : PolAt H p cs0)
    (cs : List Value) (hl : cs.length = 6) (h11 : H.get b11 = .cells cs none) (hra : RPolAt H p cs)
    (hX : ∀ H', Ext H H' → X0 [t2, t3, t31, t32, vi ((m + 1 : Nat) : Int)] H') :
    LoopL (fun l H X1 => F.pinfoldlaw11_MeanSays_l2 E Q X0 (nth l 0) (nth l 1) (nth l 2) (nth l 3) (nth l 4) (nth l 5) (nth l 6) (nth l 7) (nth l 8) (nth l 9) H X1)
      [t2, t3, ptr b10 0, ptr b11 0, t31, t32, vi m, lv, vi l.length, vi 0] H := by
  refine LoopL.count l.length (fun j s H' => s = [t2, t3, ptr b10 0, ptr b11 0, t31, t32, vi m, lv, vi l.length, vi j] ∧ Ext H H') ?_ ⟨rfl, Ext.refl _⟩
  rintro j _ H' X hj hX' ⟨rfl, e1⟩
  simp only [F.pinfoldlaw11_MeanSays_l2, nth_0, nth_1, nth_2, nth_3, nth_4, nth_5, nth_6, nth_7, nth_8, nth_9, i64_lss, opt_some]
  refine ifB_split (fun h => ?_) (fun h => ?_)
  · have hjl : j < l.length := by omega
    obtain ⟨b, o, f1, f2⟩ := (hlv.mono e1).ix (i := j) (by simpa using hjl)
    simp only [List.getElem_map] at f2
    have hrj := hr _ (List.getElem_mem hjl)
    generalize l[j] = r at *
    have hpa' := hpa
    obtain ⟨_, a0, v0, c1, c2, c3, hcs0, hv0⟩ := hpa'
    have hra' := hra
    obtain ⟨_, v, _, hc, hv⟩ := hra'
    have eN : Ext H' (H'.new (.cells r.cells none)) := (Ext.refl _).new _
    have eA := e1.trans eN
    have k10 := eA.cells h10
    have hlv0 := hv0.lenSlc
    obtain ⟨n, a, t, x0, x1, x2, x3, x4, x5, hcc⟩ := RecD.cells_ok hrj
    simp [f1, f2, splice, hcc]
    rw [← hcc]
    simp [k10, hcs0, hlv0]
    refine MeanSays_l3 hE X0 X t2 t3 t31 t32 (vi m) lv (vi l.length) b10 b11 H'.next j (by omega) p hp r hrj (AH.get_new_self _ _) cs0 v0 hl0 k10 (hpa.mono eA) (hv0.mono (fun _ _ _ _ h e => RuleAt.mono h e) eA) cs v hl (eA.cells h11) hc (hra.mono eA) (hv.mono (fun _ _ _ _ h e => RRuleAt.mono' h e) eA) fun H6 e6 => ?_
    exact hX' hjl _ _ ⟨rfl, eA.trans e6⟩
  · rw [i64_inc (by omega), opt_some]
    exact hX _ e1
theorem PolXAt.len {x : PolX} {cs : List Value} (h : PolXAt H x cs) : cs.length = 6 := by obtain ⟨v, pv, qv, rfl, _⟩ := h; rfl
theorem RPolXAt.len {x : PolX} {cs : List Value} (h : RPolXAt H x cs) : cs.length = 6 := by obtain ⟨v, pv, qv, rfl, _⟩ := h; rfl
theorem PolXAt.plain {x : PolX} {cs : List Value} (h : PolXAt H x cs) : cs.all plain1 = true := by
  obtain ⟨v, pv, qv, rfl, ⟨rows, h1, _⟩, h2, h3⟩ := h
  simp [h1.plain, h2.plain, h3.plain]
theorem RPolXAt.plain {x : PolX} {cs : List Value} (h : RPolXAt H x cs) : cs.all plain1 = true := by
  obtain ⟨v, pv, qv, rfl, ⟨rows, h1, _⟩, h2, h3⟩ := h
  simp [h1.plain, h2.plain, h3.plain]
theorem six {cs : List Value} (h : cs.length = 6) : ∃ a b c d e f, cs = [a, b, c, d, e, f] := by
  match cs, h with
  | [a, b, c, d, e, f], _ => exact ⟨a, b, c, d, e, f, rfl⟩
theorem S.law_MeanSays (hE : Fold E) (args : List Value) (ha : ArgsSV H [polSh, smallSh, .slice 9 recSh, .slice 1 (.int .u8)] args) (hQ : ∀ H', Q (vb true) H') : E.call (E.fid i.pinfoldlaw11_MeanSays) args H Q := by
  obtain ⟨v1, _, rfl, h1, ha⟩ := ha.cons_inv
  obtain ⟨v2, _, rfl, h2, ha⟩ := ha.cons_inv
  obtain ⟨v3, _, rfl, h3, ha⟩ := ha.cons_inv
  obtain ⟨v4, _, rfl, h4, ha⟩ := ha.cons_inv
  obtain rfl := ha.nil_inv
  obtain ⟨x, xc, rfl, hx, hxf⟩ := h1.pol
  obtain ⟨s, sc, rfl, hs⟩ := h2.small
  obtain ⟨l, hl, hok⟩ := h3.recs
  obtain ⟨ks, hks, hkn⟩ := h4.u8s'
  apply hE.pinfoldlaw11_MeanSays
  simp [-buildS_eq, F.pinfoldlaw11_MeanSays]
  generalize hH2 : (H.new _).new _ = H2
  have x2 : Ext H H2 := by subst hH2; exact ((Ext.refl H).new _).new _
  have k1 : H2.get H.next = .cells xc none := by subst hH2; simp [AH.get_new]
  have k2 : H2.get (H.next + 1) = .cells sc none := by subst hH2; simp [AH.get_new]
  clear hH2
  refine S.pinfoldlaw11_Awake hE fun H3 e3 => ?_
  have x3 := x2.trans e3
  have r1 := row_all xc none 6 hx.len
  simp [-buildS_eq, e3.cells k1, r1]
  refine S.pinfoldlaw09_Few hE x xc (hx.mono x3) hxf fun fb H4 e4 hfew => ?_
  have x4 := x3.trans e4
  have e34 := e3.trans e4
  have hlv := (hl.mono x4).lenSlc
  rw [List.length_map] at hlv
  cases fb with
  | false => simp [-buildS_eq]; exact hQ _
  | true =>
    have hfew := hfew rfl
    by_cases h20 : (20 : Int) < l.length
    · simp [-buildS_eq, hlv, h20]; exact hQ _
    · have hs8 : sc.length = 8 := by obtain ⟨_, _, _, _, rfl, _⟩ := hs; rfl
      have r2 := row_all sc none 8 hs8
      simp [-buildS_eq, hlv, h20, e34.cells k1, e34.cells k2, r1, r2]
      refine S.pinfoldlaw09_Small_Policy hE s sc (hs.sub x4.sub) fun H8 cs' e8 hps => ?_
      have e38 := e34.trans e8
      have x8 := x2.trans e38
      simp [-buildS_eq, e38.cells k1, r1]
      have hbs := buildS_full 2 6 [str [], u32 0#32, nilS, u16 0#16, nilS, nilS] [(0, .agg xc.toArray), (1, .agg cs'.toArray)] [.agg xc.toArray, .agg cs'.toArray] rfl rfl rfl rfl (by simp [hx.len, hps.len])
      rw [hbs, mk_some, mkSlc_eq]
      simp [-buildS_eq]
      generalize hH9 : H8.new _ = H9
      have e9 : Ext H8 H9 := by subst hH9; exact (Ext.refl H8).new _
      have hrows : Rows H9 6 (slc H8.next 0 2 2) [xc, cs'] := Rows.made (f := none) (by subst hH9; simp) (.inl rfl) rfl (by simp [hx.len, hps.len])
      clear hH9
      have x9 := x8.trans e9
      refine LoopL.count 2 (fun j s H' => s = [v3, v4, slc H8.next 0 2 2, vi 2, vi j] ∧ Ext H9 H') ?_ ⟨rfl, Ext.refl _⟩
      rintro j _ H' X hj hX' ⟨rfl, e1⟩
      simp [-buildS_eq, F.pinfoldlaw11_MeanSays_l1]
      refine ifB_split (fun h => ?_) (fun h => ?_)
      · have hj2 : j < 2 := by omega
        have ⟨q, qc, hq1, hq2, hq3, hqf⟩ : ∃ (q : PolX) (qc : List Value), [xc, cs'][j]? = some qc ∧ PolXAt H' q qc ∧ q.few ∧ q.pol.rules.length < 2 ^ 63 := by
          match j, hj2 with
          | 0, _ => exact ⟨x, xc, rfl, hx.mono (x9.trans e1), hfew, hxf.2.1⟩
          | 1, _ => exact ⟨s.pol, cs', rfl, hps.mono (e9.trans e1), s.pol_few, by have := s.pol_few.1; omega⟩
        obtain ⟨b, o, f1, f2⟩ := (hrows.mono e1).ix (i := j) hj2
        have hjj : [xc, cs'][j] = qc := by
          rw [List.getElem?_eq_getElem hj2] at hq1
          exact Option.some.inj hq1
        rw [hjj] at f2
        have eN : Ext H' (H'.new (.cells qc none)) := (Ext.refl _).new _
        obtain ⟨q0, q1, q2, q3, q4, q5, hqc⟩ := six hq2.len
        have hpl := hq2.plain
        rw [hqc] at hpl
        simp at hpl
        have r3 := row_all qc none 6 hq2.len
        simp [f1, f2, splice, hqc, hpl]
        simp only [← hqc]
        refine S.pinfoldlaw09_Ref hE q qc (hq2.mono eN) hq3 fun H3' rc eR hR => ?_
        obtain ⟨p0, p1, p2, p3, p4, p5, hrc⟩ := six hR.len
        have hpl' := hR.plain
        rw [hrc] at hpl'
        simp at hpl'
        have k4 : H3'.get H'.next = .cells qc none := eR.cells (AH.get_new_self _ _)
        have hlt4 := AH.lt_cells k4
        simp [splice, hrc, hpl', AH.get_new, Nat.ne_of_lt hlt4, k4, r3]
        simp only [← hrc]
        have eM : Ext H3' (H3'.new (.cells rc none)) := (Ext.refl _).new _
        have eNM := eN.trans (eR.trans eM)
        refine S.pinfoldlaw11_Records hE q.pol qc ((hq2.mono eNM).at_ hqf) l v3 (hl.mono (x9.trans (e1.trans eNM))) hok (by omega) ks v4 (hks.mono (x9.trans (e1.trans eNM))) hkn fun rv H6 l' e6 hrv hok' hl50 => ?_
        have hlr := hrv.lenSlc
        rw [List.length_map] at hlr
        simp [hlr]
        have k4' := (eM.trans e6).cells k4
        have k5 : H6.get H3'.next = .cells rc none := e6.cells (AH.get_new_self _ _)
        have eAll := e1.trans (eNM.trans e6)
        refine MeanSays_l2 hE X v3 v4 _ _ H'.next H3'.next j (by omega) q.pol hqf l' hl50 hok' rv hrv qc hq2.len k4' ((hq2.mono (eNM.trans e6)).at_ hqf) rc hR.len k5 ((hR.sub (eM.trans e6).sub).at_ hqf) fun H7 e7 => ?_
        exact hX' hj2 _ _ ⟨rfl, eAll.trans e7⟩
      · exact hQ _
end Go.AM
end
section
namespace Go.AM
variable {E : Sy} {H : AH} {Q : Value → AH → Prop}
theorem spkTo_pre (p : PolD) (r : RecD) (m : Nat) : ∀ d, ∃ t, spkTo p r (m + d) = spkTo p r m ++ t
  | 0 => ⟨[], by simp⟩
  | d + 1 => by
    obtain ⟨t, h⟩ := spkTo_pre p r m d
    rw [← Nat.add_assoc, spkTo_succ, h]
    exact ⟨_, List.append_assoc _ _ _⟩
theorem spkTo_at (p : PolD) (r : RecD) {j n : Nat} (hj : j < n) (hs : spk p r j = true) : (spkTo p r j).length < (spkTo p r n).length ∧ (spkTo p r n)[(spkTo p r j).length]? = some j := by
  obtain ⟨t, h⟩ := spkTo_pre p r (j + 1) (n - (j + 1))
  rw [show j + 1 + (n - (j + 1)) = n by omega] at h
  rw [spkTo_succ, hs] at h
  rw [h]
  simp
theorem says_want (p : PolD) (r : RecD) (ha : r.arch = 3221225534#32) : says p r = (match cntTo p r p.rules.length with | none => p.default | some k => actAt p k) := by
  have h := says_cnt p r p.rules.length (Nat.le_refl _)
  rw [List.take_length] at h
  rw [says, if_pos ha, h]
  cases cntTo p r p.rules.length <;> rfl
theorem MeanSpeaks_j1 (hE : Fold E) (X0 X1 : List Value → AH → Prop) (t2 t3 t33 t34 t35 t42 t43 : Value) (b10 b12 k : Nat) (hk : k < 1000) (p : PolD) (cs0 : List Value) (hl0 : cs0.length = 6) (h10 : H.get b10 = .cells cs0 none) (hpa : PolAt H p cs0) (r : RecD) (hr : r.ok) (h12 : H.get b12 = .cells r.cells none) (want : BitVec 32)
    (hw : r.arch = 3221225534#32 → says p r = want) (hX : ∀ H', Ext H H' → X1 [t2, t3, ptr b10 0, t33, t34, t35, t42, t43, vi ((k + 1 : Nat) : Int)] H') :
    F.pinfoldlaw11_MeanSpeaks_j1 E Q X0 X1 t2 t3 (ptr b10 0) (ptr b12 0) (u32 want) t33 t34 t35 t42 t43 (vi k) H := by
  have hc : r.cells[1]? = some (u32 r.arch) := rfl
  have e9 := row_all r.cells none 9 (RecD.cells_len hr)
  have e6 := row_all cs0 none 6 hl0
  simp [F.pinfoldlaw11_MeanSpeaks_j1, h12, hc]
  by_cases ha : r.arch = 3221225534#32
  · simp [ha, h10, h12, e9, e6]
    refine S.mean_Says hE p cs0 hpa r hr fun H6 x6 => ?_
    simp [hw ha]
    rw [i64_inc (by omega), opt_some]
    exact hX _ x6
  · simp [ha]
    rw [i64_inc (by omega), opt_some]
    exact hX _ (Ext.refl _)
theorem MeanSpeaks_l3 (hE : Fold E) (X0 X1 : List Value → AH → Prop) (t2 t3 t33 t34 t35 t42 t43 : Value) (b10 b12 k : Nat) (hk : k < 1000) (p : PolD) (hp : p.rules.length ≤ 1000) (cs0 : List Value) (v0 : Value) (hl0 : cs0.length = 6) (hc1 : cs0[1]? = some (u32 p.default)) (hc2 : cs0[2]? = some v0) (h10 : H.get b10 = .cells cs0 none) (hpa : PolAt H p cs0) (hv0 : SliceOf RuleAt H 3 v0 p.rules)
    (r : RecD) (hr : r.ok) (h12 : H.get b12 = .cells r.cells none) (av : Value) (hav : Rows H 1 av ((spkTo p r p.rules.length).map fun i : Nat => [vi i]))
    (hX : ∀ H', Ext H H' → X1 [t2, t3, ptr b10 0, t33, t34, t35, t42, t43, vi ((k + 1 : Nat) : Int)] H') :
    LoopL (fun l H X2 => F.pinfoldlaw11_MeanSpeaks_l3 E Q X0 X1 (nth l 0) (nth l 1) (nth l 2) (nth l 3) (nth l 4) (nth l 5) (nth l 6) (nth l 7) (nth l 8) (nth l 9) (nth l 10) (nth l 11) (nth l 12) (nth l 13) (nth l 14) (nth l 15) (nth l 16) H X2)
      [t2, t3, ptr b10 0, ptr b12 0, av, vi (cntV (cntTo p r p.rules.length)), vi 0, vi (-1), t33, t34, t35, t42, t43, vi k, v0, vi p.rules.length, vi 0] H := by
  have e9 := row_all r.cells none 9 (RecD.cells_len hr)
  have hal := hav.lenSlc
  rw [List.length_map] at hal
  have hsl : ∀ n, (spkTo p r n).length ≤ n := fun n => by
    have := List.length_filter_le (spk p r) (List.range n)
    simpa [spkTo] using this
  refine LoopL.count p.rules.length (fun j s H' => s = [t2, t3, ptr b10 0, ptr b12 0, av, vi (cntV (cntTo p r p.rules.length)), vi ((spkTo p r j).length : Int), vi (cntV (cntTo p r j)), t33, t34, t35, t42, t43, vi k, v0, vi p.rules.length, vi j] ∧ Ext H H') ?_ ⟨rfl, Ext.refl _⟩
  rintro j _ H' X hj hX' ⟨rfl, e1⟩
  have k12 := e1.cells h12
  have k10 := e1.cells h10
  simp only [F.pinfoldlaw11_MeanSpeaks_l3, nth_0, nth_1, nth_2, nth_3, nth_4, nth_5, nth_6, nth_7, nth_8, nth_9, nth_10, nth_11, nth_12, nth_13, nth_14, nth_15, nth_16, i64_lss, opt_some]
  refine ifB_split (fun h => ?_) (fun h => ?_)
  · have hjl : j < p.rules.length := by omega
    obtain ⟨b, o, rcs0, f1, f2, f3⟩ := (hv0.mono (fun _ _ _ _ h e => RuleAt.mono h e) e1).ix (i := j) hjl
    have hsk : spk p r j = rmatches p.rules[j] r := by simp [spk, hjl]
    have hact : actAt p j = p.rules[j].action := by simp [actAt, hjl]
    have hs1 := spkTo_succ p r j
    have hc1 := cntTo_succ p r j
    simp only [cntStep] at hc1
    obtain ⟨hxl, w, rfl, hw⟩ := f3
    generalize p.rules[j] = x at *
    have eN : Ext H' (H'.new (.cells [u32 x.number, u32 x.action, w] none)) := (Ext.refl _).new _
    have k12' := eN.cells k12
    simp [f1, f2, splice, hw.plain]
    simp [k12', e9]
    refine S.mean_Matches hE x [u32 x.number, u32 x.action, w] ⟨hxl, w, rfl, hw.mono eN⟩ r hr fun H3 e3 => ?_
    have eA := e1.trans (eN.trans e3)
    by_cases hm : rmatches x r = true
    · rw [hm] at hsk
      obtain ⟨g1, g2⟩ := spkTo_at p r hjl hsk
      have g1' : ¬ (((spkTo p r p.rules.length).length : Int) ≤ (spkTo p r j).length) := by omega
      obtain ⟨b2, o2, q1, q2⟩ := (hav.mono eA).ix (i := (spkTo p r j).length) (by simpa using g1)
      have q3 := row_at q2 (by omega : 0 < 1)
      have g3 : (List.map (fun i : Nat => [vi i]) (spkTo p r p.rules.length))[(spkTo p r j).length]'(by simpa using g1) = [vi j] := by
        rw [List.getElem_map]
        rw [List.getElem?_eq_getElem g1] at g2
        rw [Option.some.inj g2]
      rw [g3] at q3
      simp at q3
      rw [hsk] at hs1 hc1
      simp only [if_true] at hs1 hc1
      have hll : (spkTo p r (j + 1)).length = (spkTo p r j).length + 1 := by rw [hs1]; simp
      simp [hm, hal, g1', q1, q3]
      rw [i64_inc (by have := hsl j; omega), opt_some]
      have k4 : H3.get H'.next = .cells [u32 x.number, u32 x.action, w] none := e3.cells (AH.get_new_self _ _)
      cases hc : cntTo p r j with
      | none =>
        rw [hc] at hc1
        simp only at hc1
        simp [cntV]
        rw [i64_inc (by omega), opt_some]
        refine hX' hjl _ _ ⟨?_, eA⟩
        rw [hll, hc1]; rfl
      | some m =>
        rw [hc] at hc1
        simp only at hc1
        have hmj : m < j := cntTo_lt p r j hc
        have hml : m < p.rules.length := by omega
        obtain ⟨bk, ok, ck, y1, y2, y3⟩ := (hv0.mono (fun _ _ _ _ h e => RuleAt.mono h e) eA).ix (i := m) hml
        have y4 : (H3.get bk).cell (ok + 1) = some (u32 p.rules[m].action) := by
          obtain ⟨_, w', rfl, _⟩ := y3
          rw [row_at y2 (by omega : 1 < 3)]; rfl
        have hak : actAt p m = p.rules[m].action := by simp [actAt, hml]
        have hneg : ¬ ((m : Int) < 0) := by omega
        simp [cntV, hneg, k4, eA.cells h10, hc2, y1, y4]
        refine S.pinfoldref03_Strength hE _ ?_
        simp [eA.cells h10, hc2, y1, y4]
        refine S.pinfoldref03_Strength hE _ ?_
        simp [rstrength_eq]
        rw [hak, hact] at hc1
        by_cases hst : astrength p.rules[m].action < astrength x.action
        · simp [hst]
          rw [i64_inc (by omega), opt_some]
          refine hX' hjl _ _ ⟨?_, eA⟩
          rw [hll, hc1, if_pos hst]; rfl
        · simp [hst]
          rw [i64_inc (by omega), opt_some]
          refine hX' hjl _ _ ⟨?_, eA⟩
          rw [hll, hc1, if_neg hst]; rfl
    · have hm : rmatches x r = false := by simpa using hm
      rw [hm] at hsk
      rw [hsk] at hs1 hc1
      simp at hs1 hc1
      simp [hm]
      rw [i64_inc (by omega), opt_some]
      refine hX' hjl _ _ ⟨?_, eA⟩
      rw [hs1, hc1]
  · have : j = p.rules.length := by omega
    subst this
    have hwant := says_want p r
    simp [hal, k10, hc1]
    cases hc : cntTo p r p.rules.length with
    | none =>
      rw [hc] at hwant
      simp [cntV]
      exact MeanSpeaks_j1 hE X0 X1 t2 t3 t33 t34 t35 t42 t43 b10 b12 k hk p cs0 hl0 k10 (hpa.mono e1) r hr k12 _ hwant fun H'' e => hX _ (e1.trans e)
    | some m =>
      rw [hc] at hwant
      have hml : m < p.rules.length := cntTo_lt p r _ hc
      obtain ⟨bk, ok, ck, y1, y2, y3⟩ := (hv0.mono (fun _ _ _ _ h e => RuleAt.mono h e) e1).ix (i := m) hml
      have y4 : (H'.get bk).cell (ok + 1) = some (u32 p.rules[m].action) := by
        obtain ⟨_, w', rfl, _⟩ := y3
        rw [row_at y2 (by omega : 1 < 3)]; rfl
      have hak : actAt p m = p.rules[m].action := by simp [actAt, hml]
      simp [cntV, k10, hc2, y1, y4]
      exact MeanSpeaks_j1 hE X0 X1 t2 t3 t33 t34 t35 t42 t43 b10 b12 k hk p cs0 hl0 k10 (hpa.mono e1) r hr k12 _ (fun h => by rw [hwant h]; exact hak) fun H'' e => hX _ (e1.trans e)
theorem MeanSpeaks_l2 (hE : Fold E) (X0 : List Value → AH → Prop) (t2 t3 t33 t34 : Value) (b10 m : Nat) (hm : m < 1000) (p : PolD) (hp : p.rules.length ≤ 1000) (cs0 : List Value) (hl0 : cs0.length = 6) (h10 : H.get b10 = .cells cs0 none) (hpa : PolAt H p cs0)
    (l : List RecD) (hlen : l.length ≤ 50) (hr : ∀ r ∈ l, r.ok) (lv : Value) (hlv : Rows H 9 lv (l.map RecD.cells))
    (hX : ∀ H', Ext H H' → X0 [t2, t3, t33, t34, vi ((m + 1 : Nat) : Int)] H') :
    LoopL (fun l H X1 => F.pinfoldlaw11_MeanSpeaks_l2 E Q X0 (nth l 0) (nth l 1) (nth l 2) (nth l 3) (nth l 4) (nth l 5) (nth l 6) (nth l 7) (nth l 8) H X1)
      [t2, t3, ptr b10 0, t33, t34, vi m, lv, vi l.length, vi 0] H := by
  refine LoopL.count l.length (fun j s H' => s = [t2, t3, ptr b10 0, t33, t34, vi m, lv, vi l.length, vi j] ∧ Ext H H') ?_ ⟨rfl, Ext.refl _⟩
  rintro j _ H' X hj hX' ⟨rfl, e1⟩
  simp only [F.pinfoldlaw11_MeanSpeaks_l2, nth_0, nth_1, nth_2, nth_3, nth_4, nth_5, nth_6, nth_7, nth_8, i64_lss, opt_some]
  refine ifB_split (fun h => ?_) (fun h => ?_)
  · have hjl : j < l.length := by omega
    obtain ⟨b, o, f1, f2⟩ := (hlv.mono e1).ix (i := j) (by simpa using hjl)
    simp only [List.getElem_map] at f2
    have hrj := hr _ (List.getElem_mem hjl)
    generalize l[j] = r at *
    have hpa' := hpa
    obtain ⟨_, a0, v0, c1, c2, c3, hcs0, hv0⟩ := hpa'
    have eN : Ext H' (H'.new (.cells r.cells none)) := (Ext.refl _).new _
    have eA := e1.trans eN
    have k10 := eA.cells h10
    have e9 := row_all r.cells none 9 (RecD.cells_len hrj)
    have e6 := row_all cs0 none 6 hl0
    obtain ⟨n, a, t, x0, x1, x2, x3, x4, x5, hcc⟩ := RecD.cells_ok hrj
    simp [f1, f2, splice, hcc]
    simp only [← hcc]
    simp [k10, e6]
    refine S.mean_Speaks hE p cs0 (hpa.mono eA) hp r hrj fun av H3 e3 hav => ?_
    have k10' := e3.cells k10
    have hc2 : cs0[2]? = some v0 := by rw [hcs0]; rfl
    have hlv0 := hv0.lenSlc
    simp [k10', hc2, hlv0]
    refine MeanSpeaks_l3 hE X0 X t2 t3 t33 t34 (vi m) lv (vi l.length) b10 H'.next j (by omega) p hp cs0 v0 hl0 (by rw [hcs0]; rfl) hc2 k10' (hpa.mono (eA.trans e3)) (hv0.mono (fun _ _ _ _ h e => RuleAt.mono h e) (eA.trans e3)) r hrj (e3.cells (AH.get_new_self _ _)) av hav fun H6 e6 => ?_
    exact hX' hjl _ _ ⟨rfl, eA.trans (e3.trans e6)⟩
  · rw [i64_inc (by omega), opt_some]
    exact hX _ e1
theorem S.law_MeanSpeaks (hE : Fold E) (args : List Value) (ha : ArgsSV H [polSh, smallSh, .slice 9 recSh, .slice 1 (.int .u8)] args) (hQ : ∀ H', Q (vb true) H') : E.call (E.fid i.pinfoldlaw11_MeanSpeaks) args H Q := by
  obtain ⟨v1, _, rfl, h1, ha⟩ := ha.cons_inv
  obtain ⟨v2, _, rfl, h2, ha⟩ := ha.cons_inv
  obtain ⟨v3, _, rfl, h3, ha⟩ := ha.cons_inv
  obtain ⟨v4, _, rfl, h4, ha⟩ := ha.cons_inv
  obtain rfl := ha.nil_inv
  obtain ⟨x, xc, rfl, hx, hxf⟩ := h1.pol
  obtain ⟨s, sc, rfl, hs⟩ := h2.small
  obtain ⟨l, hl, hok⟩ := h3.recs
  obtain ⟨ks, hks, hkn⟩ := h4.u8s'
  apply hE.pinfoldlaw11_MeanSpeaks
  simp [-buildS_eq, F.pinfoldlaw11_MeanSpeaks]
  generalize hH2 : (H.new _).new _ = H2
  have x2 : Ext H H2 := by subst hH2; exact ((Ext.refl H).new _).new _
  have k1 : H2.get H.next = .cells xc none := by subst hH2; simp [AH.get_new]
  have k2 : H2.get (H.next + 1) = .cells sc none := by subst hH2; simp [AH.get_new]
  clear hH2
  refine S.pinfoldlaw11_Awake hE fun H3 e3 => ?_
  have x3 := x2.trans e3
  have r1 := row_all xc none 6 hx.len
  simp [-buildS_eq, e3.cells k1, r1]
  refine S.pinfoldlaw09_Few hE x xc (hx.mono x3) hxf fun fb H4 e4 hfew => ?_
  have x4 := x3.trans e4
  have e34 := e3.trans e4
  have hlv := (hl.mono x4).lenSlc
  rw [List.length_map] at hlv
  cases fb with
  | false => simp [-buildS_eq]; exact hQ _
  | true =>
    have hfew := hfew rfl
    by_cases h20 : (20 : Int) < l.length
    · simp [-buildS_eq, hlv, h20]; exact hQ _
    · have hs8 : sc.length = 8 := by obtain ⟨_, _, _, _, rfl, _⟩ := hs; rfl
      have r2 := row_all sc none 8 hs8
      simp [-buildS_eq, hlv, h20, e34.cells k1, e34.cells k2, r1, r2]
      refine S.pinfoldlaw09_Small_Policy hE s sc (hs.sub x4.sub) fun H8 cs' e8 hps => ?_
      have e38 := e34.trans e8
      have x8 := x2.trans e38
      simp [-buildS_eq, e38.cells k1, r1]
      have hbs := buildS_full 2 6 [str [], u32 0#32, nilS, u16 0#16, nilS, nilS] [(0, .agg xc.toArray), (1, .agg cs'.toArray)] [.agg xc.toArray, .agg cs'.toArray] rfl rfl rfl rfl (by simp [hx.len, hps.len])
      rw [hbs, mk_some, mkSlc_eq]
      simp [-buildS_eq]
      generalize hH9 : H8.new _ = H9
      have e9 : Ext H8 H9 := by subst hH9; exact (Ext.refl H8).new _
      have hrows : Rows H9 6 (slc H8.next 0 2 2) [xc, cs'] := Rows.made (f := none) (by subst hH9; simp) (.inl rfl) rfl (by simp [hx.len, hps.len])
      clear hH9
      have x9 := x8.trans e9
      refine LoopL.count 2 (fun j s H' => s = [v3, v4, slc H8.next 0 2 2, vi 2, vi j] ∧ Ext H9 H') ?_ ⟨rfl, Ext.refl _⟩
      rintro j _ H' X hj hX' ⟨rfl, e1⟩
      simp [-buildS_eq, F.pinfoldlaw11_MeanSpeaks_l1]
      refine ifB_split (fun h => ?_) (fun h => ?_)
      · have hj2 : j < 2 := by omega
        have ⟨q, qc, hq1, hq2, hq3, hqf⟩ : ∃ (q : PolX) (qc : List Value), [xc, cs'][j]? = some qc ∧ PolXAt H' q qc ∧ q.few ∧ q.pol.rules.length < 2 ^ 63 := by
          match j, hj2 with
          | 0, _ => exact ⟨x, xc, rfl, hx.mono (x9.trans e1), hfew, hxf.2.1⟩
          | 1, _ => exact ⟨s.pol, cs', rfl, hps.mono (e9.trans e1), s.pol_few, by have := s.pol_few.1; omega⟩
        obtain ⟨b, o, f1, f2⟩ := (hrows.mono e1).ix (i := j) hj2
        have hjj : [xc, cs'][j] = qc := by
          rw [List.getElem?_eq_getElem hj2] at hq1
          exact Option.some.inj hq1
        rw [hjj] at f2
        have eN : Ext H' (H'.new (.cells qc none)) := (Ext.refl _).new _
        obtain ⟨q0, q1, q2, q3, q4, q5, hqc⟩ := six hq2.len
        have hpl := hq2.plain
        rw [hqc] at hpl
        simp at hpl
        simp [f1, f2, splice, hqc, hpl]
        simp only [← hqc]
        refine S.pinfoldlaw11_Records hE q.pol qc ((hq2.mono eN).at_ hqf) l v3 (hl.mono (x9.trans (e1.trans eN))) hok (by omega) ks v4 (hks.mono (x9.trans (e1.trans eN))) hkn fun rv H6 l' e6 hrv hok' hl50 => ?_
        have hlr := hrv.lenSlc
        rw [List.length_map] at hlr
        simp [hlr]
        have k4 : H6.get H'.next = .cells qc none := e6.cells (AH.get_new_self _ _)
        refine MeanSpeaks_l2 hE X v3 v4 _ _ H'.next j (by omega) q.pol (by have := hq3.1; omega) qc hq2.len k4 ((hq2.mono (eN.trans e6)).at_ hqf) l' hl50 hok' rv hrv fun H7 e7 => ?_
        exact hX' hj2 _ _ ⟨rfl, e1.trans (eN.trans (e6.trans e7))⟩
      · exact hQ _
end Go.AM
end
section
namespace Go.AM
variable {E : Sy} {H : AH} {Q : Value → AH → Prop}
theorem astrength_stronger (a b : BitVec 32) : astrength (astronger a b) = if astrength a < astrength b then astrength b else astrength a := by
  unfold astronger; split <;> simp [*]
theorem foldr_mono (r : RecD) : ∀ (l : List PolD) (a b : BitVec 32), astrength a ≤ astrength b → astrength (l.foldr (fun p o => astronger o (says p r)) a) ≤ astrength (l.foldr (fun p o => astronger o (says p r)) b)
  | [], a, b, h => h
  | p :: l, a, b, h => by
    have := foldr_mono r l a b h
    simp only [List.foldr_cons, astrength_stronger]
    split <;> split <;> omega
theorem sayAll_more (l : List PolD) (q : PolD) (r : RecD) : astrength (sayAll l r) ≤ astrength (sayAll (l ++ [q]) r) := by
  unfold sayAll
  rw [List.foldr_append]
  refine foldr_mono r l _ _ ?_
  simp only [List.foldr_cons, List.foldr_nil, astrength_stronger]
  split <;> omega
def PolsAt (Z : AH) (l : List PolX) (rows : List (List Value)) : Prop := rows.length = l.length ∧ ∀ i (h1 : i < l.length) (h2 : i < rows.length), PolXAt Z l[i] rows[i]
def RPolsAt (Z : AH) (l : List PolX) (rows : List (List Value)) : Prop := rows.length = l.length ∧ ∀ i (h1 : i < l.length) (h2 : i < rows.length), RPolXAt Z l[i] rows[i]
theorem PolsAt.sub {Z Z' : AH} {l : List PolX} {rows : List (List Value)} (h : PolsAt Z l rows) (s : Sub Z Z') : PolsAt Z' l rows := ⟨h.1, fun i a b => (h.2 i a b).sub s⟩
theorem RPolsAt.sub {Z Z' : AH} {l : List PolX} {rows : List (List Value)} (h : RPolsAt Z l rows) (s : Sub Z Z') : RPolsAt Z' l rows := ⟨h.1, fun i a b => (h.2 i a b).sub s⟩
theorem PolsAt.snoc {Z : AH} {l : List PolX} {rows : List (List Value)} (h : PolsAt Z l rows) {x : PolX} {c : List Value} (hx : PolXAt Z x c) : PolsAt Z (l ++ [x]) (rows ++ [c]) := by
  refine ⟨by simp [h.1], fun i a b => ?_⟩
  by_cases e : i < l.length
  · rw [List.getElem_append_left e, List.getElem_append_left (by rw [h.1]; exact e)]; exact h.2 i e _
  · have : i = l.length := by simp at a; omega
    subst this
    rw [List.getElem_append_right (Nat.le_refl _), List.getElem_append_right (by rw [h.1]; exact Nat.le_refl _)]
    simpa [h.1] using hx
theorem RPolsAt.snoc {Z : AH} {l : List PolX} {rows : List (List Value)} (h : RPolsAt Z l rows) {x : PolX} {c : List Value} (hx : RPolXAt Z x c) : RPolsAt Z (l ++ [x]) (rows ++ [c]) := by
  refine ⟨by simp [h.1], fun i a b => ?_⟩
  by_cases e : i < l.length
  · rw [List.getElem_append_left e, List.getElem_append_left (by rw [h.1]; exact e)]; exact h.2 i e _
  · have : i = l.length := by simp at a; omega
    subst this
    rw [List.getElem_append_right (Nat.le_refl _), List.getElem_append_right (by rw [h.1]; exact Nat.le_refl _)]
    simpa [h.1] using hx
theorem PolsAt.plain {Z : AH} {l : List PolX} {rows : List (List Value)} (h : PolsAt Z l rows) : ∀ r ∈ rows, r.all plain1 = true := by
  intro r hr
  obtain ⟨i, hi, rfl⟩ := List.getElem_of_mem hr
  exact (h.2 i (by rw [← h.1]; exact hi) hi).plain
theorem PolsAt.slice {Z : AH} {l : List PolX} {rows : List (List Value)} (h : PolsAt Z l rows) (hf : ∀ x ∈ l, x.few) {v : Value} (hr : Rows Z 6 v rows) : SliceOf PolAt Z 6 v (l.map PolX.pol) :=
  ⟨rows, hr, by simp [h.1], fun i a b => by
    have hi : i < l.length := by simpa using a
    have := (hf _ (List.getElem_mem hi)).1
    simpa using (h.2 i hi b).at_ (by omega)⟩
theorem RPolsAt.slice {Z : AH} {l : List PolX} {rows : List (List Value)} (h : RPolsAt Z l rows) (hf : ∀ x ∈ l, x.few) {v : Value} (hr : Rows Z 6 v rows) : SliceOf RPolAt Z 6 v (l.map PolX.pol) :=
  ⟨rows, hr, by simp [h.1], fun i a b => by
    have hi : i < l.length := by simpa using a
    have := (hf _ (List.getElem_mem hi)).1
    simpa using (h.2 i hi b).at_ (by omega)⟩
theorem MeanAll_l2 (hE : Fold E) (Z : AH) (b6 b13 : Nat) (t9 t10 : Value) (l : List PolX) (hl : l.length ≤ 6) (hf : ∀ x ∈ l, x.few) (ra rb : List (List Value)) (h9 : Rows Z 6 t9 ra) (h10 : Rows Z 6 t10 rb) (ha : PolsAt Z l ra) (hb : RPolsAt Z l rb) (q : PolX) (hq : q.few) (qc : List Value) (hqc : PolXAt Z q qc) (h13 : Z.get b13 = .cells qc none)
    (r0 : RecD) (hr0 : r0.ok) (h6 : Z.get b6 = .cells r0.cells none) (rs : List RecD) (hrs : rs.length ≤ 50) (hok : ∀ r ∈ rs, r.ok) (rv : Value) (hrv : Rows Z 9 rv (rs.map RecD.cells)) (hz : Sub Z H) (hQ : ∀ H', Q (vb true) H') :
    LoopL (fun l H X0 => F.pinfoldlaw11_MeanAll_l2 E Q (nth l 0) (nth l 1) (nth l 2) (nth l 3) (nth l 4) (nth l 5) (nth l 6) H X0) [ptr b6 0, t9, t10, ptr b13 0, rv, vi rs.length, vi 0] H := by
  refine LoopL.count rs.length (fun j s H' => s = [ptr b6 0, t9, t10, ptr b13 0, rv, vi rs.length, vi j] ∧ Sub Z H') ?_ ⟨rfl, hz⟩
  rintro j _ H' X hj hX ⟨rfl, z1⟩
  simp only [F.pinfoldlaw11_MeanAll_l2, nth_0, nth_1, nth_2, nth_3, nth_4, nth_5, nth_6, i64_lss, opt_some]
  refine ifB_split (fun h => ?_) (fun h => ?_)
  · have hjl : j < rs.length := by omega
    obtain ⟨b, o, f1, f2⟩ := (hrv.sub z1).ix (i := j) (by simpa using hjl)
    simp only [List.getElem_map] at f2
    have hr := hok _ (List.getElem_mem hjl)
    generalize rs[j] = r at *
    have e9 := row_all r.cells none 9 (RecD.cells_len hr)
    have e6 := row_all qc none 6 hqc.len
    obtain ⟨n, a, t, x0, x1, x2, x3, x4, x5, hcc⟩ := RecD.cells_ok hr
    have g1 := (Has.begin (Ext.refl H') z1).newbox r.cells
    have g2 := g1.newroom 6
    have g3 := g2.newbox qc
    simp only [List.nil_append, List.cons_append, AH.next_new] at g1 g2 g3
    have k13 := g3.sub.cells h13
    have k13' := g2.sub.cells h13
    have hbs0 := buildS_full 0 6 [str [], u32 0#32, nilS, u16 0#16, nilS, nilS] [] [] rfl rfl rfl rfl (by simp)
    simp [-buildS_eq, f1, f2, splice, hcc]
    simp only [← hcc]
    rw [hbs0, mk_some, mkSlc_eq]
    simp [-buildS_eq, AH.get_new, e9]
    have k13'' := z1.cells h13
    have l13 := AH.lt_cells k13''
    have n1 : ¬ b13 = H'.next := by omega
    have n2 : ¬ b13 = H'.next + 1 := by omega
    simp [-buildS_eq, n1, n2, k13'', e6]
    rw [buildS_one 6 [_, _, _, _, _, _] qc rfl hqc.len, mk_some, mkSlc_eq]
    have n3 : ¬ H'.next = H'.next + 1 + 1 := by omega
    simp [AH.get_new, e9, n3]
    have kk1 : (((H'.new (.cells r.cells none)).new (.cells [] none)).new (.cells qc none)).get (H'.next + 1) = .cells [] none := by simp [AH.get_new]
    generalize ((H'.new (.cells r.cells none)).new (.cells [] none)).new (.cells qc none) = H4 at *
    have sZ := g3.sub
    have hsa := (ha.slice hf h9)
    have hsa4 := hsa.sub (H' := H4) (fun _ _ _ _ h e => by obtain ⟨h0, a, v, b, c, d, h1, h2⟩ := h; exact ⟨h0, a, v, b, c, d, h1, h2.sub (fun _ _ _ _ h e => RuleAt.sub h e) e⟩) sZ
    refine S.mean_All hE (l.map PolX.pol) t9 (by simp; omega) hsa4 r hr fun H5 e5 => ?_
    have g5 := g3.grow e5
    obtain ⟨v11, H6, a1, a2, g6⟩ := g5.app (k := 1) rfl (bytes := 104) (h9.sub g5.sub) ha.plain (by omega) (by omega) (by have := ha.1; simp; omega) (by have := ha.1; simp; omega)
    have hqr : Rows H6 6 (slc (H'.next + 1 + 1) 0 1 1) [qc] := Rows.made (f := none) (by simpa using g6.box (k := 2) rfl) (.inl rfl) rfl (by simpa using hqc.len)
    obtain ⟨v12, H7, b1, b2, g7⟩ := g6.app (k := 1) rfl (bytes := 104) hqr (by simpa using hqc.plain) (by omega) (by omega) (by have := ha.1; simp; omega) (by have := ha.1; simp; omega)
    have c5 := g5.box (k := 0) rfl
    have c6 := g6.box (k := 0) rfl
    have c7 := g7.box (k := 0) rfl
    have d5 := g5.box (k := 2) rfl
    have d6 := g6.box (k := 2) rfl
    have kk5 := e5.cells kk1
    have q5 := g5.sub.cells h13
    have q6 := g6.sub.cells h13
    simp only [c5, e9, d5, q5, e6, kk5, Option.map_some, true_and, a1, opt2_some, c6, d6, q6, b1, c7]
    have hsq : SliceOf PolAt H7 6 v12 (l.map PolX.pol ++ [q.pol]) := by
      have := (ha.sub g7.sub).snoc (hqc.sub g7.sub)
      have := this.slice (fun x hx => by
        rcases List.mem_append.1 hx with hx | hx
        · exact hf x hx
        · simp at hx; subst hx; exact hq) (by simpa using g7.rows (k := 1) rfl)
      simpa using this
    refine S.mean_All hE (l.map PolX.pol ++ [q.pol]) v12 (by simp; omega) hsq r hr fun H8 e8 => ?_
    simp [e8.cells c7, e9]
    refine S.pinfoldlaw11_Ref hE r hr fun H9 e9' => ?_
    have hsb := (hb.slice hf h10)
    have s9 := g7.sub.ext (e8.trans e9')
    have hsb9 := hsb.sub (H' := H9) (fun _ _ _ _ h e => by obtain ⟨h0, v, h1, h2, h3⟩ := h; exact ⟨h0, v, h1, h2, h3.sub (fun _ _ _ _ h e => RRuleAt.sub h e) e⟩) s9
    refine S.pinfoldref09_All hE (l.map PolX.pol) t10 (by simp; omega) hsb9 r hr fun H10 e10 => ?_
    simp
    refine S.pinfoldref03_Strength hE _ ?_
    refine S.pinfoldref03_Strength hE _ ?_
    have hmo := sayAll_more (l.map PolX.pol) q.pol r
    have hnl : ¬ astrength (sayAll (l.map PolX.pol ++ [q.pol]) r) < astrength (sayAll (l.map PolX.pol) r) := by omega
    simp [rstrength_eq, hnl]
    rw [i64_inc (by omega), opt_some]
    exact hX hjl _ _ ⟨rfl, s9.ext e10⟩
  · have e9 := row_all r0.cells none 9 (RecD.cells_len hr0)
    simp [z1.cells h6, e9]
    refine S.mean_All hE [] nilS (by simp) ⟨[], Rows.nil _ _ none, rfl, by simp⟩ r0 hr0 fun H2 e2 => ?_
    have : sayAll [] r0 = 2147418112#32 := rfl
    simp [this]
    exact hQ _
theorem eight {cs : List Value} (h : cs.length = 8) : ∃ a b c d e f g i, cs = [a, b, c, d, e, f, g, i] := by
  match cs, h with
  | [a, b, c, d, e, f, g, i], _ => exact ⟨a, b, c, d, e, f, g, i, rfl⟩
theorem SmallAt.len {x : Small} {cs : List Value} (h : SmallAt H x cs) : cs.length = 8 := by obtain ⟨_, _, _, _, rfl, _⟩ := h; rfl
theorem SmallAt.plain {x : Small} {cs : List Value} (h : SmallAt H x cs) : cs.all plain1 = true := by
  obtain ⟨v, pv, rv, qv, rfl, ⟨rows, h1, _⟩, h2, h3, h4, _⟩ := h
  simp [h1.plain, Rows.plain h2, Rows.plain h3, Rows.plain h4]
theorem ArgSV.smalls {v : Value} (h : ArgSV H (.slice 8 smallSh) v) : ∃ l : List Small, SliceOf SmallAt H 8 v l ∧ l.length < 2 ^ 63 := by
  obtain ⟨w, l, e, g3, g4⟩ := SV.sliceOf (R := SmallAt) (fun r hr => SV.small hr) (show SV H (.slice 8 smallSh) [v] from h)
  obtain rfl : v = w := by simpa using e
  exact ⟨l, g3, g4⟩
theorem S.law_MeanAll (hE : Fold E) (args : List Value) (ha : ArgsSV H [.slice 8 smallSh, smallSh, recSh, .int .u8] args) (hQ : ∀ H', Q (vb true) H') : E.call (E.fid i.pinfoldlaw11_MeanAll) args H Q := by
  obtain ⟨v1, _, rfl, h1, ha⟩ := ha.cons_inv
  obtain ⟨v2, _, rfl, h2, ha⟩ := ha.cons_inv
  obtain ⟨v3, _, rfl, h3, ha⟩ := ha.cons_inv
  obtain ⟨v4, _, rfl, h4, ha⟩ := ha.cons_inv
  obtain rfl := ha.nil_inv
  obtain ⟨l, hl, hln⟩ := h1.smalls
  obtain ⟨s, sc, rfl, hs⟩ := h2.small
  obtain ⟨r, hr, rfl⟩ := h3.rec
  obtain ⟨k, rfl⟩ := h4.u8
  apply hE.pinfoldlaw11_MeanAll
  obtain ⟨Z1, zf1, zs1, k1⟩ := (Sub.refl H).newfrozen (.cells sc none)
  obtain ⟨Z2, zf2, zs2, k2⟩ := zs1.newfrozen (.cells r.cells none)
  have k1' := zf2.1.cells k1
  have sH : Sub H Z2 := zf1.1.trans zf2.1
  simp only [AH.next_new] at k2
  simp [F.pinfoldlaw11_MeanAll]
  refine S.pinfoldlaw11_Awake hE fun H3 e3 => ?_
  have g0 := Has.begin ((((Ext.refl H).new _).new _).trans e3) (zs2.ext e3)
  have hlv := (hl.sub (fun _ _ _ _ h e => SmallAt.sub h e) (sH.trans g0.sub)).lenSlc
  simp [hlv]
  by_cases h6 : (6 : Int) < l.length
  · simp [h6]; exact hQ _
  simp [h6]
  have g0 := (g0.nils 6).nils 6
  simp only [List.nil_append, List.cons_append] at g0
  refine LoopL.count l.length (fun j u H' => ∃ Z t9 t10 ra rb, u = [u8 k, ptr H.next 0, ptr (H.next + 1) 0, t9, t10, v1, vi l.length, vi j] ∧ Sub Z2 Z ∧ Has H Z H' [growR 6 t9 ra, growR 6 t10 rb] ∧ PolsAt Z ((l.take j).map Small.pol) ra ∧ RPolsAt Z ((l.take j).map Small.pol) rb) ?_
    ⟨Z2, nilS, nilS, [], [], rfl, Sub.refl _, g0, ⟨rfl, fun i h => by simp at h⟩, ⟨rfl, fun i h => by simp at h⟩⟩
  rintro j _ H' X hj hX ⟨Z, t9, t10, ra, rb, rfl, z1, g1, pa, pb⟩
  have hral := pa.1
  have hrbl := pb.1
  rw [List.length_map, List.length_take] at hral hrbl
  simp only [F.pinfoldlaw11_MeanAll_l1, nth_0, nth_1, nth_2, nth_3, nth_4, nth_5, nth_6, nth_7, i64_lss, opt_some]
  refine ifB_split (fun h => ?_) (fun h => ?_)
  · have hjl : j < l.length := by omega
    obtain ⟨b, o, ccs, f1, f2, f3⟩ := (hl.sub (fun _ _ _ _ h e => SmallAt.sub h e) (sH.trans z1)).ix (i := j) hjl
    have f2 : (H'.get b).row o 8 = some ccs := by rw [g1.sub.2 b (row_notdead f2)]; exact f2
    have htk : (l.take (j + 1)).map Small.pol = (l.take j).map Small.pol ++ [l[j].pol] := by
      rw [List.take_succ_eq_append_getElem hjl, List.map_append]; rfl
    generalize l[j] = x at *
    have g2 := g1.newbox ccs
    simp only [List.nil_append, List.cons_append] at g2
    obtain ⟨q0, q1, q2, q3, q4, q5, q6, q7, hqc⟩ := eight f3.len
    have hpl := f3.plain
    rw [hqc] at hpl
    simp at hpl
    have e8 := row_all ccs none 8 f3.len
    simp [-buildS_eq, f1, f2, splice, hqc, hpl]
    simp only [← hqc]
    refine S.pinfoldlaw09_Small_PolicyZ hE x ccs Z g2.sub f3 fun Z3 H4 cs' x4 y4 s4 hp4 => ?_
    have g3 := g2.refreeze x4 y4 s4
    rw [buildS_one 6 [_, _, _, _, _, _] cs' rfl hp4.len, mk_some, mkSlc_eq]
    obtain ⟨t9', H5, a1, a2, g4⟩ := g3.app1 (k := 0) rfl (bytes := 104) cs' hp4.len hp4.plain (by omega) (by omega) (by omega)
    have c4 := g4.box (k := 2) rfl
    simp [-buildS_eq, a1, c4, e8]
    have f3' := f3.sub y4.1
    refine S.pinfoldlaw09_Small_PolicyZ hE x ccs Z3 g4.sub f3' fun Z4 H6 cs2 x5 y5 s5 hp5 => ?_
    have g5 := g4.refreeze x5 y5 s5
    refine S.pinfoldlaw09_RefZ hE x.pol cs2 Z4 g5.sub hp5 x.pol_few fun Z5 H7 rc x6 y6 s6 hp6 => ?_
    have g6 := g5.refreeze x6 y6 s6
    rw [buildS_one 6 [_, _, _, _, _, _] rc rfl hp6.len, mk_some, mkSlc_eq]
    obtain ⟨t10', H8, b1, b2, g7⟩ := g6.app1 (k := 1) rfl (bytes := 104) rc hp6.len hp6.plain (by omega) (by omega) (by omega)
    simp [b1]
    rw [i64_inc (by omega), opt_some]
    refine hX hjl _ _ ⟨Z5, t9', t10', ra ++ [cs'], rb ++ [rc], rfl, z1.trans (y4.1.trans (y5.1.trans y6.1)), g7.drop 2, ?_, ?_⟩
    · rw [htk]; exact (pa.sub (y4.1.trans (y5.1.trans y6.1))).snoc (hp4.sub (y5.1.trans y6.1))
    · rw [htk]; exact (pb.sub (y4.1.trans (y5.1.trans y6.1))).snoc hp6
  · have : j = l.length := by omega
    subst this
    rw [List.take_length] at pa pb
    have e8 := row_all sc none 8 hs.len
    have c1 := g1.sub.cells (z1.cells k1')
    have c2 := g1.sub.cells (z1.cells k2)
    simp [-buildS_eq, c1, e8]
    obtain ⟨Za, w1, w2, g2⟩ := g1.freeze (k := 0) rfl
    obtain ⟨Zb, w3, w4, g3⟩ := g2.freeze (k := 0) rfl
    have r9 : Rows Zb 6 t9 ra := (Grow.toRows (show Grow zH Za 6 t9 ra from w2)).sub w3.1
    have r10 : Rows Zb 6 t10 rb := Grow.toRows (show Grow zH Zb 6 t10 rb from w4)
    have sZ2 : Sub Z2 Zb := z1.trans (w1.1.trans w3.1)
    have pa' := pa.sub (w1.1.trans w3.1)
    have pb' := pb.sub (w1.1.trans w3.1)
    refine S.pinfoldlaw09_Small_PolicyZ hE s sc Zb g3.sub (hs.sub (sH.trans sZ2)) fun Zc H6 cs2 x5 y5 s5 hp5 => ?_
    have g4 := g3.refreeze x5 y5 s5
    obtain ⟨Zd, y6, s6, k6⟩ := g4.sub.newfrozen (.cells cs2 none)
    have sZd : Sub Zb Zd := y5.1.trans y6.1
    have e9 := row_all r.cells none 9 (RecD.cells_len hr)
    obtain ⟨q0, q1, q2, q3, q4, q5, hqc⟩ := six hp5.len
    have hpl := hp5.plain
    rw [hqc] at hpl
    simp at hpl
    have e6 := row_all cs2 none 6 hp5.len
    simp [-buildS_eq, splice, hqc, hpl]
    simp only [← hqc]
    have c2' := s6.cells (sZd.cells (sZ2.cells k2))
    simp [-buildS_eq, c2', e6, e9]
    rw [buildS_one 9 [_, _, _, _, _, _, _, _, _] r.cells rfl (RecD.cells_len hr), mk_some, mkSlc_eq]
    simp
    have hks : Vals (((H6.new (.cells cs2 none)).new (.cells r.cells none)).new (.cells [u8 k, u8 (k + 1#8)] none)) (slc (H6.next + 2) 0 2 2) (([k, k + 1#8] : List (BitVec 8)).map u8) := Vals.made (f := none) (by simp [AH.get_new]) (.inl rfl) rfl
    have hrr : Rows (((H6.new (.cells cs2 none)).new (.cells r.cells none)).new (.cells [u8 k, u8 (k + 1#8)] none)) 9 (slc (H6.next + 1) 0 1 1) ([r].map RecD.cells) := Rows.made (f := none) (by simp [AH.get_new]) (.inl rfl) rfl (by simpa using RecD.cells_len hr)
    have hs10 : Sub Zd (((H6.new (.cells cs2 none)).new (.cells r.cells none)).new (.cells [u8 k, u8 (k + 1#8)] none)) := (s6.new _).new _
    refine S.pinfoldlaw11_Records hE s.pol.pol cs2 ((hp5.sub (y6.1.trans hs10)).at_ (by have := s.pol_few.1; omega)) [r] _ hrr (by simpa using hr) (by simp) [k, k + 1#8] _ hks (by simp) fun rv H11 l' e11 hrv hok' hl50 => ?_
    have hlr := hrv.lenSlc
    rw [List.length_map] at hlr
    simp [hlr]
    have sF := hs10.ext e11
    have sB := sZd.trans sF
    exact MeanAll_l2 hE H11 (H.next + 1) H6.next t9 t10 (l.map Small.pol) (by simp; omega) (fun x hx => by
      obtain ⟨y, _, rfl⟩ := List.mem_map.1 hx
      exact y.pol_few) ra rb (r9.sub sB) (r10.sub sB) (pa'.sub sB) (pb'.sub sB) s.pol s.pol_few cs2 (hp5.sub (y6.1.trans sF)) (sF.cells k6) r hr (sB.cells (sZ2.cells k2)) l' hl50 hok' rv hrv (Sub.refl _) hQ
end Go.AM
end
section
namespace Go.AM
variable {E : Sy} {H : AH} {Q : Value → AH → Prop}
theorem akind_cases (a : BitVec 32) : akind a = 327680#32 ∨ akind a = 2147221504#32 ∨ akind a = 2147418112#32 ∨ akind a = 2147483648#32 := by
  unfold akind; repeat' split
  all_goals simp
theorem akind_of_strength {a b : BitVec 32} (h : astrength a = astrength b) : akind a = akind b := by
  unfold astrength at h
  rcases akind_cases a with ha | ha | ha | ha <;> rcases akind_cases b with hb | hb | hb | hb <;> simp [ha, hb] at h ⊢
theorem afold_mem (l : List (BitVec 32)) (h : l ≠ []) : afold l ∈ l := by
  cases l with
  | nil => exact absurd rfl h
  | cons x l =>
    simp only [afold]
    rcases foldl_mem x l with h | h
    · rw [h]; simp
    · simp [h]
theorem afold_same {l m : List (BitVec 32)} (h1 : ∀ x ∈ l, x ∈ m) (h2 : ∀ x ∈ m, x ∈ l) (hl : l ≠ []) : astrength (afold l) = astrength (afold m) := by
  have hm : m ≠ [] := by
    rintro rfl
    obtain ⟨x, hx⟩ := List.exists_mem_of_ne_nil l hl
    simpa using h1 x hx
  have a1 := afold_max (l := m) (h1 _ (afold_mem l hl))
  have a2 := afold_max (l := l) (h2 _ (afold_mem m hm))
  omega
theorem says_back (p : PolD) (r : RecD) : akind (says ⟨p.default, p.rules.reverse⟩ r) = akind (says p r) := by
  by_cases ha : r.arch = 3221225534#32
  · have e : speaking ⟨p.default, p.rules.reverse⟩ r = (speaking p r).reverse := by simp [speaking, List.filter_reverse]
    rw [says_speaking _ r ha, says_speaking p r ha, e]
    cases h : speaking p r with
    | nil => simp
    | cons a t =>
      cases h2 : (a :: t).reverse with
      | nil => simp at h2
      | cons b u =>
        refine akind_of_strength (afold_same ?_ ?_ (by simp))
        · intro x hx; rw [← h2, List.mem_reverse] at hx; exact hx
        · intro x hx; rw [← h2, List.mem_reverse]; exact hx
  · simp [says, ha]
theorem says_own (p : PolD) (r : RecD) : says ⟨p.default, p.rules.filter fun x => decide (x.number = r.number)⟩ r = says p r := by
  unfold says
  have : ∀ (l : List RuleD) (s : BitVec 32 × Bool), (l.filter fun x => decide (x.number = r.number)).foldl (sayStep r) s = l.foldl (sayStep r) s := by
    intro l
    induction l with
    | nil => intro s; rfl
    | cons x l ih =>
      intro s
      by_cases h : x.number = r.number
      · simp [List.filter_cons, h, ih]
      · have : sayStep r s x = s := by simp [sayStep, rmatches, h]
        simp [List.filter_cons, h, ih, this]
  simp [this]
theorem rmatches_more (x : RuleD) (c : CondD) (r : RecD) (h : rmatches ⟨x.number, x.action, x.conds ++ [c]⟩ r = true) : rmatches x r = true := by
  simp [rmatches] at h ⊢
  exact ⟨h.1, h.2.1⟩
def RulesAt (Z : AH) (l : List RuleD) (rows : List (List Value)) : Prop := rows.length = l.length ∧ ∀ i (h1 : i < l.length) (h2 : i < rows.length), RuleAt Z l[i] rows[i]
theorem RulesAt.sub {Z Z' : AH} {l : List RuleD} {rows : List (List Value)} (h : RulesAt Z l rows) (s : Sub Z Z') : RulesAt Z' l rows := ⟨h.1, fun i a b => (h.2 i a b).sub s⟩
theorem RulesAt.snoc {Z : AH} {l : List RuleD} {rows : List (List Value)} (h : RulesAt Z l rows) {x : RuleD} {c : List Value} (hx : RuleAt Z x c) : RulesAt Z (l ++ [x]) (rows ++ [c]) := by
  refine ⟨by simp [h.1], fun i a b => ?_⟩
  by_cases e : i < l.length
  · rw [List.getElem_append_left e, List.getElem_append_left (by rw [h.1]; exact e)]; exact h.2 i e _
  · have : i = l.length := by simp at a; omega
    subst this
    rw [List.getElem_append_right (Nat.le_refl _), List.getElem_append_right (by rw [h.1]; exact Nat.le_refl _)]
    simpa [h.1] using hx
theorem RuleAt.shape {x : RuleD} {cs : List Value} (h : RuleAt H x cs) : ∃ w, cs = [u32 x.number, u32 x.action, w] ∧ plain1 w = true ∧ Rows H 4 w (x.conds.map CondD.cells) := by
  obtain ⟨_, w, h1, h2⟩ := h
  exact ⟨w, h1, h2.plain, h2⟩
abbrev ownC (d : BitVec 32) (v : Value) : List Value := [str [], u32 d, v, u16 0#16, nilS, nilS]
theorem MeanNarrows_j1 (hE : Fold E) (X0 X1 : List Value → AH → Prop) (t5 t27 t28 t29 t40 t41 : Value) (b9 b11 b12 b13 : Nat) (j : Nat) (H0 Z : AH) (p : PolX) (hp : p.pol.rules.length ≤ 12) (qc : List Value) (hqc : PolXAt Z p qc) (h9 : Z.get b9 = .cells qc none) (hj : j < p.pol.rules.length) (d : BitVec 32) (ov bv : Value) (ro rb : List (List Value)) (hrb : RulesAt Z (p.pol.rules.reverse.take j) rb)
    (hS : Has H0 Z H [boxR b12 (ownC d ov), boxR b13 (ownC d bv), growR 3 ov ro, growR 3 bv rb])
    (hX : ∀ H' bv' rb', RulesAt Z (p.pol.rules.reverse.take (j + 1)) rb' → Has H0 Z H' [boxR b12 (ownC d ov), boxR b13 (ownC d bv'), growR 3 ov ro, growR 3 bv' rb'] → X1 [t5, ptr b9 0, ptr b11 0, ptr b12 0, ptr b13 0, t27, t28, t29, t40, t41, vi ((j + 1 : Nat) : Int)] H') :
    F.pinfoldlaw11_MeanNarrows_j1 E Q X0 X1 t5 (ptr b9 0) (ptr b11 0) (ptr b12 0) (ptr b13 0) (vi j) t27 t28 t29 t40 t41 (vi j) H := by
  have hqc' := hqc
  obtain ⟨v, pv, qv, rfl, hv, _⟩ := hqc'
  have k9 := hS.sub.cells h9
  have k13 := hS.box (k := 1) rfl
  have hl := (hv.sub (fun _ _ _ _ h e => RuleAt.sub h e) hS.sub).lenSlc
  simp [-buildS_eq, F.pinfoldlaw11_MeanNarrows_j1, k9, k13, hl]
  rw [i64_sub (by omega) (by omega), opt_some, i64_sub (by omega) (by omega), opt_some]
  have e0 : (p.pol.rules.length : Int) - 1 - j = ((p.pol.rules.length - 1 - j : Nat) : Int) := by omega
  rw [e0]
  obtain ⟨b, o, cs, f1, f2, f3⟩ := hv.ix (i := p.pol.rules.length - 1 - j) (by omega)
  have f2 : (H.get b).row o 3 = some cs := by rw [hS.sub.2 b (row_notdead f2)]; exact f2
  obtain ⟨w, hcs, hw1, hw2⟩ := f3.shape
  have hlen := hrb.1
  rw [List.length_take, List.length_reverse] at hlen
  obtain ⟨v', H5, a1, a2, g4⟩ := hS.app1 (k := 3) rfl (bytes := 32) cs (by rw [hcs]; rfl) (by rw [hcs]; simp [hw1]) (by omega) (by omega) (by omega)
  simp [-buildS_eq, f1, f2]
  rw [buildS_one 3 [_, _, _] cs rfl (by rw [hcs]; rfl), mk_some, mkSlc_eq, a1]
  have m13 := g4.box (k := 1) rfl
  simp [a2, m13]
  rw [i64_inc (by omega), opt_some]
  refine hX _ v' (rb ++ [cs]) ?_ (g4.put (k := 1) rfl (ownC d v'))
  rw [List.take_succ_eq_append_getElem (by simpa using hj)]
  refine hrb.snoc ?_
  rw [List.getElem_reverse]
  exact f3
theorem MeanNarrows_l2 (hE : Fold E) (X0 : List Value → AH → Prop) (t27 t28 : Value) (b5 b9 b11 b12 b13 k : Nat) (hk : k < 1000) (H0 Z : AH) (sc : SCond) (h5 : Z.get b5 = .cells sc.cells none) (p : PolX) (hf : p.few) (hp : p.pol.rules.length ≤ 12) (qc : List Value) (hqc : PolXAt Z p qc) (h9 : Z.get b9 = .cells qc none)
    (r : RecD) (hr : r.ok) (h11 : Z.get b11 = .cells r.cells none) (v0 : Value) (hv0 : SliceOf RuleAt Z 3 v0 p.pol.rules)
    (hS : Has H0 Z H [boxR b12 (ownC p.pol.default nilS), boxR b13 (ownC p.pol.default nilS), growR 3 nilS [], growR 3 nilS []])
    (hX : ∀ H', Ext H0 H' → Sub Z H' → X0 [ptr b5 0, ptr b9 0, t27, t28, vi ((k + 1 : Nat) : Int)] H') :
    LoopL (fun l H X1 => F.pinfoldlaw11_MeanNarrows_l2 E Q X0 (nth l 0) (nth l 1) (nth l 2) (nth l 3) (nth l 4) (nth l 5) (nth l 6) (nth l 7) (nth l 8) (nth l 9) (nth l 10) H X1)
      [ptr b5 0, ptr b9 0, ptr b11 0, ptr b12 0, ptr b13 0, t27, t28, vi k, v0, vi p.pol.rules.length, vi 0] H := by
  refine LoopL.count p.pol.rules.length (fun j s H' => ∃ ov bv ro rb, s = [ptr b5 0, ptr b9 0, ptr b11 0, ptr b12 0, ptr b13 0, t27, t28, vi k, v0, vi p.pol.rules.length, vi j] ∧ RulesAt Z ((p.pol.rules.take j).filter fun x => decide (x.number = r.number)) ro ∧ RulesAt Z (p.pol.rules.reverse.take j) rb ∧
      Has H0 Z H' [boxR b12 (ownC p.pol.default ov), boxR b13 (ownC p.pol.default bv), growR 3 ov ro, growR 3 bv rb]) ?_ ⟨nilS, nilS, [], [], rfl, ⟨rfl, fun i h => by simp at h⟩, ⟨rfl, fun i h => by simp at h⟩, hS⟩
  rintro j _ H' X hj hX' ⟨ov, bv, ro, rb, rfl, pO, pB, g1⟩
  have e9 := row_all r.cells none 9 (RecD.cells_len hr)
  have e6 := row_all qc none 6 hqc.len
  simp only [F.pinfoldlaw11_MeanNarrows_l2, nth_0, nth_1, nth_2, nth_3, nth_4, nth_5, nth_6, nth_7, nth_8, nth_9, nth_10, i64_lss, opt_some]
  refine ifB_split (fun h => ?_) (fun h => ?_)
  · have hjl : j < p.pol.rules.length := by omega
    obtain ⟨b, o, cs, f1, f2, f3⟩ := hv0.ix (i := j) hjl
    have f2 : (H'.get b).row o 3 = some cs := by rw [g1.sub.2 b (row_notdead f2)]; exact f2
    have hcl := hf.2.1 _ (List.getElem_mem hjl)
    have htk : (p.pol.rules.take (j + 1)).filter (fun x => decide (x.number = r.number)) = (p.pol.rules.take j).filter (fun x => decide (x.number = r.number)) ++ (if p.pol.rules[j].number = r.number then [p.pol.rules[j]] else []) := by
      rw [List.take_succ_eq_append_getElem hjl, List.filter_append, List.filter_cons]; simp
    have hol := pO.1
    have hol2 : ((p.pol.rules.take j).filter fun x => decide (x.number = r.number)).length ≤ 12 := Nat.le_trans (List.length_filter_le _ _) (by rw [List.length_take]; omega)
    generalize p.pol.rules[j] = x at *
    obtain ⟨w, hcs, hw1, hw2⟩ := f3.shape
    have g2 := ((g1.newbox cs).newbox cs).newroom 4
    simp only [List.nil_append, List.cons_append, AH.next_new] at g2
    have hbs0 := buildS_full 0 4 [vi 0, u8 0#8, u64 0#64, u64 0#64] [] [] rfl rfl rfl rfl (by simp)
    simp [-buildS_eq, f1, f2, splice, hcs, hw1, AH.get_new]
    simp only [← hcs]
    rw [hbs0, mk_some, mkSlc_eq]
    rw [show (List.flatMap vcells ([] : List Value)) = [] from rfl]
    simp only [AH.next_new]
    have c5 := g2.sub.cells h5
    have m4 := g2.box (k := 4) rfl
    generalize ((H'.new (.cells cs none)).new (.cells cs none)).new (.cells [] none) = H3 at *
    have c42 : cs[2]? = some w := by rw [hcs]; rfl
    have e4 := row_all sc.cells none 4 rfl
    have e3 := row_all cs none 3 (by rw [hcs]; rfl)
    simp only [m4, c5, cell_cells, c42, opt_some, e4, Option.map_some]
    obtain ⟨v11, H6, a1, a2, g3⟩ := g2.app (k := 6) rfl (bytes := 32) (hw2.sub g2.sub) (by intro r hr; obtain ⟨c, _, rfl⟩ := List.mem_map.1 hr; rfl) (by omega) (by omega) (by simp; omega) (by simp; omega)
    have c6 := g3.sub.cells h5
    simp only [a1, opt2_some, c6, e4, Option.map_some, true_and]
    refine S.pinfoldlaw09_Cond_Cond hE sc fun H7 e7 => ?_
    have g4 := g3.grow e7
    rw [buildS_one 4 [_, _, _, _] sc.cond.cells rfl rfl, mk_some, mkSlc_eq]
    obtain ⟨v14, H9, b1, b2, g5⟩ := g4.app1 (k := 6) rfl (bytes := 32) sc.cond.cells rfl rfl (by omega) (by omega) (by simp; omega)
    rw [b1]
    have m6 := g5.box (k := 5) rfl
    have c43 : cs.set 2 v14 = [u32 x.number, u32 x.action, v14] := by rw [hcs]; rfl
    have c44 : 2 < cs.length := by rw [hcs]; simp
    simp only [opt2_some, m6, b2, if_true, c44, c43, opt_some]
    have g6 := g5.put (k := 5) rfl [u32 x.number, u32 x.action, v14]
    have l6 := g5.box_lt (k := 5) rfl
    have y4 := g6.box (k := 4) rfl
    have y5 := g6.box (k := 5) rfl
    have y11 := g6.sub.cells h11
    have y9 := g6.sub.cells h9
    have g61 := g6.rows (k := 6) rfl
    generalize H9.put (H'.next + 1) (.cells [u32 x.number, u32 x.action, v14] none) = H10 at *
    have e3' := row_all [u32 x.number, u32 x.action, v14] none 3 rfl
    simp only [y5, y11, e3', e9, Option.map_some, opt_some]
    have hrw : x.conds.map CondD.cells ++ [sc.cond.cells] = (x.conds ++ [sc.cond]).map CondD.cells := by simp
    simp only [List.nil_append] at g61
    rw [hrw] at g61
    refine S.mean_Matches hE ⟨x.number, x.action, x.conds ++ [sc.cond]⟩ [u32 x.number, u32 x.action, v14] ⟨by simp; omega, v14, rfl, g61⟩ r hr fun H11 e11 => ?_
    have g7 := g6.grow e11
    have z4 := g7.box (k := 4) rfl
    have z11 := g7.sub.cells h11
    have hcont : ∀ H15, Ext H11 H15 → opt ((H15.get H'.next).cell 0) (fun v25 => opt ((H15.get b11).cell 0) fun v27 => opt (binInt .eql v25 v27) fun v28 => ifB v28
        (opt ((H15.get b12).cell 2) fun v30 => opt (Option.map (fun l => Value.agg l.toArray) ((H15.get H'.next).row 0 3)) fun v31 => mk (buildS 1 3 #[u32 0#32, u32 0#32, (.slice none 0 0)] [(0, v31)]) H15 fun v32 H16 => opt2 (app 3 32 v30 v32 H16) fun v33 H17 => opt (if plain1 v33 = true then (match H17.get b12 with | .cells c fx => if 2 < c.length then some (H17.put b12 (.cells (c.set 2 v33) fx)) else none | _ => none) else none) fun H18 =>
          F.pinfoldlaw11_MeanNarrows_j1 E Q X0 X (ptr b5 0) (ptr b9 0) (ptr b11 0) (ptr b12 0) (ptr b13 0) (vi j) t27 t28 (vi k) v0 (vi p.pol.rules.length) (vi j) H18)
        (F.pinfoldlaw11_MeanNarrows_j1 E Q X0 X (ptr b5 0) (ptr b9 0) (ptr b11 0) (ptr b12 0) (ptr b13 0) (vi j) t27 t28 (vi k) v0 (vi p.pol.rules.length) (vi j) H15)) := by
      intro H15 e15
      have g8 := g7.grow e15
      have w4 := g8.box (k := 4) rfl
      have w11 := g8.sub.cells h11
      have c40 : cs[0]? = some (u32 x.number) := by rw [hcs]; rfl
      have c110 : r.cells[0]? = some (u32 r.number) := rfl
      simp only [w4, w11, cell_cells, c40, c110, opt_some, u32_eql]
      refine ifB_split (fun hn => ?_) (fun hn => ?_)
      · have w12 := g8.box (k := 0) rfl
        simp only [w12, cell_cells, e3, Option.map_some, opt_some]
        obtain ⟨v33, H17, a3, a4, g9⟩ := g8.app1 (k := 2) rfl (bytes := 32) cs (by rw [hcs]; rfl) (by rw [hcs]; simp [hw1]) (by omega) (by omega) (by omega)
        have u12 := g9.box (k := 0) rfl
        rw [buildS_one 3 [_, _, _] cs rfl (by rw [hcs]; rfl)]
        simp only [ownC, List.getElem?_cons_succ, List.getElem?_cons_zero, opt_some, mk_some, mkSlc_eq, a3, opt2_some]
        simp [a4, u12]
        have g10 := ((g9.put (k := 0) rfl (ownC p.pol.default v33)).drop 6).drop 5 |>.drop 4
        refine MeanNarrows_j1 hE X0 X (ptr b5 0) t27 t28 (vi k) v0 (vi p.pol.rules.length) b9 b11 b12 b13 j H0 Z p hp qc hqc h9 hjl p.pol.default v33 bv _ rb pB g10 fun H'' bv' rb' q1 q2 => ?_
        refine hX' hjl _ _ ⟨v33, bv', _, rb', rfl, ?_, q1, q2⟩
        rw [htk, if_pos hn]
        exact pO.snoc f3
      · have g10 := (g8.drop 6).drop 5 |>.drop 4
        refine MeanNarrows_j1 hE X0 X (ptr b5 0) t27 t28 (vi k) v0 (vi p.pol.rules.length) b9 b11 b12 b13 j H0 Z p hp qc hqc h9 hjl p.pol.default ov bv _ rb pB g10 fun H'' bv' rb' q1 q2 => ?_
        refine hX' hjl _ _ ⟨ov, bv', _, rb', rfl, ?_, q1, q2⟩
        rw [htk, if_neg hn, List.append_nil]
        exact pO
    by_cases hm : rmatches ⟨x.number, x.action, x.conds ++ [sc.cond]⟩ r = true
    · simp only [hm, gd_tt, z4, z11, e3, e9, Option.map_some, opt_some]
      refine S.mean_Matches hE x cs (f3.sub g7.sub) r hr fun H12 e12 => ?_
      simp only [rmatches_more x sc.cond r hm, gd_tt, un_not, Bool.not_true, opt_some, pick_true, ifB_false]
      exact hcont _ e12
    · have hm : rmatches ⟨x.number, x.action, x.conds ++ [sc.cond]⟩ r = false := by simpa using hm
      simp only [hm, gd_ft, gd_skip, pick_false, opt_some, ifB_false]
      exact hcont _ (Ext.refl _)
  · have : j = p.pol.rules.length := by omega
    subst this
    have c12 := g1.box (k := 0) rfl
    have c13 := g1.box (k := 1) rfl
    have c9 := g1.sub.cells h9
    have c11 := g1.sub.cells h11
    have e12 := row_all (ownC p.pol.default ov) none 6 rfl
    have e13 := row_all (ownC p.pol.default bv) none 6 rfl
    rw [List.take_length] at pO
    rw [List.take_of_length_le (by simp)] at pB
    have hO : PolAt H' ⟨p.pol.default, p.pol.rules.filter fun x => decide (x.number = r.number)⟩ (ownC p.pol.default ov) :=
      ⟨Nat.lt_of_le_of_lt (List.length_filter_le _ _) (by omega), _, ov, _, _, _, rfl, ro, g1.rows (k := 2) rfl, pO.1, (pO.sub g1.sub).2⟩
    have hB : PolAt H' ⟨p.pol.default, p.pol.rules.reverse⟩ (ownC p.pol.default bv) :=
      ⟨by simp; omega, _, bv, _, _, _, rfl, rb, g1.rows (k := 3) rfl, pB.1, (pB.sub g1.sub).2⟩
    have hP : PolAt H' p.pol qc := (hqc.sub g1.sub).at_ (by omega)
    simp only [loadN_ptr, c12, c11, c9, e12, e6, e9, Option.map_some, opt_some]
    refine S.mean_Says hE _ _ hO r hr fun H1 x1 => ?_
    simp only [x1.cells c11, x1.cells c9, e6, e9, Option.map_some, true_and]
    refine S.mean_Says hE _ _ (hP.mono x1) r hr fun H2 x2 => ?_
    have x12 := x1.trans x2
    rw [says_own]
    simp [x12.cells c13, x12.cells c11, x12.cells c9, e13, e6, e9]
    refine S.mean_Says hE _ _ (hB.mono x12) r hr fun H3 x3 => ?_
    have x13 := x12.trans x3
    simp [x13.cells c11, x13.cells c9, x12.cells c11, x12.cells c9, e6, e9]
    refine S.record_Action_Kind hE _ ?_
    simp [x13.cells c11, x13.cells c9, x12.cells c11, x12.cells c9, e6, e9]
    refine S.mean_Says hE _ _ (hP.mono x13) r hr fun H4 x4 => ?_
    refine S.record_Action_Kind hE _ ?_
    rw [says_back]
    simp
    rw [i64_inc (by omega), opt_some]
    have g9 := g1.grow (x13.trans x4)
    exact hX _ g9.ext g9.sub
theorem MeanNarrows_l1 (hE : Fold E) (Z : AH) (b5 b9 : Nat) (sc : SCond) (h5 : Z.get b5 = .cells sc.cells none) (p : PolX) (hf : p.few) (hp : p.pol.rules.length ≤ 12) (qc : List Value) (hqc : PolXAt Z p qc) (h9 : Z.get b9 = .cells qc none)
    (rs : List RecD) (hrs : rs.length ≤ 50) (hok : ∀ r ∈ rs, r.ok) (rv : Value) (hrv : Rows Z 9 rv (rs.map RecD.cells)) (hz : Sub Z H) (hQ : ∀ H', Q (vb true) H') :
    LoopL (fun l H X0 => F.pinfoldlaw11_MeanNarrows_l1 E Q (nth l 0) (nth l 1) (nth l 2) (nth l 3) (nth l 4) H X0) [ptr b5 0, ptr b9 0, rv, vi rs.length, vi 0] H := by
  refine LoopL.count rs.length (fun j s H' => s = [ptr b5 0, ptr b9 0, rv, vi rs.length, vi j] ∧ Sub Z H') ?_ ⟨rfl, hz⟩
  rintro j _ H' X hj hX ⟨rfl, z1⟩
  simp only [F.pinfoldlaw11_MeanNarrows_l1, nth_0, nth_1, nth_2, nth_3, nth_4, i64_lss, opt_some]
  refine ifB_split (fun h => ?_) (fun h => ?_)
  · have hjl : j < rs.length := by omega
    obtain ⟨b, o, f1, f2⟩ := (hrv.sub z1).ix (i := j) (by simpa using hjl)
    simp only [List.getElem_map] at f2
    have hr := hok _ (List.getElem_mem hjl)
    generalize rs[j] = r at *
    obtain ⟨n, a, t, x0, x1, x2, x3, x4, x5, hcc⟩ := RecD.cells_ok hr
    obtain ⟨Z1, y1, s1, k1⟩ := z1.newfrozen (.cells r.cells none)
    have g1 := ((((Has.begin (Ext.refl _) s1).newbox (ownC p.pol.default nilS)).newbox (ownC p.pol.default nilS)).nils 3).nils 3
    simp only [List.nil_append, List.cons_append, AH.next_new] at g1
    have hqc' := hqc
    obtain ⟨v, pv, qv, hq, hv, _⟩ := hqc'
    have hl := (hv.sub (fun _ _ _ _ h e => RuleAt.sub h e) z1).lenSlc
    have c9 := z1.cells h9
    have l9 := AH.lt_cells c9
    have n1 : ¬ b9 = H'.next := by omega
    have n2 : ¬ b9 = H'.next + 1 := by omega
    have n3 : ¬ b9 = H'.next + 2 := by omega
    have n4 : ¬ b9 = H'.next + 1 + 1 := by omega
    simp [f1, f2, splice, hcc, AH.get_new, AH.get_put, Nat.add_assoc, n1, n2, n3, n4, c9, hq, hl]
    simp only [← hcc]
    refine MeanNarrows_l2 hE X rv (vi rs.length) b5 b9 H'.next (H'.next + 1) (H'.next + 2) j (by omega) _ Z1 sc (y1.1.cells h5) p hf hp qc (hqc.sub y1.1) (y1.1.cells h9) r hr k1 v (hv.sub (fun _ _ _ _ h e => RuleAt.sub h e) y1.1) g1 fun H2 e2 s2 => ?_
    exact hX hjl _ _ ⟨rfl, y1.1.trans s2⟩
  · exact hQ _
theorem S.law_MeanNarrows (hE : Fold E) (args : List Value) (ha : ArgsSV H [smallSh, scondSh, .slice 9 recSh, .slice 1 (.int .u8)] args) (hQ : ∀ H', Q (vb true) H') : E.call (E.fid i.pinfoldlaw11_MeanNarrows) args H Q := by
  obtain ⟨v1, _, rfl, h1, ha⟩ := ha.cons_inv
  obtain ⟨v2, _, rfl, h2, ha⟩ := ha.cons_inv
  obtain ⟨v3, _, rfl, h3, ha⟩ := ha.cons_inv
  obtain ⟨v4, _, rfl, h4, ha⟩ := ha.cons_inv
  obtain rfl := ha.nil_inv
  obtain ⟨s, sc, rfl, hs⟩ := h1.small
  obtain ⟨cc, rfl, h2⟩ := h2
  obtain ⟨c, rfl⟩ := SV.scond (show SV H scondSh cc from h2)
  obtain ⟨l, hl, hok⟩ := h3.recs
  obtain ⟨ks, hks, hkn⟩ := h4.u8s'
  apply hE.pinfoldlaw11_MeanNarrows
  obtain ⟨Z1, zf1, zs1, k1⟩ := (Sub.refl H).newfrozen (.cells sc none)
  obtain ⟨Z2, zf2, zs2, k2⟩ := zs1.newfrozen (.cells c.cells none)
  have k1' := zf2.1.cells k1
  have sH : Sub H Z2 := zf1.1.trans zf2.1
  simp only [AH.next_new] at k2
  simp [F.pinfoldlaw11_MeanNarrows]
  refine S.pinfoldlaw11_Awake hE fun H3 e3 => ?_
  have s3 := zs2.ext e3
  have hlv := (hl.sub (sH.trans s3)).lenSlc
  rw [List.length_map] at hlv
  simp [hlv]
  by_cases h20 : (20 : Int) < l.length
  · simp [h20]; exact hQ _
  have e8 := row_all sc none 8 hs.len
  simp [h20, s3.cells k1', e8]
  refine S.pinfoldlaw09_Small_PolicyZ hE s sc Z2 s3 (hs.sub sH) fun Z3 H4 cs2 x4 y4 s4 hp4 => ?_
  obtain ⟨q0, q1, q2, q3, q4, q5, hqc⟩ := six hp4.len
  have hpl := hp4.plain
  rw [hqc] at hpl
  simp at hpl
  have e6 := row_all cs2 none 6 hp4.len
  obtain ⟨Z4, y5, s5, k5⟩ := s4.newfrozen (.cells cs2 none)
  simp [splice, hqc, hpl]
  simp only [← hqc]
  have sA : Sub H (H4.new (.cells cs2 none)) := sH.trans (y4.1.trans (y5.1.trans s5))
  refine S.pinfoldlaw11_Records hE s.pol.pol cs2 ((hp4.sub (y5.1.trans s5)).at_ (by have := s.pol_few.1; omega)) l v3 (hl.sub sA) hok (by omega) ks v4 (Rows.sub hks sA) hkn fun rv H11 l' e11 hrv hok' hl50 => ?_
  have hlr := hrv.lenSlc
  rw [List.length_map] at hlr
  simp [hlr]
  have sF := s5.ext e11
  exact MeanNarrows_l1 hE H11 (H.next + 1) H4.next c (sF.cells (y5.1.cells (y4.1.cells k2))) s.pol s.pol_few (by simp [Small.pol]; omega) cs2 (hp4.sub (y5.1.trans sF)) (sF.cells k5) l' hl50 hok' rv hrv (Sub.refl _) hQ
end Go.AM
end
