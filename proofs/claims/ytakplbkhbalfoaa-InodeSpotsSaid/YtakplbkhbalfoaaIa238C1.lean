/- CONTRACTS ON THE PRINTED FUNCTIONS. -/
import Derived.Test.YtakplbkhbalfoaaIa238C0
set_option linter.all false
section
namespace Go.AM
theorem zip_modify (f : Nd → Nd) : ∀ {N : List Nd} {Y : List RLy} {k : Nat} {x : Nd} (y' : RLy), N[k]? = some x → k < Y.length → (N.modify k f).zip (Y.set k y') = (N.zip Y).set k (f x, y')
  | [], _, k, _, _, h, _ => by simp at h
  | _ :: _, [], k, _, _, _, h => by simp at h
  | x0 :: N, y0 :: Y, 0, x, y', h, _ => by
    simp at h; subst h; simp
  | x0 :: N, y0 :: Y, k + 1, x, y', h, hk => by
    have := zip_modify f (N := N) (Y := Y) (k := k) (x := x) y' (by simpa using h) (by simpa using hk)
    simp [this]
section
variable {E : Sy} {H0 H H' H'' H1 : AH} {Q : Value → AH → Prop} {t : Nat} {nv nv' nv'' mv : Value} {nx : Int} {mr : List (List Value)} {Y Y' Y'' : List RLy} {T T' T'' : Tr}
theorem Upd.fresh {sz : Nat} {v v' : Value} {rows rows' : List (List Value)} (e : Ext H H') (g : Grow zH H' sz v' rows') (f : FreshV H.next v') : Upd (growR sz v rows) (growR sz v' rows') H H' :=
  Grow.upd ⟨e.only, fun b hb => .inr (f b hb)⟩ g
theorem nodeRR.setL {x x' : Nd} {y : RLy} {v' : Value} (h : Ow (nodeRR x y) H) (hd : x'.data = x.data) (e : Ext H H') (g : Grow zH H' 2 v' (entR x'.ents)) (f : FreshV H.next v') : Upd (nodeRR x y) (nodeRR x' { y with l := v' }) H H' := by
  have u := Ow.set (rs := [growR 1 y.data (byteR x.data), growR 2 y.l (entR x.ents)]) h (k := 1) rfl (Upd.fresh (rows := entR x.ents) (v := y.l) e g f)
  unfold nodeRR
  rw [hd]
  exact u
theorem nodeRR.setD {x x' : Nd} {y : RLy} {v' : Value} (h : Ow (nodeRR x y) H) (hd : x'.ents = x.ents) (e : Ext H H') (g : Grow zH H' 1 v' (byteR x'.data)) (f : FreshV H.next v') : Upd (nodeRR x y) (nodeRR x' { y with data := v' }) H H' := by
  have u := Ow.set (rs := [growR 1 y.data (byteR x.data), growR 2 y.l (entR x.ents)]) h (k := 0) rfl (Upd.fresh (rows := byteR x.data) (v := y.data) e g f)
  unfold nodeRR
  rw [hd]
  exact u
theorem nodeRR.same {x x' : Nd} {y : RLy} (hd : x'.data = x.data) (he : x'.ents = x.ents) : nodeRR x' y = nodeRR x y := by
  unfold nodeRR; rw [hd, he]
theorem RefT.node_y (h : RefT H t nv mv nx mr Y T) {n : BitVec 16} (hn : n.toNat < T.N.length) {y : RLy} (hy : Y[n.toNat]? = some y) : Ow (nodeRR (T.node n) y) H := h.part (Tr.node_get hn) hy
theorem RefT.seen (h : RefT H t nv mv nx mr Y T) {n : BitVec 16} (hn : n.toNat < T.N.length) {y : RLy} (hy : Y[n.toNat]? = some y) {b o : Nat} (hp : ixSlc 7 nv (vi (n.toNat : Int)) = some (ptr b o)) : NdAt H b o (T.node n) y := by
  obtain ⟨y', b', o', h1, h2, h3⟩ := h.at_ hn
  rw [hy] at h1
  rw [hp] at h2
  simp only [Option.some.injEq, Value.pointer.injEq, Addr.mk.injEq, and_true] at h1 h2
  obtain ⟨rfl, rfl⟩ := h2
  subst h1
  exact h3
theorem RefT.cell (h : RefT H t nv mv nx mr Y T) {n : BitVec 16} (hn : n.toNat < T.N.length) {y : RLy} (hy : Y[n.toNat]? = some y) {b o : Nat} (hp : ixSlc 7 nv (vi (n.toNat : Int)) = some (ptr b o)) (f : Nd → Nd) (y' : RLy)
    (u : Upd (nodeRR (T.node n) y) (nodeRR (f (T.node n)) y') H H1) {k : Nat} (hk : k < 7) {v : Value} (hv : plain1 v = true) (hc : (refI (f (T.node n)) y').cells = (refI (T.node n) y).cells.set k v) :
    ∃ H', store1 (ptr b (o + k)) v H1 = some H' ∧ UpdR t nv mv nx mr Y T nv (Y.set n.toNat y') (T.upd n f) H H' := by
  have hx := Tr.node_get hn
  have hylt : n.toNat < Y.length := by rw [h.len]; exact hn
  have hz : (T.N.zip Y)[n.toNat]? = some (T.node n, y) := by simp [List.zip, List.getElem?_zipWith, hx, hy]
  have hk3 : (refRs t nv mv nx mr Y T)[n.toNat + 3]? = some (nodeRR (T.node n) y) := by simp [refRs, hz]
  have u1 := h.ow.set (rs := refRs t nv mv nx mr Y T) hk3 u
  have o1 := h.ow.upd u1
  have g1 : Grow zH H1 7 nv (nodeRows T Y) := o1.holds (growR 7 nv (nodeRows T Y)) (by simp [refRs])
  have hi : n.toNat < (nodeRows T Y).length := by rw [h.rows_len]; exact hn
  obtain ⟨b', o', H', q1, q2, q3, q4, q5⟩ := g1.store (i := n.toNat) (k := k) hi hk v hv
  rw [hp] at q1
  simp only [Option.some.injEq, Value.pointer.injEq, Addr.mk.injEq, and_true] at q1
  obtain ⟨rfl, rfl⟩ := q1
  have hrow : (nodeRows T Y)[n.toNat] = (refI (T.node n) y).cells := by
    have : (nodeRows T Y)[n.toNat]? = some (refI (T.node n) y).cells := by simp only [nodeRows, List.getElem?_map, hz]; rfl
    rw [List.getElem?_eq_getElem hi] at this
    exact Option.some.inj this
  rw [hrow, ← hc] at q4
  have u2 := o1.set (rs := (refRs t nv mv nx mr Y T).set (n.toNat + 3) (nodeRR (f (T.node n)) y')) (k := 1) (r := growR 7 nv (nodeRows T Y)) (by simp [refRs]) (Grow.upd (v := nv) (rows := nodeRows T Y) ⟨q5, fun b hb => .inl hb⟩ q4)
  have hzz := zip_modify f y' hx hylt
  have he : ((refRs t nv mv nx mr Y T).set (n.toNat + 3) (nodeRR (f (T.node n)) y')).set 1 (growR 7 nv ((nodeRows T Y).set n.toNat (refI (f (T.node n)) y').cells)) = refRs t nv mv nx mr (Y.set n.toNat y') (T.upd n f) := by
    simp only [refRs, nodeRows, Tr.upd, hzz, List.map_set, List.set_cons_succ, List.set_cons_zero]
  refine ⟨H', q3, ?_, by simp [Tr.upd, h.len], by simpa [Tr.upd] using h.fit⟩
  have := u1.trans u2
  rw [he] at this
  exact this
theorem RefT.num (h : RefT H t nv mv nx mr Y T) {n : BitVec 16} (hn : n.toNat < T.N.length) {y : RLy} (hy : Y[n.toNat]? = some y) {b o : Nat} (hp : ixSlc 7 nv (vi (n.toNat : Int)) = some (ptr b o)) (f : Nd → Nd)
    (hf : ∀ x : Nd, (f x).data = x.data ∧ (f x).ents = x.ents) {k : Nat} (hk : k < 7) {v : Int} (hc : (refI (f (T.node n)) y).cells = (refI (T.node n) y).cells.set k (vi v)) :
    ∃ H', store1 (ptr b (o + k)) (vi v) H = some H' ∧ UpdR t nv mv nx mr Y T nv Y (T.upd n f) H H' := by
  obtain ⟨H', q1, q2⟩ := h.cell hn hy hp f y (by rw [nodeRR.same (hf _).1 (hf _).2]; exact (h.node_y hn hy).refl) hk (v := vi v) rfl hc
  refine ⟨H', q1, ?_⟩
  have : Y.set n.toNat y = Y := by
    apply List.ext_getElem?
    intro i
    by_cases e : n.toNat = i
    · subst e
      rw [List.getElem?_set_self (by rw [h.len]; exact hn), hy]
    · rw [List.getElem?_set_ne e]
  rwa [this] at q2
theorem RefT.tick (h : RefT H t nv mv nx mr Y T) : ∃ H', store1 (ptr t 4) (vi (T.change + 1)) H = some H' ∧ UpdR t nv mv nx mr Y T nv Y T.bump H H' := by
  have hh := h.head
  refine ⟨H.put t (.cells (TreeI.cells ⟨nv, T.limit, mv, nx, T.change + 1⟩) none), ?_, ?_, h.len, h.fit⟩
  · rw [store1_ptr]
    simp [hh, plain1]
  · exact h.ow.set (rs := refRs t nv mv nx mr Y T) (k := 0) rfl (boxR.put hh _)
theorem noneV : buildV [(0, 1), (1, 1), (2, 1), (3, 1), (4, 1), (5, 1), (6, 1)] #[(.int .i64 0), (.slice none 0 0), (.slice none 0 0), (.int .i64 0), (.string ⟨#[]⟩), (.int .i64 0), (.int .i64 0)] [] = some (.agg (refI Nd.none ⟨nilS, nilS⟩).cells.toArray) := rfl
theorem node_kind_lt {n : BitVec 16} (h : (T.node n).kind ≠ 0#8) : n.toNat < T.N.length := by
  by_cases hn : n.toNat < T.N.length
  · exact hn
  · exact (h (by rw [Tr.node_ge (by omega)]; rfl)).elim
theorem S.f51 (hE : Fold E) (h : RefT H t nv mv nx mr Y T) (n : BitVec 16) (hn : n.toNat < T.N.length) (hQ : ∀ Y' H', UpdR t nv mv nx mr Y T nv Y' (T.tidy n) H H' → Q (.tuple #[]) H') : E.call (E.fid i.f51) [ptr t 0, vi (n.toNat : Int)] H Q := by
  apply hE.f51
  have hh := h.head
  obtain ⟨y, b, o, h1, h2, h3⟩ := h.at_ hn
  obtain ⟨_, _, _, _, _, c5, c6⟩ := h3.cell
  unfold Tr.tidy at hQ
  by_cases e1 : (T.node n).links = 0
  · by_cases e2 : (T.node n).held = 0
    · rw [if_pos ⟨e1, e2⟩] at hQ
      have hx := Tr.node_get hn
      have hylt : n.toNat < Y.length := by rw [h.len]; exact hn
      have hz : (T.N.zip Y)[n.toNat]? = some (T.node n, y) := by simp [List.zip, List.getElem?_zipWith, hx, h1]
      have hi : n.toNat < (nodeRows T Y).length := by rw [h.rows_len]; exact hn
      obtain ⟨b', o', H', q1, q2, q3, q4⟩ := h.rows.storeN (i := n.toNat) hi (refI Nd.none ⟨nilS, nilS⟩).cells rfl rfl
      rw [h2] at q1
      simp only [Option.some.injEq, Value.pointer.injEq, Addr.mk.injEq, and_true] at q1
      obtain ⟨rfl, rfl⟩ := q1
      have u1 := h.ow.set (rs := refRs t nv mv nx mr Y T) (k := 1) (r := growR 7 nv (nodeRows T Y)) (by simp [refRs]) (Grow.upd (v := nv) (rows := nodeRows T Y) ⟨q4, fun b hb => .inl hb⟩ q3)
      have o1 := h.ow.upd u1
      have hk3 : ((refRs t nv mv nx mr Y T).set 1 (growR 7 nv ((nodeRows T Y).set n.toNat (refI Nd.none ⟨nilS, nilS⟩).cells)))[n.toNat + 3]? = some (nodeRR (T.node n) y) := by simp [refRs, hz]
      have ho := o1.part hk3
      have ue : Upd (nodeRR (T.node n) y) (nodeRR Nd.none ⟨nilS, nilS⟩) H' H' := by
        refine ⟨Only.refl _ _, ?_, ?_, ?_⟩
        · intro r hr
          simp only [List.mem_cons, List.not_mem_nil, or_false] at hr
          rcases hr with rfl | rfl
          · exact Grow.nil _ _ _
          · exact Grow.nil _ _ _
        · intro b hb
          simp [nodeRR, joinR, growR, blkL, blk] at hb
        · simp [nodeRR, joinR, growR, blkL, blk]
      have u2 := o1.set hk3 ue
      have hzz := zip_modify (fun _ => Nd.none) (⟨nilS, nilS⟩ : RLy) hx hylt
      have he : ((refRs t nv mv nx mr Y T).set 1 (growR 7 nv ((nodeRows T Y).set n.toNat (refI Nd.none ⟨nilS, nilS⟩).cells))).set (n.toNat + 3) (nodeRR Nd.none ⟨nilS, nilS⟩) = refRs t nv mv nx mr (Y.set n.toNat ⟨nilS, nilS⟩) (T.upd n fun _ => Nd.none) := by
        simp only [refRs, nodeRows, Tr.upd, hzz, List.map_set, List.set_cons_succ, List.set_cons_zero]
      have u3 := u1.trans u2
      rw [he] at u3
      simp only [F.f51, nilCk_p, addOff_ptr, load1_ptr, Nat.add_zero, Nat.zero_add, hh, cell_cells_z, TreeI.at0, h2, c5, e1, i64_eql, decide_true, gd_tt, c6, e2, pick_true_z, noneV, q2, tk_eq, opt_some, ifB_true]
      exact hQ _ H' ⟨u3, by simp [Tr.upd, h.len], by simpa [Tr.upd] using h.fit⟩
    · rw [if_neg fun k => e2 k.2] at hQ
      simp only [F.f51, nilCk_p, addOff_ptr, load1_ptr, Nat.add_zero, Nat.zero_add, hh, cell_cells_z, TreeI.at0, h2, c5, e1, i64_eql, decide_true, gd_tt, c6, e2, decide_false, pick_true_z, tk_eq, opt_some, ifB_false]
      exact hQ Y H (h.same (Ext.refl _))
  · rw [if_neg fun k => e1 k.1] at hQ
    simp only [F.f51, nilCk_p, addOff_ptr, load1_ptr, Nat.add_zero, Nat.zero_add, hh, cell_cells_z, TreeI.at0, h2, c5, e1, i64_eql, decide_false, gd_ft, pick_false_z, tk_eq, opt_some, ifB_false]
    exact hQ Y H (h.same (Ext.refl _))
theorem S.f39 (hE : Fold E) (h : RefT H t nv mv nx mr Y T) (n : BitVec 16) (more : Bool) (hb : 0 ≤ (T.node n).held ∧ (T.node n).held < 9223372036854775807)
    (hQ : ∀ Y' H', UpdR t nv mv nx mr Y T nv Y' (T.hold n more).1 H H' → Q (vi (T.hold n more).2) H') : E.call (E.fid i.f39) [ptr t 0, vi (n.toNat : Int), vb more] H Q := by
  apply hE.f39
  simp only [F.f39]
  refine S.f44 hE h n fun b o y H1 e1 hn hat => ?_
  obtain ⟨c0, _, _, _, _, _, c6⟩ := hn.cell
  unfold Tr.hold at hQ
  by_cases k0 : (T.node n).kind = 0#8
  · simp [k0] at hQ
    have : ((T.node n).kind.toNat : Int) = 0 := by rw [k0]; rfl
    simp only [nilCk_p, addOff_ptr, load1_ptr, Nat.add_zero, c0, this, i64_eql, decide_true, tk_eq, opt_some, ifB_true]
    exact hQ _ _ (h.same e1)
  · have hk : ¬ ((T.node n).kind.toNat : Int) = 0 := by rw [kind0]; exact k0
    have hlt := node_kind_lt k0
    obtain ⟨rfl, hy, hp⟩ := hat hlt
    simp only [nilCk_p, addOff_ptr, load1_ptr, Nat.add_zero, c0, hk, i64_eql, decide_false, tk_eq, opt_some, ifB_false]
    cases more with
    | true =>
      simp [k0] at hQ
      obtain ⟨H2, q1, q2⟩ := h.num hlt hy hp (Nd.addH 1) (fun _ => ⟨rfl, rfl⟩) (k := 6) (by omega) (v := (T.node n).held + 1) rfl
      simp only [ifB_true, nilCk_p, addOff_ptr, load1_ptr, c6, i64_add (a := (T.node n).held) (b := 1) (by omega) (by omega), q1, tk_eq, opt_some]
      exact hQ _ _ q2
    | false =>
      by_cases k1 : (T.node n).held = 0
      · simp [k0, k1] at hQ
        simp only [ifB_false, nilCk_p, addOff_ptr, load1_ptr, i64_eql, c6, k1, decide_true, ifB_true, tk_eq, opt_some]
        exact hQ _ _ (h.same e1)
      · simp [k0, k1] at hQ
        obtain ⟨H2, q1, q2⟩ := h.num hlt hy hp (Nd.addH (-1)) (fun _ => ⟨rfl, rfl⟩) (k := 6) (by omega) (v := (T.node n).held - 1) rfl
        simp only [ifB_false, nilCk_p, addOff_ptr, load1_ptr, i64_eql, c6, k1, decide_false, i64_sub (a := (T.node n).held) (b := 1) (by omega) (by omega), q1, tk_eq, opt_some]
        refine S.f51 hE (q2.ref h) n (by simpa [Tr.upd] using hlt) fun Y' H3 u => ?_
        exact hQ _ _ (q2.trans u)
end
end Go.AM
end
section
namespace Go.AM
section
variable {E : Sy} {H0 H H' H'' H1 : AH} {Q : Value → AH → Prop} {t : Nat} {nv nv' nv'' mv : Value} {nx : Int} {mr : List (List Value)} {Y Y' Y'' : List RLy} {T T' T'' : Tr}
theorem RefT.newL (h : RefT H t nv mv nx mr Y T) {n : BitVec 16} (hn : n.toNat < T.N.length) {y : RLy} (hy : Y[n.toNat]? = some y) {b o : Nat} (hp : ixSlc 7 nv (vi (n.toNat : Int)) = some (ptr b o)) (f : Nd → Nd)
    (hf : ∀ x : Nd, (f x).data = x.data) {v' : Value} (e : Ext H H1) (g : Grow zH H1 2 v' (entR (f (T.node n)).ents)) (fr : FreshV H.next v') (hc : (refI (f (T.node n)) { y with l := v' }).cells = (refI (T.node n) y).cells.set 2 v') :
    ∃ H', store1 (ptr b (o + 2)) v' H1 = some H' ∧ UpdR t nv mv nx mr Y T nv (Y.set n.toNat { y with l := v' }) (T.upd n f) H H' :=
  h.cell hn hy hp f _ (nodeRR.setL (h.node_y hn hy) (hf _) e g fr) (by omega) g.plain hc
theorem entryV (s : NameL) (k : BitVec 16) : buildV [(0, 1), (1, 1)] #[(.string ⟨#[]⟩), (.int .i64 0)] [(0, str s), (1, vi (k.toNat : Int))] = some (.agg (EntryI.cells ⟨s, (k.toNat : Int)⟩).toArray) := EntryI.build s (k.toNat : Int)
theorem Tr.room_zero {n : BitVec 16} {s : NameL} (h : T.room n s = 0) : (T.node n).kind = 2#8 ∧ alook s (T.node n).ents = none ∧ (T.node n).links ≠ 0 ∧ okName s = true ∧ (T.node n).ents.length < 32 := by
  unfold Tr.room at h
  by_cases d1 : T.dir n = 0
  · have hk : (T.node n).kind = 2#8 := by
      unfold Tr.dir at d1
      split at d1
      · simp at d1
      · split at d1
        · assumption
        · simp at d1
    simp only [d1, ne_eq, not_true, if_false] at h
    by_cases ok : okName s = false
    · simp [ok] at h
    · simp only [ok, Bool.false_eq_true, if_false] at h
      cases hl : alook s (T.node n).ents with
      | some x => rw [hl] at h; simp at h
      | none =>
        rw [hl] at h
        simp only [Option.isSome_none, Bool.false_eq_true, if_false] at h
        split at h
        · simp at h
        · split at h
          · simp at h
          · exact ⟨hk, rfl, by assumption, by simpa using ok, by omega⟩
  · simp [d1] at h
theorem S.f36 (hE : Fold E) (h : RefT H t nv mv nx mr Y T) (hs : T.small) (n : BitVec 16) (s : NameL) (hsl : s.length < 2 ^ 63) (v : BitVec 16) (hc : -9223372036854775808 ≤ T.change ∧ T.change < 9223372036854775807)
    (hl : 0 ≤ (T.node v).links) (hQ : ∀ Y' H', UpdR t nv mv nx mr Y T nv Y' (T.add n s v).1 H H' → Q (vi (T.add n s v).2) H') : E.call (E.fid i.f36) [ptr t 0, vi (n.toNat : Int), str s, vi (v.toNat : Int)] H Q := by
  apply hE.f36
  simp only [F.f36]
  refine S.f44 hE h v fun b o y H1 e1 hn hat => ?_
  obtain ⟨c0, _, _, _, _, c5, _⟩ := hn.cell
  unfold Tr.add at hQ
  by_cases k0 : (T.node v).kind = 0#8
  · simp [k0] at hQ
    have : ((T.node v).kind.toNat : Int) = 0 := by rw [k0]; rfl
    simp only [nilCk_p, addOff_ptr, load1_ptr, Nat.add_zero, c0, this, i64_eql, decide_true, tk_eq, opt_some, ifB_true]
    exact hQ _ _ (h.same e1)
  have hk : ¬ ((T.node v).kind.toNat : Int) = 0 := by rw [kind0]; exact k0
  have hlt := node_kind_lt k0
  obtain ⟨rfl, hy, hp⟩ := hat hlt
  by_cases k2 : (T.node v).kind = 2#8
  · simp [k0, k2] at hQ
    have : ((T.node v).kind.toNat : Int) = 2 := by rw [k2]; rfl
    simp only [nilCk_p, addOff_ptr, load1_ptr, Nat.add_zero, c0, this, show decide ((2 : Int) = 0) = false from rfl, i64_eql, decide_true, decide_false, tk_eq, opt_some, ifB_true, ifB_false]
    exact hQ _ _ (h.same e1)
  have hk2 : ¬ ((T.node v).kind.toNat : Int) = 2 := by rw [kind2]; exact k2
  simp only [nilCk_p, addOff_ptr, load1_ptr, Nat.add_zero, c0, hk, hk2, i64_eql, decide_false, tk_eq, opt_some, ifB_false]
  refine S.f49 hE h hs n s hsl fun H2 e2 => ?_
  have hn2 := hn.mono e2
  obtain ⟨_, _, _, _, _, c5, _⟩ := hn2.cell
  by_cases r0 : T.room n s = 0
  · by_cases l0 : (T.node v).links = 0
    · simp [k0, k2, r0, l0] at hQ
      simp only [i64_neq, r0, ne_eq, not_true, decide_false, decide_true, nilCk_p, addOff_ptr, load1_ptr, c5, l0, i64_eql, tk_eq, opt_some, ifB_true, ifB_false]
      exact hQ _ _ (h.same e2)
    by_cases l1 : 256 ≤ (T.node v).links
    · simp [k0, k2, r0, l0, l1] at hQ
      simp only [i64_neq, r0, ne_eq, not_true, decide_false, decide_true, nilCk_p, addOff_ptr, load1_ptr, c5, l0, l1, i64_eql, i64_geq, tk_eq, opt_some, ifB_true, ifB_false]
      exact hQ _ _ (h.same e2)
    simp [k0, k2, r0, l0, l1] at hQ
    obtain ⟨hd, hno, _⟩ := Tr.room_zero r0
    have hdlt : n.toNat < T.N.length := node_kind_lt (by rw [hd]; decide)
    have h2 := h.mono e2
    obtain ⟨yn, bn, on, y1, p1, nd1⟩ := h2.at_ hdlt
    obtain ⟨_, _, c2, _⟩ := nd1.cell
    have hh := h2.head
    simp only [i64_neq, r0, ne_eq, not_true, decide_false, nilCk_p, addOff_ptr, load1_ptr, Nat.add_zero, Nat.zero_add, c5, l0, l1, i64_eql, i64_geq, hh, cell_cells_z, TreeI.at0, p1, c2, entryV, tk_eq, opt_some, ifB_false]
    refine S.f53 hE yn.l (T.node n).ents nd1.2.2 (by have := (Tr.room_zero r0).2.2.2.2; omega) s v fun v' H3 e3 g3 f3 => ?_
    have hh3 := (h2.mono e3).head
    obtain ⟨H4, s4, u4⟩ := h2.newL hdlt y1 p1 (Nd.addE s v) (fun _ => rfl) e3 g3 f3 rfl
    have h4 := u4.ref h2
    have hvn : v ≠ n := by rintro rfl; exact k2 hd
    have hnode : (T.upd n (Nd.addE s v)).node v = T.node v := by rw [Tr.node_upd (by rw [hd]; decide), if_neg hvn]
    have hlt4 : v.toNat < (T.upd n (Nd.addE s v)).N.length := by simpa [Tr.upd] using hlt
    obtain ⟨y4, b4, o4, q1, q2, q3⟩ := h4.at_ hlt4
    rw [hp] at q2
    simp only [Option.some.injEq, Value.pointer.injEq, Addr.mk.injEq, and_true] at q2
    obtain ⟨rfl, rfl⟩ := q2
    obtain ⟨_, _, _, _, _, d5, _⟩ := q3.cell
    rw [hnode] at d5
    obtain ⟨H5, s5, u5⟩ := h4.num hlt4 q1 hp (Nd.addL 1) (fun _ => ⟨rfl, rfl⟩) (k := 5) (by omega) (v := (T.node v).links + 1) (by rw [hnode]; rfl)
    have h5 := u5.ref h4
    obtain ⟨H6, s6, u6⟩ := h5.tick
    have hh5 := h5.head
    refine ⟨by simp only [load1_ptr, hh3, hh], ?_⟩
    have hcc : ((T.upd n (Nd.addE s v)).upd v (Nd.addL 1)).change = T.change := rfl
    rw [hcc] at s6 hh5
    simp only [p1, addOff_ptr, s4, nilCk_p, load1_ptr, d5, i64_add (a := (T.node v).links) (b := 1) (by omega) (by omega), s5, hh5, cell_cells_z, Nat.zero_add, TreeI.at4, i64_add (a := T.change) (b := 1) (by omega) (by omega), s6, tk_eq, opt_some]
    exact hQ _ _ ((UpdR.after e2 u4).trans (u5.trans u6))
  · simp [k0, k2, r0] at hQ
    simp only [i64_neq, r0, ne_eq, not_false_iff, decide_true, tk_eq, opt_some, ifB_true]
    exact hQ _ _ (h.same e2)
theorem S.f38 (hE : Fold E) (h : RefT H t nv mv nx mr Y T) (hs : T.small) (n : BitVec 16) (s : NameL) (dir : Bool) (hc : -9223372036854775808 ≤ T.change ∧ T.change < 9223372036854775807)
    (hk : (T.look n s).2 = 0 → (T.node (T.look n s).1).kind ≠ 0#8 ∧ -9223372036854775807 ≤ (T.node (T.look n s).1).links ∧ (T.node (T.look n s).1).links < 9223372036854775807) (hel : (T.node n).ents.length < 2 ^ 36)
    (hQ : ∀ Y' H', UpdR t nv mv nx mr Y T nv Y' (T.drop n s dir).1 H H' → Q (vi (T.drop n s dir).2) H') : E.call (E.fid i.f38) [ptr t 0, vi (n.toNat : Int), str s, vb dir] H Q := by
  apply hE.f38
  simp only [F.f38]
  refine S.f41 hE h hs n s fun H1 e1 => ?_
  unfold Tr.drop at hQ
  by_cases l0 : (T.look n s).2 = 0
  · obtain ⟨hd, hlk⟩ := Tr.look_ok l0
    obtain ⟨k0, k1, k2⟩ := hk l0
    simp only [l0, ne_eq, not_true, if_false] at hQ
    generalize hv : (T.look n s).1 = v at *
    simp only [tk_eq, ext_tuple, List.getElem?_cons_zero, List.getElem?_cons_succ, l0, i64_neq, ne_eq, not_true, decide_false, opt_some, ifB_false]
    refine S.f44 hE (h.mono e1) v fun b o y H2 e2 hn hat => ?_
    obtain ⟨rfl, hy, hp⟩ := hat (node_kind_lt k0)
    obtain ⟨c0, _, c2, _, _, c5, _⟩ := hn.cell
    have hl := hn.lenL
    have hvlt := node_kind_lt k0
    have hnlt : n.toNat < T.N.length := node_kind_lt (by rw [hd]; decide)
    have fin : ¬ (dir = true ∧ (T.node v).kind ≠ 2#8) → ¬ (dir = false ∧ (T.node v).kind = 2#8) → ¬ (dir = true ∧ 0 < (T.node v).ents.length) →
       (opt (nilCk (ptr t 0)) fun v26 => opt (addOff v26 0) fun v27 => opt (load1 v27 H2) fun v28 => opt (nilCk (ptr t 0)) fun v29 => opt (addOff v29 0) fun v30 => opt (load1 v30 H2) fun v31 =>
         opt (ixSlc 7 v31 (vi (n.toNat : Int))) fun v32 => opt (addOff v32 2) fun v33 => opt (load1 v33 H2) fun v34 =>
         E.call (E.fid i.f44) [ptr t 0, vi (n.toNat : Int)] H2 fun v35 H19 =>
         load1 v33 H19 = load1 v33 H2 ∧ load1 v30 H19 = load1 v30 H2 ∧ load1 v27 H19 = load1 v27 H2 ∧
         E.call (E.fid i.f52) [v35, str s] H19 fun v36 H20 =>
         load1 v33 H20 = load1 v33 H2 ∧ load1 v30 H20 = load1 v30 H2 ∧ load1 v27 H20 = load1 v27 H2 ∧
         E.call (E.fid i.f54) [v34, v36] H20 fun v37 H21 =>
         load1 v27 H21 = load1 v27 H2 ∧
         opt (ixSlc 7 v28 (vi (n.toNat : Int))) fun v38 => opt (addOff v38 2) fun v39 => opt (store1 v39 v37 H21) fun H22 =>
         opt (nilCk (ptr b o)) fun v40 => opt (addOff v40 5) fun v41 => opt (load1 v41 H22) fun v42 => opt (binInt .sub v42 (.int .i64 1)) fun v43 =>
         opt (nilCk (ptr b o)) fun v44 => opt (addOff v44 5) fun v45 => opt (store1 v45 v43 H22) fun H23 =>
         opt (nilCk (ptr t 0)) fun v46 => opt (addOff v46 4) fun v47 => opt (load1 v47 H23) fun v48 => opt (binInt .add v48 (.int .i64 1)) fun v49 =>
         opt (nilCk (ptr t 0)) fun v50 => opt (addOff v50 4) fun v51 => opt (store1 v51 v49 H23) fun H24 =>
         E.call (E.fid i.f51) [ptr t 0, vi (v.toNat : Int)] H24 fun v52 H25 => Q (.int .i64 0) H25) := by
      intro n1 n2 n3
      rw [if_neg n1, if_neg n2, if_neg n3] at hQ
      have h2 := h.mono e1
      obtain ⟨yn, bn, on, y1, p1, nd1⟩ := h2.at_ hnlt
      obtain ⟨_, _, c2n, _⟩ := nd1.cell
      have hh := h2.head
      simp only [nilCk_p, addOff_ptr, load1_ptr, Nat.add_zero, Nat.zero_add, hh, cell_cells_z, TreeI.at0, p1, c2n, tk_eq, opt_some]
      refine S.f44 hE h2 n fun bz oz yz H3 e3 hnz hatz => ?_
      obtain ⟨rfl, hyz, hpz⟩ := hatz hnlt
      refine ⟨rfl, rfl, rfl, ?_⟩
      refine S.f52 hE hnz s (hs n) ?_
      refine ⟨rfl, rfl, rfl, ?_⟩
      obtain ⟨j, hj, j1, j2, j3⟩ := nameIx_some s _ v hlk
      rw [j1]
      refine S.f54 hE yn.l (T.node n).ents nd1.2.2 hel j hj fun v' H4 e4 g4 f4 => ?_
      rw [← j3] at g4
      have hh4 := (h2.mono e4).head
      obtain ⟨H5, s5, u5⟩ := h2.newL hnlt y1 p1 (Nd.delE s) (fun _ => rfl) e4 g4 f4 rfl
      have h5 := u5.ref h2
      have hnode : ((T.upd n (Nd.delE s)).node v).links = (T.node v).links := by
        rw [Tr.node_upd (by rw [hd]; decide)]
        split
        · rename_i e; rw [e]; rfl
        · rfl
      have hlt5 : v.toNat < (T.upd n (Nd.delE s)).N.length := by simpa [Tr.upd] using hvlt
      obtain ⟨y5, b5, o5, q1, q2, q3⟩ := h5.at_ hlt5
      rw [hp] at q2
      simp only [Option.some.injEq, Value.pointer.injEq, Addr.mk.injEq, and_true] at q2
      obtain ⟨rfl, rfl⟩ := q2
      obtain ⟨_, _, _, _, _, d5, _⟩ := q3.cell
      rw [hnode] at d5
      obtain ⟨H6, s6, u6⟩ := h5.num hlt5 q1 hp (Nd.addL (-1)) (fun _ => ⟨rfl, rfl⟩) (k := 5) (by omega) (v := (T.node v).links - 1) (by rw [← hnode]; rfl)
      have h6 := u6.ref h5
      obtain ⟨H7, s7, u7⟩ := h6.tick
      have hh6 := h6.head
      have hcc : ((T.upd n (Nd.delE s)).upd v (Nd.addL (-1))).change = T.change := rfl
      rw [hcc] at s7 hh6
      refine ⟨by simp only [load1_ptr, hh4, hh], ?_⟩
      simp only [p1, addOff_ptr, s5, nilCk_p, load1_ptr, d5, i64_sub (a := (T.node v).links) (b := 1) (by omega) (by omega), s6, hh6, cell_cells_z, Nat.zero_add, TreeI.at4, i64_add (a := T.change) (b := 1) (by omega) (by omega), s7, tk_eq, opt_some]
      refine S.f51 hE (u7.ref h6) v (by simpa [Tr.upd, Tr.bump] using hvlt) fun Y' H8 u8 => ?_
      exact hQ _ _ ((UpdR.after e1 u5).trans ((u6.trans u7).trans u8))
    cases dir with
    | true =>
      by_cases k3 : (T.node v).kind = 2#8
      · have hk3 : ((T.node v).kind.toNat : Int) = 2 := by rw [k3]; rfl
        by_cases z0 : 0 < (T.node v).ents.length
        · have z0' : (0 : Int) < (T.node v).ents.length := by omega
          simp [k3, z0] at hQ
          simp only [gd_tt, gd_ft, un_not_z, nilCk_p, addOff_ptr, load1_ptr, Nat.add_zero, c0, hk3, i64_neq, i64_gtr, gt_iff_lt, ne_eq, not_true, decide_false, decide_true, Bool.not_true, c2, hl, z0', pick_true_z, pick_false_z, tk_eq, opt_some, ifB_true, ifB_false]
          exact hQ _ _ (h.same e1)
        · have z0' : ¬ (0 : Int) < (T.node v).ents.length := by omega
          simp only [gd_tt, gd_ft, un_not_z, nilCk_p, addOff_ptr, load1_ptr, Nat.add_zero, c0, hk3, i64_neq, i64_gtr, gt_iff_lt, ne_eq, not_true, decide_false, decide_true, Bool.not_true, c2, hl, z0', pick_true_z, pick_false_z, tk_eq, opt_some, ifB_true, ifB_false]
          exact fin (by simp [k3]) (by simp) (by simp [z0])
      · have hk3 : ¬ ((T.node v).kind.toNat : Int) = 2 := by rw [kind2]; exact k3
        simp [k3] at hQ
        simp only [gd_tt, gd_ft, un_not_z, nilCk_p, addOff_ptr, load1_ptr, Nat.add_zero, c0, hk3, i64_neq, ne_eq, not_false_iff, decide_true, pick_true_z, tk_eq, opt_some, ifB_true]
        exact hQ _ _ (h.same e1)
    | false =>
      by_cases k3 : (T.node v).kind = 2#8
      · have hk3 : ((T.node v).kind.toNat : Int) = 2 := by rw [k3]; rfl
        simp [k3] at hQ
        simp only [gd_tt, gd_ft, un_not_z, nilCk_p, addOff_ptr, load1_ptr, Nat.add_zero, c0, hk3, i64_eql, decide_false, decide_true, Bool.not_false, pick_true_z, pick_false_z, tk_eq, opt_some, ifB_true, ifB_false]
        exact hQ _ _ (h.same e1)
      · have hk3 : ¬ ((T.node v).kind.toNat : Int) = 2 := by rw [kind2]; exact k3
        simp only [gd_tt, gd_ft, un_not_z, nilCk_p, addOff_ptr, load1_ptr, Nat.add_zero, c0, hk3, i64_eql, decide_false, decide_true, Bool.not_false, pick_true_z, pick_false_z, tk_eq, opt_some, ifB_true, ifB_false]
        exact fin (by simp) (by simp [k3]) (by simp)
  · simp [l0] at hQ
    simp only [tk_eq, ext_tuple, List.getElem?_cons_zero, List.getElem?_cons_succ, l0, i64_neq, ne_eq, not_false_iff, decide_true, opt_some, ifB_true]
    exact hQ _ _ (h.same e1)
end
end Go.AM
end
section
namespace Go.AM
section
variable {E : Sy} {H0 H H' H'' H1 : AH} {Q : Value → AH → Prop} {t : Nat} {nv nv' nv'' mv : Value} {nx : Int} {mr : List (List Value)} {Y Y' Y'' : List RLy} {T T' T'' : Tr}
theorem RefT.setRow (h : RefT H t nv mv nx mr Y T) {n : BitVec 16} (hn : n.toNat < T.N.length) (x' : Nd) (hd : x'.data = []) (he : x'.ents = []) :
    ∃ b o H', ixSlc 7 nv (vi (n.toNat : Int)) = some (ptr b o) ∧ storeN 7 (ptr b o) (.agg (refI x' ⟨nilS, nilS⟩).cells.toArray) H = some H' ∧ UpdR t nv mv nx mr Y T nv (Y.set n.toNat ⟨nilS, nilS⟩) (T.upd n fun _ => x') H H' := by
  obtain ⟨y, b, o, h1, h2, h3⟩ := h.at_ hn
  have hx := Tr.node_get hn
  have hylt : n.toNat < Y.length := by rw [h.len]; exact hn
  have hz : (T.N.zip Y)[n.toNat]? = some (T.node n, y) := by simp [List.zip, List.getElem?_zipWith, hx, h1]
  have hi : n.toNat < (nodeRows T Y).length := by rw [h.rows_len]; exact hn
  obtain ⟨b', o', H', q1, q2, q3, q4⟩ := h.rows.storeN (i := n.toNat) hi (refI x' ⟨nilS, nilS⟩).cells rfl rfl
  have u1 := h.ow.set (rs := refRs t nv mv nx mr Y T) (k := 1) (r := growR 7 nv (nodeRows T Y)) (by simp [refRs]) (Grow.upd (v := nv) (rows := nodeRows T Y) ⟨q4, fun b hb => .inl hb⟩ q3)
  have o1 := h.ow.upd u1
  have hk3 : ((refRs t nv mv nx mr Y T).set 1 (growR 7 nv ((nodeRows T Y).set n.toNat (refI x' ⟨nilS, nilS⟩).cells)))[n.toNat + 3]? = some (nodeRR (T.node n) y) := by simp [refRs, hz]
  have ue : Upd (nodeRR (T.node n) y) (nodeRR x' ⟨nilS, nilS⟩) H' H' := by
    refine ⟨Only.refl _ _, ?_, ?_, ?_⟩
    · intro r hr
      simp only [List.mem_cons, List.not_mem_nil, or_false] at hr
      rcases hr with rfl | rfl
      · rw [hd]; exact Grow.nil _ _ _
      · rw [he]; exact Grow.nil _ _ _
    · intro b hb
      simp [nodeRR, joinR, growR, blkL, blk] at hb
    · simp [nodeRR, joinR, growR, blkL, blk]
  have u2 := o1.set hk3 ue
  have hzz := zip_modify (fun _ => x') (⟨nilS, nilS⟩ : RLy) hx hylt
  have he : ((refRs t nv mv nx mr Y T).set 1 (growR 7 nv ((nodeRows T Y).set n.toNat (refI x' ⟨nilS, nilS⟩).cells))).set (n.toNat + 3) (nodeRR x' ⟨nilS, nilS⟩) = refRs t nv mv nx mr (Y.set n.toNat ⟨nilS, nilS⟩) (T.upd n fun _ => x') := by
    simp only [refRs, nodeRows, Tr.upd, hzz, List.map_set, List.set_cons_succ, List.set_cons_zero]
  have u3 := u1.trans u2
  rw [he] at u3
  exact ⟨b', o', H', q1, q2, u3, by simp [Tr.upd, h.len], by simpa [Tr.upd] using h.fit⟩
theorem RefT.push (h : RefT H t nv mv nx mr Y T) (hfit : T.N.length < 60000) :
    ∃ v' H2 H3, AM.app 7 96 nv (slc H.next 0 1 1) (H.new (.cells (refI Nd.none ⟨nilS, nilS⟩).cells none)) = some (v', H2) ∧ store1 (ptr t 0) v' H2 = some H3 ∧ UpdR t nv mv nx mr Y T v' (Y ++ [⟨nilS, nilS⟩]) { T with N := T.N ++ [Nd.none] } H H3 := by
  obtain ⟨v', H2, a1, a2, a3⟩ := h.rows.app1 (Nat.zero_le _) (bytes := 96) (refI Nd.none ⟨nilS, nilS⟩).cells rfl rfl (by decide) (by decide) (by rw [h.rows_len]; omega)
  have u1 := h.ow.set (rs := refRs t nv mv nx mr Y T) (k := 1) (r := growR 7 nv (nodeRows T Y)) (by simp [refRs]) (Grow.upd (v := nv) (rows := nodeRows T Y) a3 a2)
  have o1 := h.ow.upd u1
  have hh : H2.get t = .cells (TreeI.cells ⟨nv, T.limit, mv, nx, T.change⟩) none := o1.holds (boxR t (TreeI.cells ⟨nv, T.limit, mv, nx, T.change⟩)) (by simp [refRs])
  have u2 := o1.set (rs := (refRs t nv mv nx mr Y T).set 1 (growR 7 v' (nodeRows T Y ++ [(refI Nd.none ⟨nilS, nilS⟩).cells]))) (k := 0) (by simp [refRs]) (boxR.put hh (TreeI.cells ⟨v', T.limit, mv, nx, T.change⟩))
  have o2 := o1.upd u2
  have u3 := o2.add (nodeRR Nd.none ⟨nilS, nilS⟩) (Ext.refl _) (by
    intro r hr
    simp only [List.mem_cons, List.not_mem_nil, or_false] at hr
    rcases hr with rfl | rfl
    · exact Grow.nil _ _ _
    · exact Grow.nil _ _ _) (by intro b hb; simp [nodeRR, joinR, growR, blkL, blk] at hb) (by simp [nodeRR, joinR, growR, blkL, blk])
  have he : (((refRs t nv mv nx mr Y T).set 1 (growR 7 v' (nodeRows T Y ++ [(refI Nd.none ⟨nilS, nilS⟩).cells]))).set 0 (boxR t (TreeI.cells ⟨v', T.limit, mv, nx, T.change⟩))) ++ [nodeRR Nd.none ⟨nilS, nilS⟩] = refRs t v' mv nx mr (Y ++ [⟨nilS, nilS⟩]) { T with N := T.N ++ [Nd.none] } := by
    have hz : (T.N ++ [Nd.none]).zip (Y ++ [(⟨nilS, nilS⟩ : RLy)]) = T.N.zip Y ++ [(Nd.none, ⟨nilS, nilS⟩)] := by
      rw [List.zip_append h.len.symm]; rfl
    simp [refRs, nodeRows, hz]
  have u4 := u1.trans (u2.trans u3)
  rw [he] at u4
  refine ⟨v', H2, _, a1, ?_, u4, by simp [h.len], by simp; omega⟩
  rw [store1_ptr, if_pos a2.plain, hh]
  simp
theorem madeV (k : Int) : buildV [(0, 1), (1, 1), (2, 1), (3, 1), (4, 1), (5, 1), (6, 1)] #[(.int .i64 0), (.slice none 0 0), (.slice none 0 0), (.int .i64 0), (.string ⟨#[]⟩), (.int .i64 0), (.int .i64 0)] [(0, vi k), (5, vi 1)] = some (.agg (NodeI.cells ⟨k, nilS, nilS, 0, [], 1, 0⟩).toArray) := rfl
theorem Tr.put_same {a : Nat} (x : Nd) (h : a < T.N.length) (hlt : a < 65536) : T.upd (BitVec.ofNat 16 a) (fun _ => x) = T.put a x := by
  have e : (BitVec.ofNat 16 a).toNat = a := by rw [BitVec.toNat_ofNat, Nat.mod_eq_of_lt (by omega)]
  unfold Tr.upd Tr.put
  rw [if_pos h, e]
  congr 1
  apply List.ext_getElem?
  intro i
  rw [List.getElem?_modify, List.getElem?_set]
  by_cases hi : a = i
  · subst hi
    simp [h]
  · simp [hi]
theorem Tr.put_push (x : Nd) (hlt : T.N.length < 65536) : Tr.upd { T with N := T.N ++ [Nd.none] } (BitVec.ofNat 16 T.N.length) (fun _ => x) = T.put T.N.length x := by
  rw [Tr.put_same x (by simp) hlt]
  unfold Tr.put
  simp
theorem zeroN : ([(.int .i64 0), (.slice none 0 0), (.slice none 0 0), (.int .i64 0), (.string ⟨#[]⟩), (.int .i64 0), (.int .i64 0)] : List Value) = NodeI.zero.cells := rfl
theorem S.f42 (hE : Fold E) (h : RefT H t nv mv nx mr Y T) (hs : T.small) (n : BitVec 16) (s : NameL) (hsl : s.length < 2 ^ 63) (k : BitVec 8) (text : List UInt8) (hc : -9223372036854775808 ≤ T.change ∧ T.change < 9223372036854775807)
    (hN : 1 ≤ T.N.length ∧ T.N.length < 60000) (hdp : k = 2#8 → T.room n s = 0 → T.deepF 20 n = T.deep n)
    (hQ : ∀ nv' Y' H', UpdR t nv mv nx mr Y T nv' Y' (T.make n s k text).1 H H' → Q (.tuple #[vi ((T.make n s k text).2.1.toNat : Int), vi (T.make n s k text).2.2]) H') : E.call (E.fid i.f42) [ptr t 0, vi (n.toNat : Int), str s, vi (k.toNat : Int), str text] H Q := by
  apply hE.f42
  simp only [F.f42]
  refine S.f49 hE h hs n s hsl fun H1 e1 => ?_
  unfold Tr.make at hQ
  by_cases r0 : T.room n s = 0
  rotate_left
  · simp [r0] at hQ
    simp only [i64_neq, r0, ne_eq, not_false_iff, decide_true, tk_eq, opt_some, ifB_true]
    exact hQ _ _ _ (h.same e1)
  have h1 := h.mono e1
  obtain ⟨hd, hno, _, _, hel⟩ := Tr.room_zero r0
  have hnlt : n.toNat < T.N.length := node_kind_lt (by rw [hd]; decide)
  simp only [r0, ne_eq, not_true, if_false] at hQ
  simp only [i64_neq, r0, ne_eq, not_true, decide_false, tk_eq, opt_some, ifB_false]
  have hfree := Tr.free_ok hN.1 (by omega : T.N.length ≤ 60000)
  have hft : (BitVec.ofNat 16 T.free).toNat = T.free := by rw [BitVec.toNat_ofNat, Nat.mod_eq_of_lt (by have := hfree.lt; omega)]
  have last : (¬ (k = 0#8 ∨ 3#8 < k ∨ (k = 3#8 ∧ (text.length < 1 ∨ 120 < text.length)))) → ¬ (T.limit ≤ T.len ∨ (k = 2#8 ∧ 16 ≤ T.deep n)) → ∀ H2, Ext H1 H2 →
      LoopL (fun l H X0 => F.f42_l1 E Q (nth l 0) (nth l 1) (nth l 2) (nth l 3) (nth l 4) (nth l 5) H X0) [ptr t 0, vi (n.toNat : Int), str s, vi (k.toNat : Int), str text, (.int .i64 1)] H2 := by
    intro g1 g2 H2 e2
    rw [if_neg g1, if_neg g2] at hQ
    have h2 := h1.mono e2
    have hh2 := h2.head
    have fin : ∀ nv2 Y2 T2 H3, UpdR t nv mv nx mr Y T nv2 Y2 T2 H2 H3 → T.free < T2.N.length → (∀ x, T2.upd (BitVec.ofNat 16 T.free) (fun _ => x) = T.put T.free x) → F.f42_j1 E Q (ptr t 0) (vi (n.toNat : Int)) (str s) (vi (k.toNat : Int)) (str text) (vi ((BitVec.ofNat 16 T.free).toNat : Int)) H3 := by
      intro nv2 Y2 T2 H3 u3 hlt3 hput
      have h3 := u3.ref h2
      have last2 : ∀ H4, H4 = H3.new (.cells (refI (Nd.made n k text) ⟨nilS, nilS⟩).cells none) → F.f42_j3 E Q (ptr t 0) (vi (n.toNat : Int)) (str s) (vi ((BitVec.ofNat 16 T.free).toNat : Int)) (ptr H3.next 0) H4 := by
        rintro H4 rfl
        have h4 := h3.mono ((Ext.refl H3).new (.cells (refI (Nd.made n k text) ⟨nilS, nilS⟩).cells none))
        have hh4 := h4.head
        have lo : loadN 7 (ptr H3.next 0) (H3.new (.cells (refI (Nd.made n k text) ⟨nilS, nilS⟩).cells none)) = some (.agg (refI (Nd.made n k text) ⟨nilS, nilS⟩).cells.toArray) := by
          rw [loadN_ptr, AH.get_new_self, row_all _ _ 7 rfl]; rfl
        have hlt4 : (BitVec.ofNat 16 T.free).toNat < T2.N.length := by rw [hft]; exact hlt3
        obtain ⟨b, o, H5, q1, q2, u5⟩ := h4.setRow hlt4 (Nd.made n k text) rfl rfl
        rw [hput] at u5
        have h5 := u5.ref h4
        have hh5 := h5.head
        have hnf : n ≠ BitVec.ofNat 16 T.free := by rintro e; have := hfree.zero; rw [← e, hd] at this; simp at this
        have hnode : (T.put T.free (Nd.made n k text)).node n = T.node n := by rw [Tr.node_put hfree.le hfree.lt, if_neg hnf]
        have hnlt5 : n.toNat < (T.put T.free (Nd.made n k text)).N.length := node_kind_lt (by rw [hnode, hd]; decide)
        obtain ⟨yn, bn, on, y1, p1, nd1⟩ := h5.at_ hnlt5
        rw [hnode] at nd1
        obtain ⟨_, _, c2, _⟩ := nd1.cell
        have hen := entryV s (BitVec.ofNat 16 T.free)
        simp only [F.f42_j3, nilCk_p, addOff_ptr, load1_ptr, Nat.add_zero, Nat.zero_add, hh4, cell_cells_z, TreeI.at0, lo, q1, q2, hh5, p1, c2, hen, tk_eq, opt_some]
        refine S.f53 hE yn.l (T.node n).ents nd1.2.2 (by omega) s (BitVec.ofNat 16 T.free) fun v' H6 e6 g6 f6 => ?_
        have hh6 := (h5.mono e6).head
        obtain ⟨H7, s7, u7⟩ := h5.newL hnlt5 y1 p1 (Nd.addE s (BitVec.ofNat 16 T.free)) (fun _ => rfl) e6 (by rw [hnode]; exact g6) f6 (by rw [hnode]; rfl)
        have h7 := u7.ref h5
        obtain ⟨H8, s8, u8⟩ := h7.tick
        have hh7 := h7.head
        have hcc : ((T.put T.free (Nd.made n k text)).upd n (Nd.addE s (BitVec.ofNat 16 T.free))).change = T.change := rfl
        rw [hcc] at s8 hh7
        refine ⟨by simp only [load1_ptr, hh6, hh5], ?_⟩
        simp only [p1, addOff_ptr, s7, nilCk_p, load1_ptr, hh7, cell_cells_z, Nat.zero_add, TreeI.at4, i64_add (a := T.change) (b := 1) (by omega) (by omega), s8, tk_eq, opt_some]
        have hfin := hQ _ _ _ (UpdR.after (e1.trans e2) (u3.trans (UpdR.after ((Ext.refl H3).new _) (u5.trans (u7.trans u8)))))
        exact hfin
      have k2 := kind2 k
      have k3 := kind3 k
      simp only [F.f42_j1, madeV (k.toNat : Int), tk_eq, opt_some]
      simp only [allocW_eq, zeroN, storeN_ptr, AH.get_new_self, NodeI.cells_length, NodeI.splice_cells, AH.new_put, List.size_toArray, Nat.zero_add, Nat.le_refl, show (NodeI.cells ⟨(k.toNat : Int), nilS, nilS, 0, [], 1, 0⟩).all plain1 = true from rfl, and_self, if_true, tk_eq, opt_some, i64_eql, k2, addOff_ptr, store1_ptr, plain1_int_z, F.f42_j2, k3]
      by_cases c2 : k = 2#8
      · have c3 : ¬ k = 3#8 := by rw [c2]; decide
        simp only [ifB_true, ifB_false, F.f42_j2, i64_eql, k3, eq_true c2, eq_false c3, decide_true, decide_false, ifB_true, ifB_false, addOff_ptr, Nat.zero_add, store1_ptr, plain1_int_z, if_true, AH.get_new_self, NodeI.cells_length, show (3 < 7) = True from by simp, AH.new_put, NodeI.set3, tk_eq, opt_some]
        refine last2 _ ?_
        congr 2
        subst c2
        rfl
      · by_cases c3 : k = 3#8
        · simp only [F.f42_j2, i64_eql, k3, eq_false c2, eq_true c3, decide_true, decide_false, ifB_true, ifB_false, addOff_ptr, Nat.zero_add, store1_ptr, plain1_str_z, if_true, AH.get_new_self, NodeI.cells_length, show (4 < 7) = True from by simp, AH.new_put, NodeI.set4, tk_eq, opt_some]
          refine last2 _ ?_
          congr 2
          subst c3
          rfl
        · simp only [F.f42_j2, i64_eql, k3, eq_false c2, eq_false c3, decide_false, ifB_false, tk_eq, opt_some]
          refine last2 _ ?_
          congr 2
          simp [refI, Nd.made, c2, c3]
    refine LoopL.ind (fun i l H' => H2 = H' ∧ ∃ a : Nat, l = [ptr t 0, vi (n.toNat : Int), str s, vi (k.toNat : Int), str text, vi a] ∧ 1 ≤ a ∧ i + a = T.free) ?_ (T.free - 1) ⟨rfl, 1, rfl, by omega, by have := hfree.pos; omega⟩
    rintro i _ _ X hX ⟨rfl, a, rfl, ha, hia⟩
    have hls := h2.lenSlc
    have hflt := hfree.lt
    have hfle := hfree.le
    have hat : (BitVec.ofNat 16 a).toNat = a := by rw [BitVec.toNat_ofNat, Nat.mod_eq_of_lt (by omega)]
    by_cases hlt : a < T.free
    · have hu := hfree.used a ha hlt
      have hal : (a : Int) < T.N.length := by omega
      obtain ⟨y, b, o, q1, q2, q3⟩ := h2.at_ (n := BitVec.ofNat 16 a) (by rw [hat]; omega)
      rw [hat] at q2
      obtain ⟨c0, _⟩ := q3.cell
      have hk : (0 : Int) < ((T.node (BitVec.ofNat 16 a)).kind.toNat : Int) := by
        have : ¬ ((T.node (BitVec.ofNat 16 a)).kind.toNat : Int) = 0 := by rw [kind0]; exact hu
        omega
      simp only [F.f42_l1, nth_0, nth_1, nth_2, nth_3, nth_4, nth_5, nilCk_p, addOff_ptr, load1_ptr, Nat.add_zero, Nat.zero_add, hh2, cell_cells_z, TreeI.at0, hls, i64_lss, hal, decide_true, gd_tt, q2, c0, i64_gtr, gt_iff_lt, hk, pick_true_z, i64_succ a (by omega), tk_eq, opt_some, ifB_true]
      exact hX (i - 1) (by omega) _ _ ⟨rfl, a + 1, rfl, by omega, by omega⟩
    · have : a = T.free := by omega
      subst this
      by_cases hlen : T.free < T.N.length
      · have hal : (T.free : Int) < T.N.length := by omega
        have hne : ¬ (T.free : Int) = T.N.length := by omega
        obtain ⟨y, b, o, q1, q2, q3⟩ := h2.at_ (n := BitVec.ofNat 16 T.free) (by rw [hat]; omega)
        rw [hat] at q2
        obtain ⟨c0, _⟩ := q3.cell
        have hk : ¬ (0 : Int) < ((T.node (BitVec.ofNat 16 T.free)).kind.toNat : Int) := by rw [hfree.zero]; decide
        have hf := fin _ _ _ _ (h2.same (Ext.refl _)) hlen fun x => Tr.put_same x hlen hflt
        rw [hft] at hf
        simp only [F.f42_l1, nth_0, nth_1, nth_2, nth_3, nth_4, nth_5, nilCk_p, addOff_ptr, load1_ptr, Nat.add_zero, Nat.zero_add, hh2, cell_cells_z, TreeI.at0, hls, i64_lss, hal, decide_true, gd_tt, q2, c0, i64_gtr, gt_iff_lt, hk, decide_false, pick_true_z, i64_eql, hne, tk_eq, opt_some, ifB_false]
        exact hf
      · have hal : ¬ (T.free : Int) < T.N.length := by omega
        have heq : T.free = T.N.length := by omega
        have hne : (T.free : Int) = T.N.length := by omega
        obtain ⟨v', H4, H5, a1, a2, u5⟩ := h2.push hN.2
        have hf := fin _ _ _ _ u5 (by simp; omega) fun x => by rw [heq]; exact Tr.put_push x (by omega)
        rw [hft] at hf
        have hb1 : buildS 1 7 #[(.int .i64 0), (.slice none 0 0), (.slice none 0 0), (.int .i64 0), (.string ⟨#[]⟩), (.int .i64 0), (.int .i64 0)] [(0, .agg (refI Nd.none ⟨nilS, nilS⟩).cells.toArray)] = some (.cells (refI Nd.none ⟨nilS, nilS⟩).cells none, mkSlc 1 1) := NodeI.build1 _
        simp only [F.f42_l1, nth_0, nth_1, nth_2, nth_3, nth_4, nth_5, nilCk_p, addOff_ptr, load1_ptr, Nat.add_zero, Nat.zero_add, hh2, cell_cells_z, TreeI.at0, hls, i64_lss, hal, Int.lt_irrefl, decide_false, gd_ft, pick_false_z, i64_eql, hne, decide_true, noneV, hb1, AM.mk_some, mkSlc_eq, a1, opt2_some, a2, tk_eq, opt_some, ifB_false, ifB_true]
        rw [hne] at hf
        exact hf
  have hkn : ∀ j : Nat, j < 256 → (((k.toNat : Int) = (j : Int)) = (k = BitVec.ofNat 8 j)) := fun j hj => propext (toNat_kind k j hj)
  have hk0 : ((k.toNat : Int) < 1) = (k = 0#8) := by
    rw [← kind0, eq_iff_iff]; omega
  have hk3l : ((3 : Int) < k.toNat) = (3#8 < k) := by
    rw [eq_iff_iff, BitVec.lt_def]
    show (3 : Int) < k.toNat ↔ 3 < k.toNat
    omega
  have k3 := kind3 k
  have k2 := kind2 k
  have rest : (¬ (k = 0#8 ∨ 3#8 < k ∨ (k = 3#8 ∧ (text.length < 1 ∨ 120 < text.length)))) →
      (opt (nilCk (ptr t 0)) fun v20 => opt (addOff v20 1) fun v21 => opt (load1 v21 H1) fun v22 => E.call (E.fid i.f40) [ptr t 0] H1 fun v23 H16 => load1 v21 H16 = load1 v21 H1 ∧
       opt (binInt .geq v23 v22) fun v24 =>
       gd v24 false (fun k' => k' (vi (k.toNat : Int)) H16) H16 fun v25 H17 =>
       gd v24 false (fun k => opt (binInt .eql v25 (.int .i64 2)) fun v => k v H17) H17 fun v26 H18 =>
       gd v24 false (fun k => k v26 H18) H18 fun v27 H19 =>
       gd v27 true (fun k => k (ptr t 0) H19) H19 fun v28 H20 =>
       gd v27 true (fun k => k (vi (n.toNat : Int)) H20) H20 fun v29 H21 =>
       gd v27 true (fun k => E.call (E.fid i.f47) [v28, v29] H21 fun v h => k v h) H21 fun v30 H22 =>
       gd v27 true (fun k => opt (binInt .geq v30 (.int .i64 16)) fun v => k v H22) H22 fun v31 H23 =>
       gd v24 false (fun k => opt (pick v27 v31 (.bool false)) fun v => k v H23) H23 fun v32 H24 =>
       opt (pick v24 (.bool true) v32) fun v33 =>
       ifB v33 (Q (.tuple #[(.int .i64 0), (.int .i64 28)]) H24) (
       LoopL (fun l H X0 => F.f42_l1 E Q (nth l 0) (nth l 1) (nth l 2) (nth l 3) (nth l 4) (nth l 5) H X0) [ptr t 0, vi (n.toNat : Int), str s, vi (k.toNat : Int), str text, (.int .i64 1)] H24)) := by
    intro g1
    have last := last g1
    simp only [g1, if_false] at hQ
    have hh := h1.head
    simp only [nilCk_p, addOff_ptr, load1_ptr, Nat.zero_add, hh, cell_cells_z, TreeI.at1, tk_eq, opt_some]
    refine S.f40 hE h1 ?_
    refine ⟨rfl, ?_⟩
    by_cases t4 : T.limit ≤ T.len
    · simp [t4] at hQ
      simp only [i64_geq, ge_iff_le, t4, decide_true, gd_tf, pick_true_z, tk_eq, opt_some, ifB_true]
      exact hQ _ _ _ (h.same e1)
    by_cases t5 : k = 2#8
    · simp only [i64_geq, ge_iff_le, t4, decide_false, gd_ff, i64_eql, k2, eq_true t5, decide_true, gd_tt, tk_eq, opt_some]
      refine S.f47 hE h1 n fun H2 e2 => ?_
      rw [hdp t5 r0]
      by_cases t6 : 16 ≤ T.deep n
      · have t6' : (16 : Int) ≤ T.deep n := by omega
        simp [t4, t5, t6] at hQ
        simp only [gd_tt, gd_ff, i64_geq, ge_iff_le, t6', decide_true, pick_true_z, pick_false_z, tk_eq, opt_some, ifB_true]
        exact hQ _ _ _ (h.same (e1.trans e2))
      · have t6' : ¬ (16 : Int) ≤ T.deep n := by omega
        simp only [gd_tt, gd_ff, i64_geq, ge_iff_le, t6', decide_false, pick_true_z, pick_false_z, tk_eq, opt_some, ifB_false]
        exact last (by simp only [t4, t6, and_false, or_self, not_false_eq_true]) _ e2
    · simp only [i64_geq, ge_iff_le, t4, decide_false, gd_ff, gd_ft, i64_eql, k2, eq_false t5, pick_true_z, pick_false_z, tk_eq, opt_some, ifB_false]
      exact last (by simp [t4, t5]) _ (Ext.refl _)
  by_cases t1 : k = 0#8
  · simp [t1] at hQ
    simp only [i64_lss, hk0, eq_true t1, decide_true, gd_tf, pick_true_z, tk_eq, opt_some, ifB_true]
    exact hQ _ _ _ (h.same e1)
  by_cases t2 : 3#8 < k
  · simp [t2] at hQ
    simp only [i64_lss, hk0, eq_false t1, decide_false, gd_ff, i64_gtr, gt_iff_lt, hk3l, eq_true t2, decide_true, gd_tf, pick_true_z, pick_false_z, tk_eq, opt_some, ifB_true]
    exact hQ _ _ _ (h.same e1)
  by_cases t3 : k = 3#8
  · by_cases t7 : text.length < 1
    · have : (text.length : Int) < 1 := by omega
      simp [t3, t7] at hQ
      simp only [i64_lss, hk0, eq_false t1, decide_false, gd_ff, i64_gtr, gt_iff_lt, hk3l, eq_false t2, i64_eql, k3, eq_true t3, decide_true, gd_tt, gd_tf, lenStr_s, this, pick_true_z, pick_false_z, tk_eq, opt_some, ifB_true]
      exact hQ _ _ _ (h.same e1)
    have t7' : ¬ (text.length : Int) < 1 := by omega
    by_cases t8 : 120 < text.length
    · have : (120 : Int) < text.length := by omega
      simp [t3, t8] at hQ
      simp only [i64_lss, hk0, eq_false t1, decide_false, gd_ff, i64_gtr, gt_iff_lt, hk3l, eq_false t2, i64_eql, k3, eq_true t3, decide_true, gd_tt, gd_tf, lenStr_s, t7', this, pick_true_z, pick_false_z, tk_eq, opt_some, ifB_true]
      exact hQ _ _ _ (h.same e1)
    have t8' : ¬ (120 : Int) < text.length := by omega
    have := rest (by simp [t1, t2, t7, t8])
    simp only [i64_lss, hk0, eq_false t1, decide_false, gd_ff, i64_gtr, gt_iff_lt, hk3l, eq_false t2, i64_eql, k3, eq_true t3, decide_true, gd_tt, gd_tf, lenStr_s, t7', t8', pick_true_z, pick_false_z, tk_eq, opt_some, ifB_false]
    exact this
  · have := rest (by simp [t1, t2, t3])
    simp only [i64_lss, hk0, eq_false t1, decide_false, gd_ff, gd_ft, i64_gtr, gt_iff_lt, hk3l, eq_false t2, i64_eql, k3, eq_false t3, pick_true_z, pick_false_z, tk_eq, opt_some, ifB_false]
    exact this
end
end Go.AM
end
section
namespace Go.AM
section
variable {E : Sy} {H0 H H' H'' H1 : AH} {Q : Value → AH → Prop} {t : Nat} {nv nv' nv'' mv : Value} {nx : Int} {mr : List (List Value)} {Y Y' Y'' : List RLy} {T T' T'' : Tr}
theorem Tr.deepF_le (T : Tr) : ∀ (f : Nat) (n : BitVec 16), T.deepF f n ≤ f
  | 0, _ => Nat.le_refl _
  | f + 1, n => by
    have := Tr.deepF_le T f (T.node n).parent
    simp only [Tr.deepF]
    split <;> omega
theorem refT_move_fin (hE : Fold E) (h : RefT H t nv mv nx mr Y T) (fr to n : BitVec 16) (s other : NameL) (hn : (T.node n).kind ≠ 0#8) (T1 : Tr) (Y1 : List RLy) (H1 : AH) (u1 : UpdR t nv mv nx mr Y T nv Y1 T1 H H1) (hc1 : -9223372036854775808 ≤ T1.change ∧ T1.change < 9223372036854775807) (a1 : (T1.node fr).kind = 2#8) (a2 : (T1.node to).kind = 2#8) (a3 : (T1.node n).kind = (T.node n).kind)
    (a4 : alook s (T1.node fr).ents = some n) (a5 : (T1.node fr).ents.length < 2 ^ 35) (a6 : (T1.node to).ents.length < 2 ^ 35) (hQ : ∀ Y' H', UpdR t nv mv nx mr Y T nv Y' (Tr.moved T1 fr s to other n) H H' → Q (vi 0) H') :
    F.f43_j1 E Q (ptr t 0) (vi (fr.toNat : Int)) (str s) (vi (to.toNat : Int)) (str other) (vi (n.toNat : Int)) (vb (decide ((T.node n).kind = 2#8))) H1 := by
  have h1 := u1.ref h
  have frlt1 : fr.toNat < T1.N.length := node_kind_lt (by rw [a1]; decide)
  have tolt1 : to.toNat < T1.N.length := node_kind_lt (by rw [a2]; decide)
  have nlt1 : n.toNat < T1.N.length := node_kind_lt (by rw [a3]; exact hn)
  have b1 : (T1.node fr).kind ≠ 0#8 := by rw [a1]; decide
  have hh := h1.head
  obtain ⟨yn, bn, on, y1, p1, nd1⟩ := h1.at_ frlt1
  obtain ⟨_, _, c2n, _⟩ := nd1.cell
  obtain ⟨j, hj, j1, j2, j3⟩ := nameIx_some s _ n a4
  simp only [F.f43_j1, nilCk_p, addOff_ptr, load1_ptr, Nat.add_zero, Nat.zero_add, hh, cell_cells_z, TreeI.at0, p1, c2n, tk_eq, opt_some]
  refine S.f44 hE h1 fr fun bz oz yz H3 e3 hnz hatz => ?_
  obtain ⟨rfl, hyz, hpz⟩ := hatz frlt1
  refine ⟨rfl, rfl, rfl, ?_⟩
  refine S.f52 hE hnz s (by omega) ?_
  refine ⟨rfl, rfl, rfl, ?_⟩
  rw [j1]
  refine S.f54 hE yn.l (T1.node fr).ents nd1.2.2 (by omega) j hj fun v' H4 e4 g4 f4 => ?_
  rw [← j3] at g4
  have hh4 := (h1.mono e4).head
  obtain ⟨H5, s5, u5⟩ := h1.newL frlt1 y1 p1 (Nd.delE s) (fun _ => rfl) e4 g4 f4 rfl
  have h5 := u5.ref h1
  have hh5 := h5.head
  have hc5 : (T1.upd fr (Nd.delE s)).change = T1.change := rfl
  have hnode5 := fun w => Tr.node_upd b1 (Nd.delE s) w
  have tolt5 : to.toNat < (T1.upd fr (Nd.delE s)).N.length := by simpa [Tr.upd] using tolt1
  have hlen5 : ((T1.upd fr (Nd.delE s)).node to).ents.length < 2 ^ 35 := by
    rw [hnode5]
    split
    · show (adel s (T1.node fr).ents).length < _
      exact Nat.lt_of_le_of_lt (adel_sub _ _).length_le a5
    · exact a6
  have hkind5 : ∀ w, ((T1.upd fr (Nd.delE s)).node w).kind = (T1.node w).kind := by
    intro w
    rw [hnode5]
    split
    · rename_i e; rw [e]; rfl
    · rfl
  obtain ⟨yt, bt, ot, y5, p5, nd5⟩ := h5.at_ tolt5
  obtain ⟨_, _, c5, _⟩ := nd5.cell
  refine ⟨by simp only [load1_ptr, hh4, hh], ?_⟩
  simp only [p1, addOff_ptr, s5, nilCk_p, load1_ptr, hh5, cell_cells_z, Nat.zero_add, TreeI.at0, p5, c5, entryV, tk_eq, opt_some]
  refine S.f53 hE yt.l _ nd5.2.2 (by omega) other n fun v6 H6 e6 g6 f6 => ?_
  have hh6 := (h5.mono e6).head
  obtain ⟨H7, s7, u7⟩ := h5.newL tolt5 y5 p5 (Nd.addE other n) (fun _ => rfl) e6 g6 f6 rfl
  have h7 := u7.ref h5
  have hh7 := h7.head
  have b5 : ((T1.upd fr (Nd.delE s)).node to).kind ≠ 0#8 := by rw [hkind5, a2]; decide
  have nlt7 : n.toNat < ((T1.upd fr (Nd.delE s)).upd to (Nd.addE other n)).N.length := by simpa [Tr.upd] using nlt1
  refine ⟨by simp only [load1_ptr, hh6, hh5], ?_⟩
  simp only [p5, addOff_ptr, s7, tk_eq, opt_some]
  have hcc : ((T1.upd fr (Nd.delE s)).upd to (Nd.addE other n)).change = T1.change := rfl
  unfold Tr.moved at hQ
  by_cases d1 : (T.node n).kind = 2#8
  · simp only [a3, d1, if_true] at hQ
    obtain ⟨y8, b8, o8, q8, p8, nd8⟩ := h7.at_ nlt7
    obtain ⟨H8, s8, u8⟩ := h7.num nlt7 q8 p8 (fun x => { x with parent := to }) (fun _ => ⟨rfl, rfl⟩) (k := 3) (by omega) (v := (to.toNat : Int)) rfl
    have h8 := u8.ref h7
    have hh8 := h8.head
    obtain ⟨H9, s9, u9⟩ := h8.tick
    have hc8 : (((T1.upd fr (Nd.delE s)).upd to (Nd.addE other n)).upd n (fun x => { x with parent := to })).change = T1.change := rfl
    rw [hc8] at s9 hh8
    simp only [eq_true d1, decide_true, ifB_true, nilCk_p, addOff_ptr, load1_ptr, hh7, cell_cells_z, Nat.zero_add, TreeI.at0, p8, s8, F.f43_j2, hh8, TreeI.at4, i64_add (a := T1.change) (b := 1) (by omega) (by omega), s9, tk_eq, opt_some]
    exact hQ _ _ (u1.trans (u5.trans (u7.trans (u8.trans u9))))
  · simp only [a3, d1, if_false] at hQ
    obtain ⟨H9, s9, u9⟩ := h7.tick
    rw [hcc] at s9 hh7
    simp only [eq_false d1, decide_false, ifB_false, F.f43_j2, nilCk_p, addOff_ptr, load1_ptr, hh7, cell_cells_z, Nat.zero_add, TreeI.at4, i64_add (a := T1.change) (b := 1) (by omega) (by omega), s9, tk_eq, opt_some]
    exact hQ _ _ (u1.trans (u5.trans (u7.trans u9)))
theorem refT_move_drop (hE : Fold E) (h : RefT H t nv mv nx mr Y T) (hs : T.small) (fr to n : BitVec 16) (s other : NameL) (hc : -9223372036854775808 ≤ T.change ∧ T.change < 9223372036854775806)
    (hn : (T.node n).kind ≠ 0#8) (k1 : (T.node fr).kind = 2#8) (k2 : alook s (T.node fr).ents = some n) (c2 : T.dir to = 0) (k3 : (T.node to).kind = 2#8)
    (hold : ∀ y, (T.node to).kind = 2#8 → alook other (T.node to).ents = some y → (T.node y).kind ≠ 0#8 ∧ 0 ≤ (T.node y).links ∧ (T.node y).links < 9223372036854775807)
    (hnd : (T.node to).kind = 2#8 → ((T.node to).ents.map Prod.fst).Nodup) (hel : (T.node fr).ents.length < 2 ^ 35 ∧ (T.node to).ents.length < 2 ^ 35)
    (o : BitVec 16) (ho : alook other (T.node to).ents = some o) (hon : o ≠ n) (hpos0 : 0 < (T.node to).ents.length) (H4 : AH) (ex4 : Ext H H4) (dm : T.mayOld n (some o) = 0)
    (hQ : ∀ Y' H', UpdR t nv mv nx mr Y T nv Y' (Tr.moved (T.drop to other (decide ((T.node n).kind = 2#8))).1 fr s to other n) H H' → Q (vi 0) H') :
    (E.call (E.fid i.f38) [(ptr t 0), (vi (to.toNat : Int)), (str other), (vb (decide ((T.node n).kind = 2#8)))] H4 fun v92 H61 =>
        F.f43_j1 E Q (ptr t 0) (vi (fr.toNat : Int)) (str s) (vi (to.toNat : Int)) (str other) (vi (n.toNat : Int)) (vb (decide ((T.node n).kind = 2#8))) H61) := by
  obtain ⟨o1, o2, o3⟩ := hold o k3 ho
  have hlk : T.look to other = (o, 0) := by
    unfold Tr.look
    simp [c2, ho]
  obtain ⟨g1, g2⟩ := Tr.drop_ok k3 ho dm o1
  refine S.f38 hE (h.mono ex4) hs to other _ ⟨hc.1, by omega⟩ (fun _ => by rw [hlk]; exact ⟨o1, by show -9223372036854775807 ≤ (T.node o).links; omega, o3⟩) (by omega) fun Y5 H5 u5 => ?_
  have hm := dm
  unfold Tr.mayOld at hm
  have of : fr ≠ o := by
    rintro rfl
    have hpos : 0 < (T.node fr).ents.length := by
      cases he : (T.node fr).ents with
      | nil => rw [he] at k2; simp [alook] at k2
      | cons a b => simp
    simp only [k1] at hm
    by_cases d1 : (T.node n).kind = 2#8
    · simp [d1, hpos] at hm
    · simp [d1] at hm
  have ot : to ≠ o := by
    rintro rfl
    have hpos : 0 < (T.node to).ents.length := by omega
    simp only [k3] at hm
    by_cases d1 : (T.node n).kind = 2#8
    · simp [d1, hpos] at hm
    · simp [d1] at hm
  have hchg := Tr.drop_change (T := T) to other (decide ((T.node n).kind = 2#8))
  have hkk : ∀ w, w ≠ o → ((T.drop to other (decide ((T.node n).kind = 2#8))).1.node w).kind = (T.node w).kind := by
    intro w hw
    rw [g2 w hw]
    split
    · rename_i e; rw [e]; rfl
    · rfl
  have hso : other ≠ s ∨ fr ≠ to := by
    by_cases e : fr = to
    · refine .inl ?_
      rintro rfl
      rw [e, ho] at k2
      exact hon (Option.some.inj k2)
    · exact .inr e
  refine refT_move_fin hE h fr to n s other hn _ Y5 H5 (UpdR.after ex4 u5) ⟨by omega, by omega⟩ (by rw [hkk fr of]; exact k1) (by rw [hkk to ot]; exact k3) (hkk n (fun e => hon e.symm)) ?_ ?_ ?_ hQ
  · rw [g2 fr of]
    split
    · rename_i e
      show alook s (adel other (T.node to).ents) = some n
      rw [alook_adel _ _ (hnd k3), if_neg, ← e, k2]
      rcases hso with g | g
      · exact fun e => g e.symm
      · exact (g e).elim
    · exact k2
  · rw [g2 fr of]
    split
    · exact Nat.lt_of_le_of_lt (adel_sub _ _).length_le hel.2
    · exact hel.1
  · rw [g2 to ot, if_pos rfl]
    exact Nat.lt_of_le_of_lt (adel_sub _ _).length_le hel.2
theorem refT_move_tail (hE : Fold E) (h : RefT H t nv mv nx mr Y T) (hs : T.small) (fr to n : BitVec 16) (s other : NameL) (hc : -9223372036854775808 ≤ T.change ∧ T.change < 9223372036854775806)
    (hn : (T.node n).kind ≠ 0#8) (k1 : (T.node fr).kind = 2#8) (k2 : alook s (T.node fr).ents = some n) (c2 : T.dir to = 0) (k3 : (T.node to).kind = 2#8)
    (hold : ∀ y, (T.node to).kind = 2#8 → alook other (T.node to).ents = some y → (T.node y).kind ≠ 0#8 ∧ 0 ≤ (T.node y).links ∧ (T.node y).links < 9223372036854775807)
    (hnd : (T.node to).kind = 2#8 → ((T.node to).ents.map Prod.fst).Nodup) (hel : (T.node fr).ents.length < 2 ^ 35 ∧ (T.node to).ents.length < 2 ^ 35)
    (i8 : Int) (old : Option (BitVec 16)) (d : Bool) (Hx : AH) (ex : Ext H Hx) (hd : d = decide ((T.node n).kind = 2#8)) (ho : alook other (T.node to).ents = old) (hcase : ((i8 = -1 ∧ old = none) ∨ ∃ (j : Nat) (hj : j < (T.node to).ents.length) (o : BitVec 16), i8 = j ∧ old = some o ∧ (T.node to).ents[j] = (other, o) ∧ o ≠ n))
    (hQ : ∀ Y' H', UpdR t nv mv nx mr Y T nv Y' (if T.mayOld n old ≠ 0 then (T, T.mayOld n old) else (Tr.moved (if old.isSome then (T.drop to other (decide ((T.node n).kind = 2#8))).1 else T) fr s to other n, 0)).1 H H' → Q (vi (if T.mayOld n old ≠ 0 then (T, T.mayOld n old) else (Tr.moved (if old.isSome then (T.drop to other (decide ((T.node n).kind = 2#8))).1 else T) fr s to other n, 0)).2) H') :
      (
       opt (binInt .geq (vi i8) (.int .i64 0)) fun v63 =>
       ifB v63 (
       E.call (E.fid i.f44) [(ptr t 0), (vi (to.toNat : Int))] Hx fun v64 H43 =>
       opt (nilCk v64) fun v65 =>
       opt (addOff v65 2) fun v66 =>
       opt (load1 v66 H43) fun v67 =>
       opt (ixSlc 2 v67 (vi i8)) fun v68 =>
       opt (addOff v68 1) fun v69 =>
       opt (load1 v69 H43) fun v70 =>
       E.call (E.fid i.f44) [(ptr t 0), v70] H43 fun v71 H44 =>
       gd (vb d) true (fun k => k v71 H44) H44 fun v72 H45 =>
       gd (vb d) true (fun k => opt (nilCk v72) fun v => k v H45) H45 fun v73 H46 =>
       gd (vb d) true (fun k => opt (addOff v73 0) fun v => k v H46) H46 fun v74 H47 =>
       gd (vb d) true (fun k => opt (load1 v74 H47) fun v => k v H47) H47 fun v75 H48 =>
       gd (vb d) true (fun k => opt (binInt .neq v75 (.int .i64 2)) fun v => k v H48) H48 fun v76 H49 =>
       opt (pick (vb d) v76 (.bool false)) fun v77 =>
       ifB v77 (
       Q (.int .i64 20) H49) (
       opt (un .not (vb d)) fun v78 =>
       gd v78 true (fun k => k v71 H49) H49 fun v79 H50 =>
       gd v78 true (fun k => opt (nilCk v79) fun v => k v H50) H50 fun v80 H51 =>
       gd v78 true (fun k => opt (addOff v80 0) fun v => k v H51) H51 fun v81 H52 =>
       gd v78 true (fun k => opt (load1 v81 H52) fun v => k v H52) H52 fun v82 H53 =>
       gd v78 true (fun k => opt (binInt .eql v82 (.int .i64 2)) fun v => k v H53) H53 fun v83 H54 =>
       opt (pick v78 v83 (.bool false)) fun v84 =>
       ifB v84 (
       Q (.int .i64 21) H54) (
       gd (vb d) true (fun k => k v71 H54) H54 fun v85 H55 =>
       gd (vb d) true (fun k => opt (nilCk v85) fun v => k v H55) H55 fun v86 H56 =>
       gd (vb d) true (fun k => opt (addOff v86 2) fun v => k v H56) H56 fun v87 H57 =>
       gd (vb d) true (fun k => opt (load1 v87 H57) fun v => k v H57) H57 fun v88 H58 =>
       gd (vb d) true (fun k => opt (lenSlc v88) fun v => k v H58) H58 fun v89 H59 =>
       gd (vb d) true (fun k => opt (binInt .gtr v89 (.int .i64 0)) fun v => k v H59) H59 fun v90 H60 =>
       opt (pick (vb d) v90 (.bool false)) fun v91 =>
       ifB v91 (
       Q (.int .i64 39) H60) (
       E.call (E.fid i.f38) [(ptr t 0), (vi (to.toNat : Int)), (str other), (vb d)] H60 fun v92 H61 =>
       F.f43_j1 E Q (ptr t 0) (vi (fr.toNat : Int)) (str s) (vi (to.toNat : Int)) (str other) (vi (n.toNat : Int)) (vb d) H61)))) (
       F.f43_j1 E Q (ptr t 0) (vi (fr.toNat : Int)) (str s) (vi (to.toNat : Int)) (str other) (vi (n.toNat : Int)) (vb d) Hx)) := by
  subst hd
  rcases hcase with ⟨rfl, rfl⟩ | ⟨j, hj, o, rfl, rfl, hjo, hon⟩
  · simp [Tr.mayOld] at hQ
    simp only [i64_geq, ge_iff_le, show ¬ (0 : Int) ≤ -1 from by omega, decide_false, tk_eq, opt_some, ifB_false]
    exact refT_move_fin hE h fr to n s other hn T Y Hx (h.same ex) ⟨hc.1, by omega⟩ k1 k3 rfl k2 hel.1 hel.2 hQ
  · have hj0 : (0 : Int) ≤ j := by omega
    obtain ⟨o1, o2, o3⟩ := hold o k3 ho
    have olt := node_kind_lt o1
    simp only [i64_geq, ge_iff_le, hj0, decide_true, tk_eq, opt_some, ifB_true]
    refine S.f44 hE (h.mono ex) to fun b1 q1 y1 H3 e3 n3 hat3 => ?_
    obtain ⟨_, _, c3, _⟩ := n3.cell
    obtain ⟨b', o', f1, f2⟩ := n3.2.2.ix (i := j) (by rw [entR_length]; exact hj)
    have hrow : (entR (T.node to).ents)[j]'(by rw [entR_length]; exact hj) = [str other, vi (o.toNat : Int)] := by simp [entR, hjo]
    rw [hrow] at f2
    have f3 : (H3.get b').cell (o' + 1) = some (vi (o.toNat : Int)) := by have := row_at f2 (j := 1) (by omega); simpa using this
    simp only [nilCk_p, addOff_ptr, load1_ptr, c3, f1, f3, tk_eq, opt_some]
    refine S.f44 hE (h.mono (ex.trans e3)) o fun b2 q2 y2 H4 e4 n4 hat4 => ?_
    obtain ⟨d0, _, d2, _⟩ := n4.cell
    have dl := n4.lenL
    have ex4 := ex.trans (e3.trans e4)
    have hko := kind2 (T.node o).kind
    have drop := fun dm => refT_move_drop (Q := Q) hE h hs fr to n s other hc hn k1 k2 c2 k3 hold hnd hel o ho hon (by omega) H4 ex4 dm
    by_cases d1 : (T.node n).kind = 2#8
    · by_cases d2' : (T.node o).kind = 2#8
      · by_cases d3 : 0 < (T.node o).ents.length
        · have d3' : (0 : Int) < (T.node o).ents.length := by omega
          have hm : T.mayOld n (some o) = 39 := by simp [Tr.mayOld, d1, d2', d3]
          simp [hm] at hQ
          simp only [eq_true d1, decide_true, Bool.not_true, un_not_z, gd_tt, gd_ft, nilCk_p, addOff_ptr, load1_ptr, Nat.add_zero, d0, i64_neq, i64_gtr, gt_iff_lt, ne_eq, hko, eq_true d2', not_true, decide_false, d2, dl, d3', pick_true_z, pick_false_z, tk_eq, opt_some, ifB_true, ifB_false]
          exact hQ _ _ (h.same ex4)
        · have d3' : ¬ (0 : Int) < (T.node o).ents.length := by omega
          have hm : T.mayOld n (some o) = 0 := by simp [Tr.mayOld, d1, d2', d3]
          have := drop hm (by simpa [hm] using hQ)
          rw [show decide ((T.node n).kind = 2#8) = true by simp [d1]] at this
          simp only [eq_true d1, decide_true, Bool.not_true, un_not_z, gd_tt, gd_ft, nilCk_p, addOff_ptr, load1_ptr, Nat.add_zero, d0, i64_neq, i64_gtr, gt_iff_lt, ne_eq, hko, eq_true d2', not_true, decide_false, d2, dl, d3', pick_true_z, pick_false_z, tk_eq, opt_some, ifB_true, ifB_false]
          rw [show decide ((T.node n).kind = 2#8) = true by simp [d1]]
          exact this
      · have hm : T.mayOld n (some o) = 20 := by simp [Tr.mayOld, d1, d2']
        simp [hm] at hQ
        simp only [eq_true d1, decide_true, Bool.not_true, un_not_z, gd_tt, gd_ft, nilCk_p, addOff_ptr, load1_ptr, Nat.add_zero, d0, i64_neq, i64_gtr, gt_iff_lt, ne_eq, hko, eq_false d2', not_false_iff, decide_false, pick_true_z, pick_false_z, tk_eq, opt_some, ifB_true, ifB_false]
        exact hQ _ _ (h.same ex4)
    · by_cases d2' : (T.node o).kind = 2#8
      · have hm : T.mayOld n (some o) = 21 := by simp [Tr.mayOld, d1, d2']
        simp [hm] at hQ
        simp only [eq_false d1, decide_false, Bool.not_false, un_not_z, gd_tt, gd_ft, nilCk_p, addOff_ptr, load1_ptr, Nat.add_zero, d0, i64_eql, hko, eq_true d2', decide_true, pick_true_z, pick_false_z, tk_eq, opt_some, ifB_true, ifB_false]
        exact hQ _ _ (h.same ex4)
      · have hm : T.mayOld n (some o) = 0 := by simp [Tr.mayOld, d1, d2']
        have := drop hm (by simpa [hm] using hQ)
        rw [show decide ((T.node n).kind = 2#8) = false by simp [d1]] at this
        simp only [eq_false d1, decide_false, Bool.not_false, un_not_z, gd_tt, gd_ft, nilCk_p, addOff_ptr, load1_ptr, Nat.add_zero, d0, i64_eql, hko, eq_false d2', pick_true_z, pick_false_z, tk_eq, opt_some, ifB_true, ifB_false]
        rw [show decide ((T.node n).kind = 2#8) = false by simp [d1]]
        exact this
theorem refT_move_key (hE : Fold E) (h : RefT H t nv mv nx mr Y T) (hs : T.small) (fr to n : BitVec 16) (s other : NameL) (hc : -9223372036854775808 ≤ T.change ∧ T.change < 9223372036854775806)
    (hn : (T.node n).kind ≠ 0#8) (k1 : (T.node fr).kind = 2#8) (k2 : alook s (T.node fr).ents = some n) (c2 : T.dir to = 0) (k3 : (T.node to).kind = 2#8)
    (hold : ∀ y, (T.node to).kind = 2#8 → alook other (T.node to).ents = some y → (T.node y).kind ≠ 0#8 ∧ 0 ≤ (T.node y).links ∧ (T.node y).links < 9223372036854775807)
    (hnd : (T.node to).kind = 2#8 → ((T.node to).ents.map Prod.fst).Nodup) (hel : (T.node fr).ents.length < 2 ^ 35 ∧ (T.node to).ents.length < 2 ^ 35)
    (hsl : other.length < 2 ^ 63) (hdp : (T.node n).kind = 2#8 → (T.node to).links ≠ 0 → (T.node to).kind = 2#8 → T.deepF 20 to = T.deep to ∧ T.withinF n 20 to = T.within n to) {f : Nat} (hf : (T.node n).kind = 2#8 → T.fitsF f n) (hf20 : f ≤ 20)
    (i8 : Int) (old : Option (BitVec 16)) (Hx : AH) (ex : Ext H Hx) (ho : alook other (T.node to).ents = old) (hcase : ((i8 = -1 ∧ old = none) ∨ ∃ (j : Nat) (hj : j < (T.node to).ents.length) (o : BitVec 16), i8 = j ∧ old = some o ∧ (T.node to).ents[j] = (other, o) ∧ o ≠ n))
    (hQ : ∀ Y' H', UpdR t nv mv nx mr Y T nv Y' (if T.may n to other old ≠ 0 then (T, T.may n to other old) else (Tr.moved (if old.isSome then (T.drop to other (decide ((T.node n).kind = 2#8))).1 else T) fr s to other n, 0)).1 H H' → Q (vi (if T.may n to other old ≠ 0 then (T, T.may n to other old) else (Tr.moved (if old.isSome then (T.drop to other (decide ((T.node n).kind = 2#8))).1 else T) fr s to other n, 0)).2) H') :
      (
       E.call (E.fid i.f34) [(str other)] Hx fun v37 H28 =>
       opt (un .not v37) fun v38 =>
       ifB v38 (
       Q (.int .i64 22) H28) (
       E.call (E.fid i.f44) [(ptr t 0), (vi (to.toNat : Int))] H28 fun v39 H29 =>
       opt (nilCk v39) fun v40 =>
       opt (addOff v40 5) fun v41 =>
       opt (load1 v41 H29) fun v42 =>
       opt (binInt .eql v42 (.int .i64 0)) fun v43 =>
       ifB v43 (
       Q (.int .i64 2) H29) (
       E.call (E.fid i.f44) [(ptr t 0), (vi (n.toNat : Int))] H29 fun v44 H30 =>
       opt (nilCk v44) fun v45 =>
       opt (addOff v45 0) fun v46 =>
       opt (load1 v46 H30) fun v47 =>
       opt (binInt .eql v47 (.int .i64 2)) fun v48 =>
       gd v48 true (fun k => k (ptr t 0) H30) H30 fun v49 H31 =>
       gd v48 true (fun k => k (vi (to.toNat : Int)) H31) H31 fun v50 H32 =>
       gd v48 true (fun k => k (vi (n.toNat : Int)) H32) H32 fun v51 H33 =>
       gd v48 true (fun k => E.call (E.fid i.f45) [v49, v50, v51] H33 fun v h => k v h) H33 fun v52 H34 =>
       opt (pick v48 v52 (.bool false)) fun v53 =>
       ifB v53 (
       Q (.int .i64 22) H34) (
       gd v48 true (fun k => k (ptr t 0) H34) H34 fun v54 H35 =>
       gd v48 true (fun k => k (vi (to.toNat : Int)) H35) H35 fun v55 H36 =>
       gd v48 true (fun k => E.call (E.fid i.f47) [v54, v55] H36 fun v h => k v h) H36 fun v56 H37 =>
       gd v48 true (fun k => k (ptr t 0) H37) H37 fun v57 H38 =>
       gd v48 true (fun k => k (vi (n.toNat : Int)) H38) H38 fun v58 H39 =>
       gd v48 true (fun k => E.call (E.fid i.f50) [v57, v58] H39 fun v h => k v h) H39 fun v59 H40 =>
       gd v48 true (fun k => opt (binInt .add v56 v59) fun v => k v H40) H40 fun v60 H41 =>
       gd v48 true (fun k => opt (binInt .gtr v60 (.int .i64 16)) fun v => k v H41) H41 fun v61 H42 =>
       opt (pick v48 v61 (.bool false)) fun v62 =>
       ifB v62 (
       Q (.int .i64 28) H42) (
       opt (binInt .geq (vi i8) (.int .i64 0)) fun v63 =>
       ifB v63 (
       E.call (E.fid i.f44) [(ptr t 0), (vi (to.toNat : Int))] H42 fun v64 H43 =>
       opt (nilCk v64) fun v65 =>
       opt (addOff v65 2) fun v66 =>
       opt (load1 v66 H43) fun v67 =>
       opt (ixSlc 2 v67 (vi i8)) fun v68 =>
       opt (addOff v68 1) fun v69 =>
       opt (load1 v69 H43) fun v70 =>
       E.call (E.fid i.f44) [(ptr t 0), v70] H43 fun v71 H44 =>
       gd v48 true (fun k => k v71 H44) H44 fun v72 H45 =>
       gd v48 true (fun k => opt (nilCk v72) fun v => k v H45) H45 fun v73 H46 =>
       gd v48 true (fun k => opt (addOff v73 0) fun v => k v H46) H46 fun v74 H47 =>
       gd v48 true (fun k => opt (load1 v74 H47) fun v => k v H47) H47 fun v75 H48 =>
       gd v48 true (fun k => opt (binInt .neq v75 (.int .i64 2)) fun v => k v H48) H48 fun v76 H49 =>
       opt (pick v48 v76 (.bool false)) fun v77 =>
       ifB v77 (
       Q (.int .i64 20) H49) (
       opt (un .not v48) fun v78 =>
       gd v78 true (fun k => k v71 H49) H49 fun v79 H50 =>
       gd v78 true (fun k => opt (nilCk v79) fun v => k v H50) H50 fun v80 H51 =>
       gd v78 true (fun k => opt (addOff v80 0) fun v => k v H51) H51 fun v81 H52 =>
       gd v78 true (fun k => opt (load1 v81 H52) fun v => k v H52) H52 fun v82 H53 =>
       gd v78 true (fun k => opt (binInt .eql v82 (.int .i64 2)) fun v => k v H53) H53 fun v83 H54 =>
       opt (pick v78 v83 (.bool false)) fun v84 =>
       ifB v84 (
       Q (.int .i64 21) H54) (
       gd v48 true (fun k => k v71 H54) H54 fun v85 H55 =>
       gd v48 true (fun k => opt (nilCk v85) fun v => k v H55) H55 fun v86 H56 =>
       gd v48 true (fun k => opt (addOff v86 2) fun v => k v H56) H56 fun v87 H57 =>
       gd v48 true (fun k => opt (load1 v87 H57) fun v => k v H57) H57 fun v88 H58 =>
       gd v48 true (fun k => opt (lenSlc v88) fun v => k v H58) H58 fun v89 H59 =>
       gd v48 true (fun k => opt (binInt .gtr v89 (.int .i64 0)) fun v => k v H59) H59 fun v90 H60 =>
       opt (pick v48 v90 (.bool false)) fun v91 =>
       ifB v91 (
       Q (.int .i64 39) H60) (
       E.call (E.fid i.f38) [(ptr t 0), (vi (to.toNat : Int)), (str other), v48] H60 fun v92 H61 =>
       F.f43_j1 E Q (ptr t 0) (vi (fr.toNat : Int)) (str s) (vi (to.toNat : Int)) (str other) (vi (n.toNat : Int)) v48 H61)))) (
       F.f43_j1 E Q (ptr t 0) (vi (fr.toNat : Int)) (str s) (vi (to.toNat : Int)) (str other) (vi (n.toNat : Int)) v48 H42)))))) := by
  have tail := fun Hx ex => refT_move_tail (Q := Q) hE h hs fr to n s other hc hn k1 k2 c2 k3 hold hnd hel i8 old (decide ((T.node n).kind = 2#8)) Hx ex
  unfold Tr.may at hQ
  refine S.f34 hE other hsl ?_
  by_cases p1 : okName other = false
  · simp [p1] at hQ
    simp only [p1, un_not_z, Bool.not_false, tk_eq, opt_some, ifB_true]
    exact hQ _ _ (h.same ex)
  have p1 : okName other = true := by simpa using p1
  simp only [p1, un_not_z, Bool.not_true, tk_eq, opt_some, ifB_false]
  refine S.f44 hE (h.mono ex) to fun b1 q1 y1 H3 e3 n3 _ => ?_
  obtain ⟨_, _, _, _, _, c5, _⟩ := n3.cell
  have ex3 := ex.trans e3
  by_cases p2 : (T.node to).links = 0
  · simp [p1, p2] at hQ
    simp only [nilCk_p, addOff_ptr, load1_ptr, c5, p2, i64_eql, decide_true, tk_eq, opt_some, ifB_true]
    exact hQ _ _ (h.same ex3)
  simp only [nilCk_p, addOff_ptr, load1_ptr, c5, p2, i64_eql, decide_false, tk_eq, opt_some, ifB_false]
  refine S.f44 hE (h.mono ex3) n fun b2 q2 y2 H4 e4 n4 _ => ?_
  obtain ⟨d0, _⟩ := n4.cell
  have ex4 := ex3.trans e4
  have hkn := kind2 (T.node n).kind
  simp only [p1, p2, Bool.true_eq_false, if_false] at hQ
  by_cases d1 : (T.node n).kind = 2#8
  · obtain ⟨hdp1, hdp2⟩ := hdp d1 p2 k3
    simp only [nilCk_p, addOff_ptr, load1_ptr, Nat.add_zero, d0, i64_eql, hkn, eq_true d1, decide_true, gd_tt, tk_eq, opt_some]
    refine S.f45 hE (h.mono ex4) to n fun H5 e5 => ?_
    have ex5 := ex4.trans e5
    rw [hdp2]
    by_cases p3 : T.within n to = true
    · simp only [d1, p3, and_self, if_true] at hQ
      simp only [p3, pick_true_z, tk_eq, opt_some, ifB_true]
      exact hQ _ _ (h.same ex5)
    have p3 : T.within n to = false := by simpa using p3
    simp only [p3, pick_true_z, tk_eq, opt_some, ifB_false, gd_tt]
    refine S.f47 hE (h.mono ex5) to fun H6 e6 => ?_
    have ex6 := ex5.trans e6
    rw [hdp1]
    simp only [gd_tt, tk_eq]
    refine S.f50 hE hs f (h.mono ex6) n (hf d1) hf20 fun H7 e7 => ?_
    have ex7 := ex6.trans e7
    have hdle : T.deep to ≤ 17 := Tr.deepF_le T 17 to
    have htle : T.tall n ≤ 20 := Tr.tallF_le T 20 n
    by_cases p4 : 16 < T.deep to + T.tall n
    · have p4' : (16 : Int) < (T.deep to : Int) + (T.tall n : Int) := by omega
      simp only [d1, p3, p4, Bool.false_eq_true, and_false, and_self, if_true, if_false] at hQ
      simp only [gd_tt, i64_add (a := (T.deep to : Int)) (b := (T.tall n : Int)) (by omega) (by omega), i64_gtr, gt_iff_lt, p4', decide_true, pick_true_z, tk_eq, opt_some, ifB_true]
      exact hQ _ _ (h.same ex7)
    · have p4' : ¬ (16 : Int) < (T.deep to : Int) + (T.tall n : Int) := by omega
      simp only [d1, p3, p4, Bool.false_eq_true, and_false, if_false] at hQ
      simp only [gd_tt, i64_add (a := (T.deep to : Int)) (b := (T.tall n : Int)) (by omega) (by omega), i64_gtr, gt_iff_lt, p4', decide_false, pick_true_z, tk_eq, opt_some, ifB_false]
      have := tail H7 ex7 rfl ho hcase (by simpa only [d1] using hQ)
      simp only [eq_true d1, decide_true] at this
      exact this
  · simp only [d1, false_and, if_false] at hQ
    simp only [nilCk_p, addOff_ptr, load1_ptr, Nat.add_zero, d0, i64_eql, hkn, eq_false d1, decide_false, gd_ft, pick_false_z, tk_eq, opt_some, ifB_false]
    have := tail H4 ex4 rfl ho hcase (by simpa only [d1] using hQ)
    simp only [eq_false d1, decide_false] at this
    exact this
theorem S.f43 (hE : Fold E) (h : RefT H t nv mv nx mr Y T) (hs : T.small) (fr to : BitVec 16) (s other : NameL) (hsl : other.length < 2 ^ 63)
    (hc : -9223372036854775808 ≤ T.change ∧ T.change < 9223372036854775806)
    (hn : (T.look fr s).2 = 0 → (T.node (T.look fr s).1).kind ≠ 0#8)
    (hdp : (T.node (T.look fr s).1).kind = 2#8 → (T.node to).links ≠ 0 → (T.node to).kind = 2#8 → T.deepF 20 to = T.deep to ∧ T.withinF (T.look fr s).1 20 to = T.within (T.look fr s).1 to)
    {f : Nat} (hf : (T.look fr s).2 = 0 → (T.node (T.look fr s).1).kind = 2#8 → T.fitsF f (T.look fr s).1) (hf20 : f ≤ 20)
    (hold : ∀ y, (T.node to).kind = 2#8 → alook other (T.node to).ents = some y → (T.node y).kind ≠ 0#8 ∧ 0 ≤ (T.node y).links ∧ (T.node y).links < 9223372036854775807)
    (hnd : (T.node to).kind = 2#8 → ((T.node to).ents.map Prod.fst).Nodup) (hel : (T.node fr).ents.length < 2 ^ 35 ∧ (T.node to).ents.length < 2 ^ 35)
    (hQ : ∀ Y' H', UpdR t nv mv nx mr Y T nv Y' (T.move fr s to other).1 H H' → Q (vi (T.move fr s to other).2) H') :
    E.call (E.fid i.f43) [ptr t 0, vi (fr.toNat : Int), str s, vi (to.toNat : Int), str other] H Q := by
  apply hE.f43
  simp only [F.f43]
  refine S.f41 hE h hs fr s fun H1 e1 => ?_
  unfold Tr.move at hQ
  by_cases c1 : (T.look fr s).2 = 0
  rotate_left
  · simp [c1] at hQ
    simp only [tk_eq, ext_tuple, List.getElem?_cons_zero, List.getElem?_cons_succ, c1, i64_neq, ne_eq, not_false_iff, decide_true, opt_some, ifB_true]
    exact hQ _ _ (h.same e1)
  obtain ⟨k1, k2⟩ := Tr.look_ok c1
  have hn := hn c1
  have hf := hf c1
  simp only [c1, ne_eq, not_true, if_false] at hQ
  simp only [tk_eq, ext_tuple, List.getElem?_cons_zero, List.getElem?_cons_succ, c1, i64_neq, ne_eq, not_true, decide_false, opt_some, ifB_false]
  generalize hnn : (T.look fr s).1 = n at *
  refine S.f48 hE (h.mono e1) to fun H2 e2 => ?_
  have x2 := e1.trans e2
  by_cases c2 : T.dir to = 0
  rotate_left
  · simp only [c2, ne_eq, not_false_eq_true, if_true] at hQ
    simp only [c2, i64_neq, ne_eq, not_false_iff, decide_true, tk_eq, opt_some, ifB_true]
    exact hQ _ _ (h.same x2)
  have k3 := Tr.dir_zero.1 c2
  have tolt : to.toNat < T.N.length := node_kind_lt (by rw [k3]; decide)
  have frlt : fr.toNat < T.N.length := node_kind_lt (by rw [k1]; decide)
  simp only [c2, ne_eq, not_true, if_false] at hQ
  simp only [c2, i64_neq, ne_eq, not_true, decide_false, tk_eq, opt_some, ifB_false]
  refine S.f44 hE (h.mono x2) to fun bt ot yt H3 e3 n3 hat3 => ?_
  have x3 := x2.trans e3
  obtain ⟨_, _, t2, _⟩ := n3.cell
  have tl := n3.lenL
  refine S.f52 hE n3 other (by omega) ?_
  cases c3 : alook other (T.node to).ents with
  | none =>
    rw [nameIx_none _ _ c3]
    have key := fun Hx ex => refT_move_key (Q := Q) hE h hs fr to n s other hc hn k1 k2 c2 k3 hold hnd hel hsl hdp hf hf20 (-1) none Hx ex
    simp only [c3] at hQ
    simp only [i64_geq, ge_iff_le, show ¬ (0 : Int) ≤ -1 from by omega, decide_false, gd_ft, pick_false_z, tk_eq, opt_some, ifB_false, i64_lss, show ((-1 : Int) < 0) = True from by simp, decide_true, gd_tt, i64_neq, ne_eq, num_eq, pick_true_z]
    by_cases c4 : fr = to
    · subst c4
      simp [c3] at hQ
      simp only [not_true, decide_false, gd_ft, pick_false_z, tk_eq, opt_some, ifB_false]
      exact key H3 x3 c3 (.inl ⟨rfl, rfl⟩) (by simpa using hQ)
    · simp only [c4, not_false_iff, decide_true, gd_tt, tk_eq]
      refine S.f44 hE (h.mono x3) to fun b4 o4 y4 H4 e4 n4 _ => ?_
      obtain ⟨_, _, u2, _⟩ := n4.cell
      have ul := n4.lenL
      have x4 := x3.trans e4
      by_cases c5 : 32 ≤ (T.node to).ents.length
      · have c5' : (32 : Int) ≤ (T.node to).ents.length := by omega
        simp [c4, c5] at hQ
        simp only [c4, not_false_iff, not_false_eq_true, decide_true, gd_tt, nilCk_p, addOff_ptr, load1_ptr, u2, ul, i64_geq, ge_iff_le, c5', decide_true, pick_true_z, tk_eq, opt_some, ifB_true]
        exact hQ _ _ (h.same x4)
      · have c5' : ¬ (32 : Int) ≤ (T.node to).ents.length := by omega
        simp [c4, c5] at hQ
        simp only [c4, not_false_iff, not_false_eq_true, decide_true, gd_tt, nilCk_p, addOff_ptr, load1_ptr, u2, ul, i64_geq, ge_iff_le, c5', decide_false, pick_true_z, tk_eq, opt_some, ifB_false]
        exact key H4 x4 c3 (.inl ⟨rfl, rfl⟩) (by simpa using hQ)
  | some o =>
    obtain ⟨j, hj, j1, j2, _⟩ := nameIx_some other _ o c3
    rw [j1]
    have hj0 : (0 : Int) ≤ j := by omega
    have hj1 : ¬ (j : Int) < 0 := by omega
    simp only [i64_geq, ge_iff_le, hj0, decide_true, gd_tt, tk_eq, opt_some]
    refine S.f44 hE (h.mono x3) to fun b4 o4 y4 H4 e4 n4 _ => ?_
    have x4 := x3.trans e4
    obtain ⟨_, _, u2, _⟩ := n4.cell
    obtain ⟨b', o', f1, f2⟩ := n4.2.2.ix (i := j) (by rw [entR_length]; exact hj)
    have hrow : (entR (T.node to).ents)[j]'(by rw [entR_length]; exact hj) = [str other, vi (o.toNat : Int)] := by simp [entR, j2]
    rw [hrow] at f2
    have f3 : (H4.get b').cell (o' + 1) = some (vi (o.toNat : Int)) := by have := row_at f2 (j := 1) (by omega); simpa using this
    by_cases c4 : o = n
    · simp [c3, c4] at hQ
      simp only [gd_tt, nilCk_p, addOff_ptr, load1_ptr, u2, f1, f3, i64_eql, num_eq, eq_true c4, decide_true, pick_true_z, tk_eq, opt_some, ifB_true]
      exact hQ _ _ (h.same x4)
    · simp [c3, c4] at hQ
      simp only [gd_tt, gd_ft, nilCk_p, addOff_ptr, load1_ptr, u2, f1, f3, i64_eql, i64_lss, hj1, num_eq, eq_false c4, decide_false, pick_true_z, pick_false_z, tk_eq, opt_some, ifB_false]
      exact refT_move_key (Q := Q) hE h hs fr to n s other hc hn k1 k2 c2 k3 hold hnd hel hsl hdp hf hf20 j (some o) H4 x4 c3 (.inr ⟨j, hj, o, rfl, rfl, j2, c4⟩) (by simpa using hQ)
end
end Go.AM
end
section
namespace Go.AM
section
variable {E : Sy} {H0 H H' H'' H1 : AH} {Q : Value → AH → Prop} {t : Nat} {nv nv' nv'' mv : Value} {nx : Int} {mr : List (List Value)} {Y Y' Y'' : List RLy} {T T' T'' : Tr}
def mntTop : List (List Value) := [MntI.cells ⟨0, 1, PlaceI.zero, 0⟩]
theorem S.f35 (hE : Fold E) (limit : Int) (hQ : ∀ t nv mv Y H', Ext H H' → RefT H' t nv mv 1 mntTop Y (Tr.new limit) → (∀ b ∈ (refR t nv mv 1 mntTop Y (Tr.new limit)).fp, H.next ≤ b) → Q (ptr t 0) H') : E.call (E.fid i.f35) [vi limit] H Q := by
  apply hE.f35
  have e1 : (if (1 : Int) > limit then 1 else limit) = max limit 1 := by omega
  have e2 : ∀ x : Int, (if (256 : Int) < x then 256 else x) = min x 256 := fun x => by omega
  have hb1 : buildV [(0, 1), (1, 1), (2, 1), (3, 1), (4, 1), (5, 1), (6, 1)] #[(.int .i64 0), (.slice none 0 0), (.slice none 0 0), (.int .i64 0), (.string ⟨#[]⟩), (.int .i64 0), (.int .i64 0)] [] = some (NodeI.v NodeI.zero) := rfl
  have hb2 : buildV [(0, 1), (1, 1), (2, 1), (3, 1), (4, 1), (5, 1), (6, 1)] #[(.int .i64 0), (.slice none 0 0), (.slice none 0 0), (.int .i64 0), (.string ⟨#[]⟩), (.int .i64 0), (.int .i64 0)] [(0, (.int .i64 2)), (3, (.int .i64 1)), (5, (.int .i64 1))] = some (NodeI.v ⟨2, nilS, nilS, 1, [], 1, 0⟩) := rfl
  have hb3 : buildS 2 7 #[(.int .i64 0), (.slice none 0 0), (.slice none 0 0), (.int .i64 0), (.string ⟨#[]⟩), (.int .i64 0), (.int .i64 0)] [(0, NodeI.v NodeI.zero), (1, NodeI.v ⟨2, nilS, nilS, 1, [], 1, 0⟩)] = some (.cells (NodeI.zero.cells ++ (⟨2, nilS, nilS, 1, [], 1, 0⟩ : NodeI).cells) none, mkSlc 2 2) := NodeI.buildS [NodeI.zero, ⟨2, nilS, nilS, 1, [], 1, 0⟩]
  have hb4 : buildV [(0, 1), (1, 1), (2, 2), (4, 1)] #[(.int .i64 0), (.int .i64 0), (.int .i64 0), (.int .i64 0), (.int .i64 0)] [(1, (.int .i64 1))] = some (MntI.v ⟨0, 1, PlaceI.zero, 0⟩) := rfl
  have hb5 : buildS 1 5 #[(.int .i64 0), (.int .i64 0), (.int .i64 0), (.int .i64 0), (.int .i64 0)] [(0, MntI.v ⟨0, 1, PlaceI.zero, 0⟩)] = some (.cells (MntI.cells ⟨0, 1, PlaceI.zero, 0⟩) none, mkSlc 1 1) := MntI.build1 _
  generalize hlim : min (max limit 1) 256 = lim
  have hb6 : ∀ a b, buildV [(0, 1), (1, 1), (2, 1), (3, 1), (4, 1)] #[(.slice none 0 0), (.int .i64 0), (.slice none 0 0), (.int .i64 0), (.int .i64 0)] [(0, slc a 0 2 2), (1, vi lim), (2, slc b 0 1 1), (3, (.int .i64 1))] = some (TreeI.v ⟨slc a 0 2 2, lim, slc b 0 1 1, 1, 0⟩) := fun _ _ => rfl
  have hmm : (fold2 max2 [vi limit, (.int .i64 1)]) = some (vi (max limit 1)) := by simp [e1]
  have hmn : (fold2 min2 [vi (max limit 1), (.int .i64 256)]) = some (vi lim) := by simp [e2, hlim]
  have hbx : ∀ x : TreeI, boxO (TreeI.v x) = some (.cells x.cells none, fun b => ptr b 0) := fun x => rfl
  simp only [F.f35, hb1, hb2, hb3, hb4, hb5, hmm, hmn, AM.mk_some, mkSlc_eq, hb6, hbx, tk_eq, opt_some]
  have hT : Tr.new limit = ⟨[Nd.none, { Nd.none with kind := 2#8, parent := 1#16, links := 1 }], lim, 0⟩ := by unfold Tr.new; rw [hlim]
  rw [hT] at hQ
  refine hQ (H.next + 2) (slc H.next 0 2 2) (slc (H.next + 1) 0 1 1) [⟨nilS, nilS⟩, ⟨nilS, nilS⟩] _ ((((Ext.refl H).new _).new _).new _) ⟨⟨?_, ?_, ?_⟩, rfl, by simp⟩ ?_
  · intro r hr
    simp only [refRs, List.zip, List.zipWith, List.map_cons, List.map_nil, List.mem_cons, List.not_mem_nil, or_false] at hr
    have g0 : ((((H.new (.cells (NodeI.zero.cells ++ (⟨2, nilS, nilS, 1, [], 1, 0⟩ : NodeI).cells) none)).new (.cells (MntI.cells ⟨0, 1, PlaceI.zero, 0⟩) none)).new (.cells (TreeI.cells ⟨slc H.next 0 2 2, lim, slc (H.next + 1) 0 1 1, 1, 0⟩) none))).get H.next = .cells (NodeI.zero.cells ++ (⟨2, nilS, nilS, 1, [], 1, 0⟩ : NodeI).cells) none := by
      rw [AH.get_new_ne _ _ (by simp; omega), AH.get_new_ne _ _ (by simp), AH.get_new_self]
    have g1 : ((((H.new (.cells (NodeI.zero.cells ++ (⟨2, nilS, nilS, 1, [], 1, 0⟩ : NodeI).cells) none)).new (.cells (MntI.cells ⟨0, 1, PlaceI.zero, 0⟩) none)).new (.cells (TreeI.cells ⟨slc H.next 0 2 2, lim, slc (H.next + 1) 0 1 1, 1, 0⟩) none))).get (H.next + 1) = .cells (MntI.cells ⟨0, 1, PlaceI.zero, 0⟩) none := by
      rw [AH.get_new_ne _ _ (by simp)]
      exact AH.get_new_self _ _
    have g2 : ((((H.new (.cells (NodeI.zero.cells ++ (⟨2, nilS, nilS, 1, [], 1, 0⟩ : NodeI).cells) none)).new (.cells (MntI.cells ⟨0, 1, PlaceI.zero, 0⟩) none)).new (.cells (TreeI.cells ⟨slc H.next 0 2 2, lim, slc (H.next + 1) 0 1 1, 1, 0⟩) none))).get (H.next + 2) = .cells (TreeI.cells ⟨slc H.next 0 2 2, lim, slc (H.next + 1) 0 1 1, 1, 0⟩) none := AH.get_new_self _ _
    rcases hr with rfl | rfl | rfl | rfl | rfl
    · exact g2
    · exact Grow.made (f := none) (zH_get _) (g0.trans rfl) (.inl rfl) rfl (by
        intro r hr
        simp only [nodeRows, List.zip, List.zipWith, List.map_cons, List.map_nil, List.mem_cons, List.not_mem_nil, or_false] at hr
        rcases hr with rfl | rfl <;> exact ⟨rfl, rfl⟩)
    · exact Grow.made (f := none) (zH_get _) (g1.trans rfl) (.inl rfl) rfl (by
        intro r hr
        simp only [mntTop, List.mem_cons, List.not_mem_nil, or_false] at hr
        subst hr
        exact ⟨rfl, rfl⟩)
    · intro r hr
      simp only [List.mem_cons, List.not_mem_nil, or_false] at hr
      rcases hr with rfl | rfl
      · exact Grow.nil _ _ _
      · exact Grow.nil _ _ _
    · intro r hr
      simp only [List.mem_cons, List.not_mem_nil, or_false] at hr
      rcases hr with rfl | rfl
      · exact Grow.nil _ _ _
      · exact Grow.nil _ _ _
  · intro b hb
    simp [refR, joinR, refRs, boxR, growR, nodeRR, blkL, blk] at hb ⊢
    omega
  · simp [refR, joinR, refRs, boxR, growR, nodeRR, blkL, blk]
  · intro b hb
    simp [refR, joinR, refRs, boxR, growR, nodeRR, blkL, blk] at hb
    omega
end
end Go.AM
end
section
namespace Go.AM
theorem Grow.cut {Z H : AH} {sz : Nat} {v : Value} {rows : List (List Value)} (h : Grow Z H sz v rows) {k : Nat} (hk : k ≤ rows.length) :
    ∃ v', slSlc sz v none (some (vi k)) none H = some v' ∧ Grow Z H sz v' (rows.take k) ∧ blk v' = blk v := by
  have hs := (h.toRows.slice' (lo := none) (hi := some (vi k)) (i := 0) (j := k) (.inr ⟨rfl, rfl⟩) (.inl rfl) (Nat.zero_le _) hk).1
  refine ⟨_, hs, ?_⟩
  rcases h.2 with ⟨rfl, rfl⟩ | ⟨b, f, c, cs, g1, rfl, g3, g4, g5, g6, g7⟩
  · have : k = 0 := by simpa using hk
    subst this
    exact ⟨⟨by simp, .inl ⟨by simp, rfl⟩⟩, rfl⟩
  · have e : sliceV sz (slc b 0 rows.length c) 0 k = slc b 0 k c := by
      simp [sliceV, Addr.add]
    rw [e]
    refine ⟨⟨fun r hr => h.1 r (List.mem_of_mem_take hr), .inr ⟨b, f, c, cs, g1, by rw [List.length_take, Nat.min_eq_left hk], g3, by rw [List.length_take]; omega, g5, ?_, g7⟩⟩, rfl⟩
    rw [List.length_take, Nat.min_eq_left hk, ← flatten_take rows (fun r hr => (h.1 r hr).1), ← g6, List.take_take, Nat.min_eq_left (Nat.mul_le_mul_right _ hk)]
theorem byteR_set (l : List (BitVec 8)) (i : Nat) (x : BitVec 8) : byteR (l.set i x) = (byteR l).set i [u8 x] := by simp [byteR, List.map_set]
theorem byteR_append (a b : List (BitVec 8)) : byteR (a ++ b) = byteR a ++ byteR b := by simp [byteR]
theorem byteR_take (a : List (BitVec 8)) (k : Nat) : byteR (a.take k) = (byteR a).take k := by simp [byteR, List.map_take]
section
variable {E : Sy} {H0 H H' H'' H1 : AH} {Q : Value → AH → Prop} {t : Nat} {nv nv' nv'' mv : Value} {nx : Int} {mr : List (List Value)} {Y Y' Y'' : List RLy} {T T' T'' : Tr}
theorem RefT.newD (h : RefT H t nv mv nx mr Y T) {n : BitVec 16} (hn : n.toNat < T.N.length) {y : RLy} (hy : Y[n.toNat]? = some y) {b o : Nat} (hp : ixSlc 7 nv (vi (n.toNat : Int)) = some (ptr b o)) (f : Nd → Nd)
    (hf : ∀ x : Nd, (f x).ents = x.ents) {v' : Value} (e : Ext H H1) (g : Grow zH H1 1 v' (byteR (f (T.node n)).data)) (fr : FreshV H.next v') (hc : (refI (f (T.node n)) { y with data := v' }).cells = (refI (T.node n) y).cells.set 1 v') :
    ∃ H', store1 (ptr b (o + 1)) v' H1 = some H' ∧ UpdR t nv mv nx mr Y T nv (Y.set n.toNat { y with data := v' }) (T.upd n f) H H' :=
  h.cell hn hy hp f _ (nodeRR.setD (h.node_y hn hy) (hf _) e g fr) (by omega) g.plain hc
theorem zero_more {H0 H : AH} {v : Value} {l : List (BitVec 8)} (g : Grow zH H 1 v (byteR l)) (e : Ext H0 H) (f : FreshV H0.next v) (hl : l.length < 2 ^ 40) :
    ∃ v' H', AM.app 1 1 v (slc H.next 0 1 1) (H.new (.cells [u8 0#8] none)) = some (v', H') ∧ Grow zH H' 1 v' (byteR (l ++ [0#8])) ∧ Ext H0 H' ∧ FreshV H0.next v' := by
  obtain ⟨v', H', a1, a2, a3⟩ := g.app1 (Nat.zero_le _) (bytes := 1) [u8 0#8] rfl rfl (by decide) (by decide) (by rw [byteR_length]; omega)
  obtain ⟨q1, q2⟩ := grew_ext a3 e f
  refine ⟨v', H', a1, ?_, q1, q2⟩
  rw [byteR_append]; exact a2
theorem S.f37 (hE : Fold E) (h : RefT H t nv mv nx mr Y T) (n : BitVec 16) (size : Int) (hc : -9223372036854775808 ≤ T.change ∧ T.change < 9223372036854775807) (hdl : (T.node n).data.length < 2 ^ 39)
    (hQ : ∀ Y' H', UpdR t nv mv nx mr Y T nv Y' (T.cut n size).1 H H' → Q (vi (T.cut n size).2) H') : E.call (E.fid i.f37) [ptr t 0, vi (n.toNat : Int), vi size] H Q := by
  apply hE.f37
  simp only [F.f37]
  refine S.f44 hE h n fun b o y H1 e1 hn hat => ?_
  obtain ⟨c0, c1, _⟩ := hn.cell
  have k1 := kind1 (T.node n).kind
  have k2 := kind2 (T.node n).kind
  have k0 := kind0 (T.node n).kind
  unfold Tr.cut at hQ
  by_cases g0 : (T.node n).kind = 0#8
  · simp [g0] at hQ
    simp only [nilCk_p, addOff_ptr, load1_ptr, Nat.add_zero, c0, i64_eql, k0, eq_true g0, decide_true, tk_eq, opt_some, ifB_true]
    exact hQ _ _ (h.same e1)
  have hlt := node_kind_lt g0
  obtain ⟨rfl, hy, hp⟩ := hat hlt
  by_cases g2 : (T.node n).kind = 2#8
  · simp [g2] at hQ
    simp only [nilCk_p, addOff_ptr, load1_ptr, Nat.add_zero, c0, i64_eql, k0, k2, eq_false g0, eq_true g2, decide_true, decide_false, tk_eq, opt_some, ifB_true, ifB_false]
    exact hQ _ _ (h.same e1)
  by_cases g1 : (T.node n).kind = 1#8
  rotate_left
  · simp [g0, g2, g1] at hQ
    simp only [nilCk_p, addOff_ptr, load1_ptr, Nat.add_zero, c0, i64_eql, i64_neq, ne_eq, k0, k1, k2, eq_false g0, eq_false g2, eq_false g1, not_false_eq_true, decide_true, decide_false, gd_tf, pick_true_z, tk_eq, opt_some, ifB_true, ifB_false]
    exact hQ _ _ (h.same e1)
  by_cases g3 : size < 0
  · simp [g0, g2, g1, g3] at hQ
    simp only [nilCk_p, addOff_ptr, load1_ptr, Nat.add_zero, c0, i64_eql, i64_neq, ne_eq, k0, k1, k2, eq_false g0, eq_false g2, eq_true g1, not_true, i64_lss, g3, decide_true, decide_false, gd_ff, pick_true_z, pick_false_z, tk_eq, opt_some, ifB_true, ifB_false]
    exact hQ _ _ (h.same e1)
  by_cases g4 : 1024 < size
  · simp [g0, g2, g1, g3, g4] at hQ
    simp only [nilCk_p, addOff_ptr, load1_ptr, Nat.add_zero, c0, i64_eql, i64_neq, i64_gtr, gt_iff_lt, ne_eq, k0, k1, k2, eq_false g0, eq_false g2, eq_true g1, not_true, i64_lss, g3, g4, decide_true, decide_false, gd_ff, pick_true_z, pick_false_z, tk_eq, opt_some, ifB_true, ifB_false]
    exact hQ _ _ (h.same e1)
  simp [g0, g2, g1, g3, g4] at hQ
  have hb0 : buildS 0 1 #[(.int .u8 0)] [] = some (.cells [] none, mkSlc 0 0) := buildS0 1 [u8 0#8] rfl
  have e9 : Ext H1 (H1.new (.cells [] none)) := (Ext.refl H1).new _
  have gr9 : Grow zH (H1.new (.cells [] none)) 1 (slc H1.next 0 0 0) [] := Grow.room (zH_get _) (AH.get_new_self _ _) rfl
  have c1' : ((H1.new (.cells [] none)).get b).cell (o + 1) = some y.data := by
    rw [AH.get_new_lt _ _ (AH.lt_of_get (row_notdead hn.1))]
    exact c1
  simp only [nilCk_p, addOff_ptr, load1_ptr, Nat.add_zero, c0, i64_eql, i64_neq, i64_gtr, gt_iff_lt, ne_eq, k0, k1, k2, eq_false g0, eq_false g2, eq_true g1, not_true, i64_lss, g3, g4, decide_false, gd_ff, pick_true_z, pick_false_z, hb0, AM.mk_some, mkSlc_eq, c1', tk_eq, opt_some, ifB_false]
  obtain ⟨v18, H11, a1, a2, a3⟩ := gr9.app (bytes := 1) (Nat.zero_le _) (hn.2.1.mono e9) (byteR_plain _) (by decide) (by decide) (by simp [byteR_length]; omega) (by simp [byteR_length]; omega)
  obtain ⟨e11, f11⟩ := grew_ext a3 e9 (fun b hb => by simp [blk] at hb; omega)
  have a1' : app 1 1 (slc H1.next 0 0 0) y.data (H1.new (.cells [] none)) = some (v18, H11) := a1
  simp only [a1', opt2_some, tk_eq]
  obtain ⟨sz, rfl⟩ : ∃ sz : Nat, size = sz := ⟨size.toNat, by omega⟩
  rw [List.nil_append] at a2
  have hb1 : buildS 1 1 #[(.int .u8 0)] [(0, (.int .u8 0))] = some (.cells [u8 0#8] none, mkSlc 1 1) := buildS_one 1 [u8 0#8] [u8 0#8] rfl rfl
  generalize hD : (T.node n).data = D at *
  refine LoopL.ind (fun j ls H' => ∃ v, ∃ k : Nat, ls = [ptr t 0, vi sz, ptr b o, v] ∧ Ext H1 H' ∧ FreshV H1.next v ∧ Grow zH H' 1 v (byteR (D ++ List.replicate k 0#8)) ∧ (k = 0 ∨ D.length + k ≤ sz) ∧ j = sz - (D.length + k)) ?_ (sz - D.length) ⟨v18, 0, rfl, e11, f11, by simpa using a2, .inl rfl, by omega⟩
  rintro j _ H3 X hX ⟨v, k, rfl, e3, f3, g5, hk, rfl⟩
  have hlv := g5.toRows.lenSlc
  rw [byteR_length, List.length_append, List.length_replicate] at hlv
  by_cases hlt2 : D.length + k < sz
  · have hlt2' : ((D.length + k : Nat) : Int) < (sz : Int) := by omega
    obtain ⟨v', H4, b1, b2, b3, b4⟩ := zero_more g5 e3 f3 (by simp; omega)
    simp only [F.f37_l1, nth_0, nth_1, nth_2, nth_3, hlv, i64_lss, hlt2', decide_true, hb1, AM.mk_some, mkSlc_eq, b1, opt2_some, tk_eq, opt_some, ifB_true]
    refine hX (sz - (D.length + (k + 1))) (by omega) _ _ ⟨v', k + 1, rfl, b3, b4, ?_, .inr (by omega), rfl⟩
    rw [List.replicate_succ', ← List.append_assoc]
    exact b2
  · have hlt2' : ¬ ((D.length + k : Nat) : Int) < (sz : Int) := by omega
    obtain ⟨v', s1, s2, s3⟩ := g5.cut (k := sz) (by rw [byteR_length, List.length_append, List.length_replicate]; omega)
    have hcut : byteR ((fun x : Nd => { x with data := cutL x.data sz }) (T.node n)).data = (byteR (D ++ List.replicate k 0#8)).take sz := by
      rw [← byteR_take]
      show byteR (cutL (T.node n).data sz) = _
      rw [hD]
      congr 1
      unfold cutL
      rw [List.take_append]
      congr 1
      rw [List.take_replicate]
      congr 1
      rcases hk with rfl | hk <;> omega
    obtain ⟨H4, s4, u4⟩ := h.newD (v' := v') hlt hy hp (fun x => { x with data := cutL x.data sz }) (fun _ => rfl) e3 (by rw [hcut]; exact s2) (fun b hb => f3 b (by rw [← s3]; exact hb)) rfl
    have h4 := u4.ref h
    have hh4 := h4.head
    obtain ⟨H5, s5, u5⟩ := h4.tick
    have hcc : (T.upd n (fun x => { x with data := cutL x.data sz })).change = T.change := rfl
    rw [hcc] at s5 hh4
    simp only [F.f37_l1, nth_0, nth_1, nth_2, nth_3, hlv, i64_lss, hlt2', decide_false, s1, nilCk_p, addOff_ptr, s4, load1_ptr, hh4, cell_cells_z, Nat.zero_add, TreeI.at4, i64_add (a := T.change) (b := 1) (by omega) (by omega), s5, tk_eq, opt_some, ifB_false]
    exact hQ _ _ (u4.trans u5)
end
end Go.AM
end
section
namespace Go.AM
theorem spliceB_step (e b : List (BitVec 8)) (i j : Nat) (hj : j < b.length) (hi : i + j < e.length) : (spliceB e i (b.take j)).set (i + j) b[j] = spliceB e i (b.take (j + 1)) := by
  unfold spliceB
  have h1 : (e.take i).length = i := by rw [List.length_take]; omega
  have h2 : (b.take j).length = j := by rw [List.length_take]; omega
  have h3 : (b.take (j + 1)).length = j + 1 := by rw [List.length_take]; omega
  rw [h2, h3, List.set_append_right _ _ (by rw [List.length_append, h1, h2]; omega), List.length_append, h1, h2, Nat.sub_self]
  rw [List.drop_eq_getElem_cons hi, List.set_cons_zero]
  simp [Nat.add_assoc]
  rw [List.take_succ_eq_append_getElem hj]
  simp only [List.append_assoc, List.singleton_append]
theorem spliceB_length (e b : List (BitVec 8)) (i : Nat) (h : i + b.length ≤ e.length) : (spliceB e i b).length = e.length := by
  simp [spliceB]; omega
section
variable {E : Sy} {H0 H H' H'' H1 : AH} {Q : Value → AH → Prop} {t : Nat} {nv nv' nv'' mv : Value} {nx : Int} {mr : List (List Value)} {Y Y' Y'' : List RLy} {T T' T'' : Tr}
theorem refT_write2 (h : RefT H1 t nv mv nx mr Y T) (n : BitVec 16) (hlt : n.toNat < T.N.length) {y : RLy} {b o : Nat} (hy : Y[n.toNat]? = some y) (hp : ixSlc 7 nv (vi (n.toNat : Int)) = some (ptr b o)) (at_ : Nat) (xv : Value) (x : List (BitVec 8)) (hx : Rows H1 1 xv (byteR x)) (hc : -9223372036854775808 ≤ T.change ∧ T.change < 9223372036854775807)
    (hat : at_ ≤ 1024 ∧ at_ + x.length ≤ 1024) (e : List (BitVec 8)) (he : at_ + x.length ≤ e.length) (hw : writeL (T.node n).data at_ x = spliceB e at_ x) (v : Value) (H3 : AH) (e3 : Ext H1 H3) (f3 : FreshV H1.next v) (g3 : Grow zH H3 1 v (byteR e))
    (hQ : ∀ Y' H', UpdR t nv mv nx mr Y T nv Y' ((T.upd n (fun z => { z with data := writeL z.data at_ x })).bump) H1 H' → Q (vi 0) H') :
    LoopL (fun l H X0 => F.f46_l2 E Q (nth l 0) (nth l 1) (nth l 2) (nth l 3) (nth l 4) (nth l 5) H X0) [ptr t 0, vi at_, xv, ptr b o, v, (.int .i64 0)] H3 := by
  refine LoopL.count x.length (fun j ls H' => ls = [ptr t 0, vi at_, xv, ptr b o, v, vi j] ∧ Ext H1 H' ∧ Grow zH H' 1 v (byteR (spliceB e at_ (x.take j)))) ?_ ⟨rfl, e3, by simpa [spliceB] using g3⟩
  rintro j _ H4 X hj hX ⟨rfl, e4, g4⟩
  have hxl := (hx.mono e4).lenSlc
  rw [byteR_length] at hxl
  by_cases hjl : j < x.length
  · have hjl' : (j : Int) < x.length := by omega
    obtain ⟨b1, o1, p1, p2⟩ := (hx.mono e4).ix (i := j) (by rw [byteR_length]; exact hjl)
    have hrow : (byteR x)[j]'(by rw [byteR_length]; exact hjl) = [u8 x[j]] := by simp [byteR]
    rw [hrow] at p2
    have p3 : (H4.get b1).cell o1 = some (u8 x[j]) := by have := row_at p2 (j := 0) (by omega); simpa using this
    have hls : (spliceB e at_ (x.take j)).length = e.length := spliceB_length _ _ _ (by rw [List.length_take]; omega)
    have hi : at_ + j < (byteR (spliceB e at_ (x.take j))).length := by rw [byteR_length, hls]; omega
    obtain ⟨b2, o2, H5, q1, q2, q3, q4, q5⟩ := g4.store (i := at_ + j) (k := 0) hi (by omega) (u8 x[j]) rfl
    have hadd : binInt .add (vi at_) (vi j) = some (vi ((at_ + j : Nat) : Int)) := by rw [i64_add (by omega) (by omega)]; simp
    have hjj := i64_succ j (by omega)
    have hset : (byteR (spliceB e at_ (x.take j))).set (at_ + j) ((byteR (spliceB e at_ (x.take j)))[at_ + j].set 0 (u8 x[j])) = byteR (spliceB e at_ (x.take (j + 1))) := by
      rw [← spliceB_step e x at_ j hjl (by omega), byteR_set]
      congr 1
      simp [byteR]
    rw [hset] at q4
    rw [Nat.add_zero] at q3
    have q3' : store1 (ptr b2 o2) (u8 x[j]) H4 = some H5 := q3
    generalize hj1 : j + 1 = j1 at *
    simp only [F.f46_l2, nth_0, nth_1, nth_2, nth_3, nth_4, nth_5, hxl, i64_lss, hjl', decide_true, hadd, p1, load1_ptr, p3, q1, q3', hjj, tk_eq, opt_some, ifB_true]
    refine hX hjl _ _ ⟨rfl, q5.ext e4 fun b hb => f3 b (mem_blkL.1 hb), q4⟩
  · have hjl' : ¬ (j : Int) < x.length := by omega
    have hje : j = x.length := by omega
    have hD : byteR ((fun z : Nd => { z with data := writeL z.data at_ x }) (T.node n)).data = byteR (spliceB e at_ (x.take j)) := by
      show byteR (writeL (T.node n).data at_ x) = _
      rw [hw, hje, List.take_length]
    obtain ⟨H5, s5, u5⟩ := h.newD (v' := v) hlt hy hp (fun z => { z with data := writeL z.data at_ x }) (fun _ => rfl) e4 (by rw [hD]; exact g4) f3 rfl
    have h5 := u5.ref h
    have hh5 := h5.head
    obtain ⟨H6, s6, u6⟩ := h5.tick
    have hcc : (T.upd n (fun z => { z with data := writeL z.data at_ x })).change = T.change := rfl
    rw [hcc] at s6 hh5
    simp only [F.f46_l2, nth_0, nth_1, nth_2, nth_3, nth_4, nth_5, hxl, i64_lss, hjl', decide_false, nilCk_p, addOff_ptr, s5, load1_ptr, hh5, cell_cells_z, Nat.zero_add, TreeI.at4, i64_add (a := T.change) (b := 1) (by omega) (by omega), s6, tk_eq, opt_some, ifB_false]
    exact hQ _ _ (u5.trans u6)
theorem S.f46 (hE : Fold E) (h : RefT H t nv mv nx mr Y T) (n : BitVec 16) (at_ : Int) (xv : Value) (x : List (BitVec 8)) (hx : Rows H 1 xv (byteR x)) (hxl : x.length < 2 ^ 62) (hc : -9223372036854775808 ≤ T.change ∧ T.change < 9223372036854775807) (hdl : (T.node n).data.length < 2 ^ 39)
    (hQ : ∀ Y' H', UpdR t nv mv nx mr Y T nv Y' (T.write n at_ x).1 H H' → Q (vi (T.write n at_ x).2) H') : E.call (E.fid i.f46) [ptr t 0, vi (n.toNat : Int), vi at_, xv] H Q := by
  apply hE.f46
  simp only [F.f46]
  refine S.f44 hE h n fun b o y H1 e1 hn hat => ?_
  obtain ⟨c0, c1, _⟩ := hn.cell
  have k1 := kind1 (T.node n).kind
  have k2 := kind2 (T.node n).kind
  have k0 := kind0 (T.node n).kind
  unfold Tr.write at hQ
  by_cases g0 : (T.node n).kind = 0#8
  · simp [g0] at hQ
    simp only [nilCk_p, addOff_ptr, load1_ptr, Nat.add_zero, c0, i64_eql, k0, eq_true g0, decide_true, tk_eq, opt_some, ifB_true]
    exact hQ _ _ (h.same e1)
  have hlt := node_kind_lt g0
  obtain ⟨rfl, hy, hp⟩ := hat hlt
  by_cases g2 : (T.node n).kind = 2#8
  · simp [g2] at hQ
    simp only [nilCk_p, addOff_ptr, load1_ptr, Nat.add_zero, c0, i64_eql, k0, k2, eq_false g0, eq_true g2, decide_true, decide_false, tk_eq, opt_some, ifB_true, ifB_false]
    exact hQ _ _ (h.same e1)
  by_cases g1 : (T.node n).kind = 1#8
  rotate_left
  · simp [g0, g2, g1] at hQ
    simp only [nilCk_p, addOff_ptr, load1_ptr, Nat.add_zero, c0, i64_eql, i64_neq, ne_eq, k0, k1, k2, eq_false g0, eq_false g2, eq_false g1, not_false_eq_true, decide_true, decide_false, gd_tf, pick_true_z, tk_eq, opt_some, ifB_true, ifB_false]
    exact hQ _ _ (h.same e1)
  by_cases g3 : at_ < 0
  · simp [g0, g2, g1, g3] at hQ
    simp only [nilCk_p, addOff_ptr, load1_ptr, Nat.add_zero, c0, i64_eql, i64_neq, ne_eq, k0, k1, k2, eq_false g0, eq_false g2, eq_true g1, not_true, i64_lss, g3, decide_true, decide_false, gd_ff, pick_true_z, pick_false_z, tk_eq, opt_some, ifB_true, ifB_false]
    exact hQ _ _ (h.same e1)
  by_cases g4 : 1024 < at_
  · simp [g0, g2, g1, g3, g4] at hQ
    simp only [nilCk_p, addOff_ptr, load1_ptr, Nat.add_zero, c0, i64_eql, i64_neq, i64_gtr, gt_iff_lt, ne_eq, k0, k1, k2, eq_false g0, eq_false g2, eq_true g1, not_true, i64_lss, g3, g4, decide_true, decide_false, gd_tf, gd_ff, pick_true_z, pick_false_z, tk_eq, opt_some, ifB_true, ifB_false]
    exact hQ _ _ (h.same e1)
  have hxs := hx.lenSlc
  rw [byteR_length] at hxs
  have hadd : binInt .add (vi at_) (vi x.length) = some (vi (at_ + x.length)) := i64_add (by omega) (by omega)
  by_cases g5 : 1024 < at_ + (x.length : Int)
  · simp [g0, g2, g1, g3, g4, g5] at hQ
    simp only [nilCk_p, addOff_ptr, load1_ptr, Nat.add_zero, c0, i64_eql, i64_neq, i64_gtr, gt_iff_lt, ne_eq, k0, k1, k2, eq_false g0, eq_false g2, eq_true g1, not_true, i64_lss, g3, g4, hxs, hadd, g5, decide_true, decide_false, gd_ff, pick_true_z, pick_false_z, tk_eq, opt_some, ifB_true, ifB_false]
    exact hQ _ _ (h.same e1)
  simp [g0, g2, g1, g3, g4, g5] at hQ
  have hb0 : buildS 0 1 #[(.int .u8 0)] [] = some (.cells [] none, mkSlc 0 0) := buildS0 1 [u8 0#8] rfl
  have e9 : Ext H1 (H1.new (.cells [] none)) := (Ext.refl H1).new _
  have gr9 : Grow zH (H1.new (.cells [] none)) 1 (slc H1.next 0 0 0) [] := Grow.room (zH_get _) (AH.get_new_self _ _) rfl
  have c1' : ((H1.new (.cells [] none)).get b).cell (o + 1) = some y.data := by
    rw [AH.get_new_lt _ _ (AH.lt_of_get (row_notdead hn.1))]
    exact c1
  simp only [nilCk_p, addOff_ptr, load1_ptr, Nat.add_zero, c0, i64_eql, i64_neq, i64_gtr, gt_iff_lt, ne_eq, k0, k1, k2, eq_false g0, eq_false g2, eq_true g1, not_true, i64_lss, g3, g4, hxs, hadd, g5, decide_false, gd_ff, pick_true_z, pick_false_z, hb0, AM.mk_some, mkSlc_eq, c1', tk_eq, opt_some, ifB_false]
  obtain ⟨v18, H11, a1, a2, a3⟩ := gr9.app (bytes := 1) (Nat.zero_le _) (hn.2.1.mono e9) (byteR_plain _) (by decide) (by decide) (by simp [byteR_length]; omega) (by simp [byteR_length]; omega)
  obtain ⟨e11, f11⟩ := grew_ext a3 e9 (fun b hb => by simp [blk] at hb; omega)
  have a1' : app 1 1 (slc H1.next 0 0 0) y.data (H1.new (.cells [] none)) = some (v18, H11) := a1
  simp only [a1', opt2_some, tk_eq]
  obtain ⟨sz, rfl⟩ : ∃ sz : Nat, at_ = sz := ⟨at_.toNat, by omega⟩
  rw [List.nil_append] at a2
  have hb1 : buildS 1 1 #[(.int .u8 0)] [(0, (.int .u8 0))] = some (.cells [u8 0#8] none, mkSlc 1 1) := buildS_one 1 [u8 0#8] [u8 0#8] rfl rfl
  have hw := @refT_write2 E H1 Q t nv mv nx mr Y T h n hlt y b o hy hp sz xv x hx hc (by omega)
  generalize hD : (T.node n).data = D at *
  refine LoopL.ind (fun j ls H' => ∃ v, ∃ k : Nat, ls = [ptr t 0, vi sz, xv, ptr b o, v] ∧ Ext H1 H' ∧ FreshV H1.next v ∧ Grow zH H' 1 v (byteR (D ++ List.replicate k 0#8)) ∧ (k = 0 ∨ D.length + k ≤ sz + x.length) ∧ j = sz + x.length - (D.length + k)) ?_ (sz + x.length - D.length) ⟨v18, 0, rfl, e11, f11, by simpa using a2, .inl rfl, by omega⟩
  rintro j _ H3 X hX ⟨v, k, rfl, e3, f3, g6, hk, rfl⟩
  have hlv := g6.toRows.lenSlc
  rw [byteR_length, List.length_append, List.length_replicate] at hlv
  have hxs3 := (hx.mono e3).lenSlc
  rw [byteR_length] at hxs3
  by_cases hlt2 : D.length + k < sz + x.length
  · have hlt2' : ((D.length + k : Nat) : Int) < (sz : Int) + x.length := by omega
    obtain ⟨v', H4, b1, b2, b3, b4⟩ := zero_more g6 e3 f3 (by simp; omega)
    simp only [F.f46_l1, nth_0, nth_1, nth_2, nth_3, nth_4, hlv, hxs, hadd, i64_lss, hlt2', decide_true, hb1, AM.mk_some, mkSlc_eq, b1, opt2_some, tk_eq, opt_some, ifB_true]
    refine hX (sz + x.length - (D.length + (k + 1))) (by omega) _ _ ⟨v', k + 1, rfl, b3, b4, ?_, .inr (by omega), rfl⟩
    rw [List.replicate_succ', ← List.append_assoc]
    exact b2
  · have hlt2' : ¬ ((D.length + k : Nat) : Int) < (sz : Int) + x.length := by omega
    have hk' : k = sz + x.length - D.length := by rcases hk with rfl | hk <;> omega
    have := hw (D ++ List.replicate k 0#8) (by simp; omega) (by unfold writeL spliceB; rw [hk']) v H3 e3 f3 g6 hQ
    simp only [F.f46_l1, nth_0, nth_1, nth_2, nth_3, nth_4, hlv, hxs, hadd, i64_lss, hlt2', decide_false, tk_eq, opt_some, ifB_false]
    exact this
end
end Go.AM
end
section
namespace Go.AM
def Rising (l : List (NameL × BitVec 16)) : Prop := l.Pairwise fun a b => a.1 < b.1
theorem name_lt_trans {a b c : NameL} (h : a < b) (h' : b < c) : a < c := List.lt_trans h h'
theorem name_lt_irrefl (a : NameL) : ¬ a < a := List.lt_irrefl a
theorem name_tri {a b : NameL} (h : ¬ a < b) (h' : ¬ b < a) : a = b := List.le_antisymm h' h
theorem Rising.nodup {l : List (NameL × BitVec 16)} (h : Rising l) : (l.map Prod.fst).Nodup := by
  unfold List.Nodup
  rw [List.pairwise_map]
  exact h.imp fun {a b} hab e => by rw [e] at hab; exact name_lt_irrefl _ hab
theorem mem_insertE {x y : NameL × BitVec 16} : ∀ {l : List (NameL × BitVec 16)}, y ∈ insertE x l ↔ y = x ∨ y ∈ l := fun {l} => by
  rw [(insertE_perm x l).mem_iff, List.mem_cons]
theorem Rising.insert {x : NameL × BitVec 16} : ∀ {l : List (NameL × BitVec 16)}, Rising l → alook x.1 l = none → Rising (insertE x l)
  | [], _, _ => List.pairwise_singleton _ _
  | y :: l, h, hn => by
    have hy := List.pairwise_cons.1 h
    rw [alook_cons] at hn
    have hne : ¬ x.1 = y.1 := by intro e; rw [if_pos e] at hn; simp at hn
    rw [if_neg hne] at hn
    simp only [insertE, bytesLess_dec]
    by_cases hlt : y.1 < x.1
    · rw [if_pos (by simpa using hlt)]
      refine List.pairwise_cons.2 ⟨fun z hz => ?_, Rising.insert hy.2 hn⟩
      rcases mem_insertE.1 hz with rfl | hz
      · exact hlt
      · exact hy.1 z hz
    · rw [if_neg (by simpa using hlt)]
      have hxy : x.1 < y.1 := by
        refine Classical.byContradiction fun hc => hne (name_tri hc hlt)
      refine List.pairwise_cons.2 ⟨fun z hz => ?_, h⟩
      rcases List.mem_cons.1 hz with rfl | hz
      · exact hxy
      · exact name_lt_trans hxy (hy.1 z hz)
theorem Rising.del {s : NameL} {l : List (NameL × BitVec 16)} (h : Rising l) : Rising (adel s l) := h.sublist (adel_sub s l)
theorem alook_mem {s : NameL} {k : BitVec 16} : ∀ {l : List (NameL × BitVec 16)}, alook s l = some k → (s, k) ∈ l
  | [], h => by simp [alook] at h
  | e :: l, h => by
    rw [alook_cons] at h
    by_cases he : s = e.1
    · rw [if_pos he] at h
      have := Option.some.inj h
      subst he; subst this
      exact List.mem_cons_self
    · rw [if_neg he] at h
      exact List.mem_cons_of_mem _ (alook_mem h)
theorem alook_of_mem {s : NameL} {k : BitVec 16} : ∀ {l : List (NameL × BitVec 16)}, (l.map Prod.fst).Nodup → (s, k) ∈ l → alook s l = some k
  | [], _, h => by simp at h
  | e :: l, hn, h => by
    rw [List.map_cons, List.nodup_cons] at hn
    rw [alook_cons]
    rcases List.mem_cons.1 h with rfl | h
    · rw [if_pos rfl]
    · rw [if_neg, alook_of_mem hn.2 h]
      rintro rfl
      exact hn.1 (List.mem_map.2 ⟨_, h, rfl⟩)
def cntE (k : BitVec 16) (l : List (NameL × BitVec 16)) : Nat := l.countP fun e => decide (e.2 = k)
def Tr.refs (T : Tr) (k : BitVec 16) : Nat := (T.N.map fun x => cntE k x.ents).sum
theorem cntE_insert (k : BitVec 16) (x : NameL × BitVec 16) (l : List (NameL × BitVec 16)) : cntE k (insertE x l) = cntE k l + if x.2 = k then 1 else 0 := by
  unfold cntE
  rw [(insertE_perm x l).countP_eq, List.countP_cons]
  simp
theorem cntE_del (k : BitVec 16) {s : NameL} {v : BitVec 16} : ∀ {l : List (NameL × BitVec 16)}, alook s l = some v → cntE k (adel s l) + (if v = k then 1 else 0) = cntE k l
  | [], h => by simp [alook] at h
  | e :: l, h => by
    rw [alook_cons] at h
    by_cases he : s = e.1
    · rw [if_pos he] at h
      have := Option.some.inj h
      subst he; subst this
      simp [adel, cntE, List.countP_cons]
    · rw [if_neg he] at h
      have ih := cntE_del k h
      have he' : ¬ e.1 = s := fun x => he x.symm
      simp only [adel, if_neg he', cntE, List.countP_cons] at ih ⊢
      omega
theorem cntE_pos {k : BitVec 16} {l : List (NameL × BitVec 16)} (h : 0 < cntE k l) : ∃ s, (s, k) ∈ l := by
  obtain ⟨e, he, hk⟩ := List.countP_pos_iff.1 h
  refine ⟨e.1, ?_⟩
  have : e.2 = k := by simpa using hk
  rw [← this]; exact he
theorem cntE_le {k : BitVec 16} {l : List (NameL × BitVec 16)} : cntE k l ≤ l.length := List.countP_le_length
theorem cntE_one {k : BitVec 16} {s : NameL} {l : List (NameL × BitVec 16)} (h : (s, k) ∈ l) : 1 ≤ cntE k l := List.countP_pos_iff.2 ⟨_, h, by simp⟩
theorem sum_modify (g : Nd → Nat) (f : Nd → Nd) : ∀ (N : List Nd) (i : Nat) (x : Nd), N[i]? = some x → ((N.modify i f).map g).sum + g x = (N.map g).sum + g (f x)
  | [], i, x, h => by simp at h
  | y :: N, 0, x, h => by
    simp at h; subst h
    simp; omega
  | y :: N, i + 1, x, h => by
    have := sum_modify g f N i x (by simpa using h)
    simp at this ⊢; omega
theorem sum_one (g : Nd → Nat) : ∀ {N : List Nd} {x : Nd}, x ∈ N → g x ≤ (N.map g).sum
  | [], _, h => by simp at h
  | y :: N, x, h => by
    rcases List.mem_cons.1 h with rfl | h
    · simp
    · have := sum_one g h
      simp; omega
theorem sum_pos (g : Nd → Nat) : ∀ {N : List Nd}, 0 < (N.map g).sum → ∃ (i : Nat) (x : Nd), N[i]? = some x ∧ 0 < g x
  | [], h => by simp at h
  | y :: N, h => by
    by_cases hy : 0 < g y
    · exact ⟨0, y, rfl, hy⟩
    · obtain ⟨i, x, h1, h2⟩ := sum_pos g (N := N) (by simp at h; omega)
      exact ⟨i + 1, x, by simpa using h1, h2⟩
section
variable {T T' : Tr}
theorem Tr.node_get' {n : BitVec 16} (h : n.toNat < T.N.length) : T.N[n.toNat]? = some (T.node n) := by
  simp [Tr.node, List.getD_eq_getElem?_getD, h]
theorem Tr.refs_upd {n : BitVec 16} (hn : n.toNat < T.N.length) (f : Nd → Nd) (k : BitVec 16) : (T.upd n f).refs k + cntE k (T.node n).ents = T.refs k + cntE k (f (T.node n)).ents :=
  sum_modify (fun x => cntE k x.ents) f T.N n.toNat (T.node n) (Tr.node_get' hn)
theorem Tr.refs_upd_same {n : BitVec 16} (hn : n.toNat < T.N.length) {f : Nd → Nd} (k : BitVec 16) (hf : (f (T.node n)).ents = (T.node n).ents) : (T.upd n f).refs k = T.refs k := by
  have := Tr.refs_upd hn f k
  rw [hf] at this; omega
theorem Tr.refs_one {n k : BitVec 16} {s : NameL} (h : (s, k) ∈ (T.node n).ents) : 1 ≤ T.refs k := by
  have hn : n.toNat < T.N.length := by
    by_cases hn : n.toNat < T.N.length
    · exact hn
    · simp only [Tr.node, List.getD_eq_getElem?_getD] at h
      rw [List.getElem?_eq_none (by omega)] at h
      simp [Nd.none] at h
  exact Nat.le_trans (cntE_one h) (sum_one (fun x => cntE k x.ents) (List.mem_of_getElem? (Tr.node_get' hn)))
theorem Tr.refs_pos {k : BitVec 16} (hl : T.N.length ≤ 65536) (h : 0 < T.refs k) : ∃ n s, (s, k) ∈ (T.node n).ents := by
  obtain ⟨i, x, h1, h2⟩ := sum_pos (fun x => cntE k x.ents) h
  obtain ⟨s, hs⟩ := cntE_pos h2
  obtain ⟨hi, hx⟩ := List.getElem?_eq_some_iff.1 h1
  refine ⟨BitVec.ofNat 16 i, s, ?_⟩
  have e : (BitVec.ofNat 16 i).toNat = i := by rw [BitVec.toNat_ofNat, Nat.mod_eq_of_lt (by omega)]
  have := Tr.node_get' (T := T) (n := BitVec.ofNat 16 i) (by rw [e]; exact hi)
  rw [e, h1] at this
  rw [← Option.some.inj this]
  exact hs
theorem Tr.refs_put {a : Nat} (x : Nd) (ha : a ≤ T.N.length) (hlt : a < 65536) (k : BitVec 16) (hz : (T.node (BitVec.ofNat 16 a)).ents = []) : (T.put a x).refs k = T.refs k + cntE k x.ents := by
  have e : (BitVec.ofNat 16 a).toNat = a := by rw [BitVec.toNat_ofNat, Nat.mod_eq_of_lt (by omega)]
  unfold Tr.put Tr.refs
  by_cases h : a < T.N.length
  · rw [if_pos h]
    have h1 := Tr.node_get' (T := T) (n := BitVec.ofNat 16 a) (by rw [e]; exact h)
    rw [e] at h1
    have := sum_modify (fun x => cntE k x.ents) (fun _ => x) T.N a _ h1
    have hm : T.N.modify a (fun _ => x) = T.N.set a x := by
      apply List.ext_getElem?
      intro i
      rw [List.getElem?_modify, List.getElem?_set]
      by_cases hi : a = i
      · subst hi; simp [h]
      · simp [hi]
    rw [hm, hz] at this
    simpa [cntE] using this
  · rw [if_neg h]
    simp
end
end Go.AM
end
section
namespace Go.AM
def Tr.rootIn (T : Tr) : Nat → BitVec 16 → Prop
  | 0, n => n = 1#16
  | f + 1, n => n = 1#16 ∨ ((T.node n).kind = 2#8 ∧ T.rootIn f (T.node n).parent)
structure Tr.WF (T : Tr) : Prop where
  lim : 1 ≤ T.limit ∧ T.limit ≤ 256
  len : 2 ≤ T.N.length ∧ (T.N.length : Int) ≤ T.limit + 1
  n0 : (T.node 0#16).kind = 0#8
  zero : ∀ n, (T.node n).kind = 0#8 → T.node n = Nd.none
  root : (T.node 1#16).kind = 2#8 ∧ (T.node 1#16).parent = 1#16 ∧ (T.node 1#16).links = 1
  ents : ∀ n s k, (s, k) ∈ (T.node n).ents → (T.node n).kind = 2#8 ∧ (T.node n).links ≠ 0 ∧ okName s = true ∧ (T.node k).kind ≠ 0#8 ∧ k ≠ 1#16 ∧ ((T.node k).kind = 2#8 → (T.node k).parent = n)
  rising : ∀ n, Rising (T.node n).ents
  size : ∀ n, (T.node n).ents.length ≤ 32
  links : ∀ n, n ≠ 1#16 → (T.node n).kind ≠ 0#8 → (T.node n).links = T.refs n
  dirs : ∀ n, (T.node n).kind = 2#8 → T.refs n ≤ 1
  held : ∀ n, 0 ≤ (T.node n).held
  depth : ∀ n, (T.node n).kind = 2#8 → (T.node n).links ≠ 0 → T.rootIn 16 n
  data : ∀ n, (T.node n).data.length ≤ 1024
section
variable {T T' : Tr} {n k : BitVec 16}
theorem Tr.rootIn_mono : ∀ {f : Nat} {n : BitVec 16}, T.rootIn f n → ∀ {g}, f ≤ g → T.rootIn g n
  | 0, n, h, 0, _ => h
  | 0, n, h, g + 1, _ => .inl h
  | f + 1, n, h, 0, hg => by omega
  | f + 1, n, h, g + 1, hg => h.imp id fun h => ⟨h.1, Tr.rootIn_mono h.2 (by omega)⟩
theorem Tr.deepF_root : ∀ {f : Nat} {n : BitVec 16}, T.rootIn f n → ∀ {g}, f ≤ g → T.deepF g n = T.deepF f n
  | 0, n, h, 0, _ => rfl
  | 0, n, h, g + 1, _ => by
    have : n = 1#16 := h
    simp [Tr.deepF, this]
  | f + 1, n, h, 0, hg => by omega
  | f + 1, n, h, g + 1, hg => by
    simp only [Tr.deepF]
    split
    · rfl
    · rename_i hn
      rcases h with h | h
      · exact (hn h).elim
      · rw [Tr.deepF_root h.2 (g := g) (by omega)]
theorem Tr.rootIn_deep : ∀ {f : Nat} {n : BitVec 16}, T.rootIn f n → T.rootIn (T.deepF f n) n
  | 0, n, h => h
  | f + 1, n, h => by
    simp only [Tr.deepF]
    split
    · assumption
    · rename_i hn
      rcases h with h | h
      · exact (hn h).elim
      · exact .inr ⟨h.1, Tr.rootIn_deep h.2⟩
theorem Tr.deepF_le' (T : Tr) : ∀ (f : Nat) (n : BitVec 16), T.deepF f n ≤ f
  | 0, _ => Nat.le_refl _
  | f + 1, n => by
    have := Tr.deepF_le' T f (T.node n).parent
    simp only [Tr.deepF]
    split <;> omega
theorem Tr.rootIn_chain (hr : (T.node 1#16).kind ≠ 0#8) : ∀ {f : Nat} {n : BitVec 16}, T.rootIn f n → ∀ g, T.chainOk g n
  | _, _, _, 0 => trivial
  | 0, n, h, g + 1 => .inl h
  | f + 1, n, h, g + 1 => h.imp id fun h => ⟨by rw [h.1]; decide, Tr.rootIn_chain hr h.2 g⟩
theorem Tr.withinF_root (hk : (T.node 1#16).kind = 2#8) (hp : (T.node 1#16).parent = 1#16) (o : BitVec 16) : ∀ {f : Nat} {n : BitVec 16}, T.rootIn f n → ∀ {g}, f < g → T.withinF o g n = T.withinF o (f + 1) n
  | _, _, _, 0, hg => by omega
  | 0, n, h, g + 1, _ => by
    have : n = 1#16 := h
    subst this
    simp [Tr.withinF, hk, hp]
  | f + 1, n, h, g + 1, hg => by
    by_cases h1 : n = 1#16
    · subst h1
      simp [Tr.withinF, hk, hp]
    · rcases h with h | h
      · exact (h1 h).elim
      · simp only [Tr.withinF]
        split
        · rfl
        · split
          · rfl
          · split
            · rfl
            · have := Tr.withinF_root hk hp o h.2 (g := g) (by omega)
              simpa only [Tr.withinF] using this
theorem Tr.rootIn_of (P : BitVec 16 → Prop) (hP : ∀ m, P m → m ≠ 1#16 → (T'.node m).kind = 2#8 ∧ (T'.node m).parent = (T.node m).parent ∧ P (T.node m).parent) : ∀ {f : Nat} {m : BitVec 16}, P m → T.rootIn f m → T'.rootIn f m
  | 0, m, _, h => h
  | f + 1, m, hm, h => by
    by_cases h1 : m = 1#16
    · exact .inl h1
    · rcases h with h | h
      · exact .inl h
      · obtain ⟨q1, q2, q3⟩ := hP m hm h1
        refine .inr ⟨q1, ?_⟩
        rw [q2]
        exact Tr.rootIn_of P hP q3 h.2
theorem Tr.WF.len16 (h : T.WF) : T.N.length ≤ 257 := by have := h.lim; have := h.len; omega
def Tr.Live (T : Tr) (n : BitVec 16) : Prop := (T.node n).kind = 2#8 ∧ (T.node n).links ≠ 0
theorem Tr.WF.above (h : T.WF) (hn : T.Live n) (h1 : n ≠ 1#16) : T.Live (T.node n).parent ∧ ∃ s, (s, n) ∈ (T.node (T.node n).parent).ents := by
  have hl := h.links n h1 (by rw [hn.1]; decide)
  obtain ⟨p, s, hs⟩ := Tr.refs_pos (T := T) (k := n) (by have := h.len16; omega) (by have := hn.2; omega)
  obtain ⟨e1, e2, e3, e4, e5, e6⟩ := h.ents p s n hs
  rw [e6 hn.1]
  exact ⟨⟨e1, e2⟩, s, hs⟩
theorem Tr.WF.live_of (h : T.WF) {s : NameL} (hs : (s, k) ∈ (T.node n).ents) (hk : (T.node k).kind = 2#8) : T.Live k := by
  obtain ⟨e1, e2, e3, e4, e5, e6⟩ := h.ents n s k hs
  refine ⟨hk, ?_⟩
  rw [h.links k e5 e4]
  have := Tr.refs_one hs
  omega
theorem Tr.WF.deep_le (h : T.WF) (hn : T.Live n) : T.deep n ≤ 16 := by
  unfold Tr.deep
  rw [Tr.deepF_root (h.depth n hn.1 hn.2) (g := 17) (by omega)]
  exact Tr.deepF_le' T 16 n
theorem Tr.WF.deep20 (h : T.WF) (hn : T.Live n) : T.deepF 20 n = T.deep n := by
  unfold Tr.deep
  rw [Tr.deepF_root (h.depth n hn.1 hn.2) (g := 20) (by omega), Tr.deepF_root (h.depth n hn.1 hn.2) (g := 17) (by omega)]
theorem Tr.WF.within20 (h : T.WF) (hn : T.Live n) (o : BitVec 16) : T.withinF o 20 n = T.within o n := by
  unfold Tr.within
  rw [Tr.withinF_root h.root.1 h.root.2.1 o (h.depth n hn.1 hn.2) (g := 20) (by omega), Tr.withinF_root h.root.1 h.root.2.1 o (h.depth n hn.1 hn.2) (g := 18) (by omega)]
theorem Tr.WF.chain (h : T.WF) (hn : T.Live n) (g : Nat) : T.chainOk g n := Tr.rootIn_chain (by rw [h.root.1]; decide) (h.depth n hn.1 hn.2) g
theorem Tr.WF.deep_succ (h : T.WF) (hn : T.Live n) (h1 : n ≠ 1#16) : T.deep n = T.deep (T.node n).parent + 1 := by
  have hp := (h.above hn h1).1
  unfold Tr.deep
  rw [Tr.deepF_root (h.depth _ hp.1 hp.2) (g := 17) (by omega)]
  simp only [Tr.deepF, if_neg h1]
theorem Tr.WF.fits (h : T.WF) : ∀ (f : Nat) (n : BitVec 16), T.Live n → 17 ≤ f + T.deep n → T.fitsF f n
  | 0, n, hn, hf => by have := h.deep_le hn; omega
  | f + 1, n, hn, hf => by
    refine ⟨hn.1, fun e he => ?_⟩
    obtain ⟨e1, e2, e3, e4, e5, e6⟩ := h.ents n e.1 e.2 he
    refine ⟨e4, fun hk => ?_⟩
    have hl := h.live_of he hk
    refine Tr.WF.fits h f e.2 hl ?_
    have := h.deep_succ hl e5
    rw [e6 hk] at this
    omega
theorem Tr.WF.fits17 (h : T.WF) (hn : T.Live n) : T.fitsF 17 n := h.fits 17 n hn (by omega)
theorem Tr.refs_le (h : ∀ n, (T.node n).ents.length ≤ 32) (hl : T.N.length ≤ 257) : T.refs k ≤ 8224 := by
  have : ∀ (N : List Nd), (∀ x ∈ N, x.ents.length ≤ 32) → (N.map fun x => cntE k x.ents).sum ≤ 32 * N.length := by
    intro N
    induction N with
    | nil => intro _; simp
    | cons y N ih =>
      intro hN
      have := ih fun x hx => hN x (by simp [hx])
      have h1 := hN y (by simp)
      have h2 : cntE k y.ents ≤ y.ents.length := cntE_le
      simp
      omega
  have h2 := this T.N fun x hx => by
    obtain ⟨i, hi, rfl⟩ := List.getElem_of_mem hx
    have e : (BitVec.ofNat 16 i).toNat = i := by rw [BitVec.toNat_ofNat, Nat.mod_eq_of_lt (by omega)]
    have h3 := Tr.node_get' (T := T) (n := BitVec.ofNat 16 i) (by rw [e]; exact hi)
    rw [e, List.getElem?_eq_getElem hi] at h3
    rw [Option.some.inj h3]
    exact h _
  unfold Tr.refs
  omega
theorem Tr.WF.links_bd (h : T.WF) (n : BitVec 16) : 0 ≤ (T.node n).links ∧ (T.node n).links ≤ 8224 := by
  by_cases h1 : n = 1#16
  · subst h1
    have := h.root.2.2
    omega
  by_cases h0 : (T.node n).kind = 0#8
  · rw [h.zero n h0]
    exact ⟨by decide, by decide⟩
  have := h.links n h1 h0
  have := Tr.refs_le (k := n) h.size h.len16
  omega
theorem Tr.WF.pos (h : T.WF) {s : NameL} {v : BitVec 16} (hl : alook s (T.node n).ents = some v) : (T.node n).kind = 2#8 ∧ (T.node n).links ≠ 0 ∧ okName s = true ∧ (T.node v).kind ≠ 0#8 ∧ v ≠ 1#16 ∧ ((T.node v).kind = 2#8 → (T.node v).parent = n) := h.ents n s v (alook_mem hl)
end
end Go.AM
end
section
namespace Go.AM
section
variable {T T' : Tr} {n k : BitVec 16}
theorem Tr.WF.same (h : T.WF) (hN : T'.N.length = T.N.length) (hlim : T'.limit = T.limit) (hr : ∀ k, T'.refs k = T.refs k)
    (hn : ∀ k, (T'.node k).kind = (T.node k).kind ∧ (T'.node k).ents = (T.node k).ents ∧ (T'.node k).parent = (T.node k).parent ∧ (T'.node k).links = (T.node k).links ∧ (T'.node k).data.length ≤ 1024 ∧ 0 ≤ (T'.node k).held ∧ ((T.node k).kind = 0#8 → T'.node k = T.node k)) : T'.WF where
  lim := by rw [hlim]; exact h.lim
  len := by rw [hN, hlim]; exact h.len
  n0 := by rw [(hn _).1]; exact h.n0
  zero := fun k hk => by rw [(hn k).1] at hk; rw [(hn k).2.2.2.2.2.2 hk]; exact h.zero k hk
  root := by obtain ⟨q1, q2, q3, q4, _⟩ := hn 1#16; rw [q1, q3, q4]; exact h.root
  ents := fun m s k hk => by
    rw [(hn m).2.1] at hk
    rw [(hn m).1, (hn m).2.2.2.1, (hn k).1, (hn k).2.2.1]
    exact h.ents m s k hk
  rising := fun k => by rw [(hn k).2.1]; exact h.rising k
  size := fun k => by rw [(hn k).2.1]; exact h.size k
  links := fun k h1 h2 => by rw [(hn k).1] at h2; rw [(hn k).2.2.2.1, hr]; exact h.links k h1 h2
  dirs := fun k h2 => by rw [(hn k).1] at h2; rw [hr]; exact h.dirs k h2
  held := fun k => (hn k).2.2.2.2.2.1
  depth := fun k h1 h2 => by
    rw [(hn k).1] at h1
    rw [(hn k).2.2.2.1] at h2
    exact Tr.rootIn_of T.Live (fun m hm h1 => ⟨by rw [(hn m).1]; exact hm.1, (hn m).2.2.1, (h.above hm h1).1⟩) ⟨h1, h2⟩ (h.depth k h1 h2)
  data := fun k => (hn k).2.2.2.2.1
theorem Tr.WF.plain (h : T.WF) (hk : (T.node n).kind ≠ 0#8) (f : Nd → Nd) (h1 : (f (T.node n)).kind = (T.node n).kind) (h2 : (f (T.node n)).ents = (T.node n).ents) (h3 : (f (T.node n)).parent = (T.node n).parent) (h4 : (f (T.node n)).links = (T.node n).links) (h5 : (f (T.node n)).data.length ≤ 1024) (h6 : 0 ≤ (f (T.node n)).held) : (T.upd n f).WF := by
  refine h.same (by simp [Tr.upd]) rfl (fun k => Tr.refs_upd_same (Tr.node_lt hk) k h2) fun k => ?_
  rw [Tr.node_upd hk]
  split
  · rename_i e
    subst e
    exact ⟨h1, h2, h3, h4, h5, h6, fun e => (hk e).elim⟩
  · exact ⟨rfl, rfl, rfl, rfl, h.data k, h.held k, fun _ => rfl⟩
theorem Tr.WF.bump (h : T.WF) : T.bump.WF := h.same rfl rfl (fun _ => rfl) fun k => ⟨rfl, rfl, rfl, rfl, h.data k, h.held k, fun _ => rfl⟩
theorem writeL_length (d : List (BitVec 8)) (a : Nat) (b : List (BitVec 8)) (h : d.length ≤ 1024) (hb : a + b.length ≤ 1024) : (writeL d a b).length ≤ 1024 := by
  simp [writeL]; omega
theorem cutL_length (d : List (BitVec 8)) (n : Nat) (h : n ≤ 1024) : (cutL d n).length ≤ 1024 := by
  simp [cutL]; omega
theorem Tr.WF.write (h : T.WF) (n : BitVec 16) (at_ : Int) (b : List (BitVec 8)) : (T.write n at_ b).1.WF := by
  unfold Tr.write
  repeat' split
  all_goals try exact h
  rename_i h0 _ _ h1
  exact (h.plain h0 _ rfl rfl rfl rfl (writeL_length _ _ _ (h.data n) (by omega)) (h.held n)).bump
theorem Tr.WF.cut (h : T.WF) (n : BitVec 16) (size : Int) : (T.cut n size).1.WF := by
  unfold Tr.cut
  repeat' split
  all_goals try exact h
  rename_i h0 _ _ h1
  exact (h.plain h0 _ rfl rfl rfl rfl (cutL_length _ _ (by omega)) (h.held n)).bump
theorem Tr.WF.no_self (h : T.WF) {s : NameL} : (s, n) ∉ (T.node n).ents := by
  intro hs
  obtain ⟨e1, e2, e3, e4, e5, e6⟩ := h.ents n s n hs
  have := h.deep_succ ⟨e1, e2⟩ e5
  rw [e6 e1] at this
  omega
theorem Tr.WF.empty (h : T.WF) (hl : (T.node n).links = 0) : (T.node n).ents = [] := by
  cases he : (T.node n).ents with
  | nil => rfl
  | cons e l =>
    have := (h.ents n e.1 e.2 (by rw [he]; exact List.mem_cons_self)).2.1
    exact (this hl).elim
theorem Tr.WF.tidy (h : T.WF) (n : BitVec 16) (hk : (T.node n).kind ≠ 0#8) : (T.tidy n).WF := by
  unfold Tr.tidy
  split
  rotate_left
  · exact h
  rename_i hc
  have n1 : n ≠ 1#16 := by
    rintro rfl
    have := h.root.2.2
    omega
  have hr0 : T.refs n = 0 := by have := h.links n n1 hk; omega
  have hent := h.empty hc.1
  have hnode := fun k => Tr.node_upd hk (fun _ => Nd.none) k
  have hr : ∀ k, (T.upd n fun _ => Nd.none).refs k = T.refs k := fun k => Tr.refs_upd_same (Tr.node_lt hk) k hent.symm
  have ne : ∀ m s k, (s, k) ∈ (T.node m).ents → k ≠ n ∧ m ≠ n := by
    intro m s k hs
    refine ⟨fun e => ?_, fun e => ?_⟩
    · have := Tr.refs_one hs
      rw [e] at this; omega
    · rw [e, hent] at hs; simp at hs
  refine ⟨h.lim, by simpa [Tr.upd] using h.len, ?_, fun k hk' => ?_, ?_, fun m s k hs => ?_, fun k => ?_, fun k => ?_, fun k h1 h2 => ?_, fun k h2 => ?_, fun k => ?_, fun k h1 h2 => ?_, fun k => ?_⟩
  · rw [hnode]; split
    · rfl
    · exact h.n0
  · rw [hnode] at hk' ⊢
    split at hk'
    · rename_i e
      rw [if_pos e]
    · rename_i e
      rw [if_neg e]
      exact h.zero k hk'
  · rw [hnode, if_neg (Ne.symm n1)]; exact h.root
  · rw [hnode] at hs
    split at hs
    · simp [Nd.none] at hs
    · obtain ⟨g1, g2⟩ := ne m s k hs
      rw [hnode, if_neg g2, hnode, if_neg g1]
      exact h.ents m s k hs
  · rw [hnode]; split
    · exact List.Pairwise.nil
    · exact h.rising k
  · rw [hnode]; split
    · exact Nat.zero_le _
    · exact h.size k
  · rw [hnode] at h2 ⊢
    split at h2
    · simp [Nd.none] at h2
    · rw [if_neg (by assumption), hr]; exact h.links k h1 h2
  · rw [hnode] at h2
    split at h2
    · simp [Nd.none] at h2
    · rw [hr]; exact h.dirs k h2
  · rw [hnode]; split
    · exact Int.le_refl _
    · exact h.held k
  · rw [hnode] at h1 h2
    split at h1
    · simp [Nd.none] at h1
    · rw [if_neg (by assumption)] at h2
      refine Tr.rootIn_of T.Live (fun m hm hm1 => ?_) ⟨h1, h2⟩ (h.depth k h1 h2)
      have : m ≠ n := by rintro rfl; exact hm.2 hc.1
      rw [hnode, if_neg this]
      exact ⟨hm.1, rfl, (h.above hm hm1).1⟩
  · rw [hnode]; split
    · exact Nat.zero_le _
    · exact h.data k
theorem Tr.WF.hold (h : T.WF) (n : BitVec 16) (more : Bool) : (T.hold n more).1.WF := by
  unfold Tr.hold
  split
  · exact h
  · rename_i h0
    split
    · exact h.plain h0 _ rfl rfl rfl rfl (h.data n) (by have := h.held n; show 0 ≤ (T.node n).held + 1; omega)
    · split
      · exact h
      · rename_i h1
        have hw : (T.upd n (Nd.addH (-1))).WF := h.plain h0 _ rfl rfl rfl rfl (h.data n) (by have := h.held n; show 0 ≤ (T.node n).held + -1; omega)
        refine hw.tidy n ?_
        rw [Tr.node_upd h0, if_pos rfl]
        exact h0
theorem Tr.WF.keep (h : T.WF) (hN : T'.N.length = T.N.length) (hlim : T'.limit = T.limit)
    (hk : ∀ k, (T'.node k).kind = (T.node k).kind ∧ (T'.node k).parent = (T.node k).parent ∧ (T'.node k).data = (T.node k).data ∧ (T'.node k).held = (T.node k).held ∧ ((T.node k).kind = 0#8 → T'.node k = T.node k)) (hroot : (T'.node 1#16).links = 1)
    (hents : ∀ m s k, (s, k) ∈ (T'.node m).ents → (T.node m).kind = 2#8 ∧ (T'.node m).links ≠ 0 ∧ okName s = true ∧ (T.node k).kind ≠ 0#8 ∧ k ≠ 1#16 ∧ ((T.node k).kind = 2#8 → (T.node k).parent = m))
    (hris : ∀ k, Rising (T'.node k).ents) (hsize : ∀ k, (T'.node k).ents.length ≤ 32) (hlinks : ∀ k, k ≠ 1#16 → (T.node k).kind ≠ 0#8 → (T'.node k).links = T'.refs k) (hdirs : ∀ k, (T.node k).kind = 2#8 → T'.refs k ≤ 1)
    (hlive : ∀ k, (T.node k).kind = 2#8 → (T'.node k).links ≠ 0 → (T.node k).links ≠ 0) : T'.WF where
  lim := by rw [hlim]; exact h.lim
  len := by rw [hN, hlim]; exact h.len
  n0 := by rw [(hk _).1]; exact h.n0
  zero := fun k h0 => by rw [(hk k).1] at h0; rw [(hk k).2.2.2.2 h0]; exact h.zero k h0
  root := ⟨by rw [(hk _).1]; exact h.root.1, by rw [(hk _).2.1]; exact h.root.2.1, hroot⟩
  ents := fun m s k hs => by
    rw [(hk m).1, (hk k).1, (hk k).2.1]
    exact hents m s k hs
  rising := hris
  size := hsize
  links := fun k h1 h2 => by rw [(hk k).1] at h2; exact hlinks k h1 h2
  dirs := fun k h2 => by rw [(hk k).1] at h2; exact hdirs k h2
  held := fun k => by rw [(hk k).2.2.2.1]; exact h.held k
  depth := fun k h1 h2 => by
    rw [(hk k).1] at h1
    have h2' := hlive k h1 h2
    exact Tr.rootIn_of T.Live (fun m hm hm1 => ⟨by rw [(hk m).1]; exact hm.1, (hk m).2.1, (h.above hm hm1).1⟩) ⟨h1, h2'⟩ (h.depth k h1 h2')
  data := fun k => by rw [(hk k).2.2.1]; exact h.data k
theorem insertE_length (x : NameL × BitVec 16) (l : List (NameL × BitVec 16)) : (insertE x l).length = l.length + 1 := by
  rw [(insertE_perm x l).length_eq]; rfl
theorem Tr.WF.add (h : T.WF) (inn : BitVec 16) (s : NameL) (v : BitVec 16) : (T.add inn s v).1.WF := by
  unfold Tr.add
  split
  · exact h
  split
  · exact h
  split
  · exact h
  split
  · exact h
  split
  · exact h
  rename_i h0 h2 hr hl hb
  have hr : T.room inn s = 0 := by simpa using hr
  obtain ⟨d1, d2, d3, d4, d5⟩ := Tr.room_ok hr
  have hin : (T.node inn).kind ≠ 0#8 := by rw [d1]; decide
  have hvi : v ≠ inn := by rintro rfl; exact h2 d1
  have hn1 := fun k => Tr.node_upd hin (Nd.addE s v) k
  have hv1 : ((T.upd inn (Nd.addE s v)).node v) = T.node v := by rw [hn1, if_neg hvi]
  have hnode := fun k => Tr.node_upd (T := T.upd inn (Nd.addE s v)) (n := v) (by rw [hv1]; exact h0) (Nd.addL 1) k
  rw [hv1] at hnode
  simp only [hn1] at hnode
  have hrf : ∀ k, ((T.upd inn (Nd.addE s v)).upd v (Nd.addL 1)).refs k = T.refs k + if v = k then 1 else 0 := by
    intro k
    rw [Tr.refs_upd_same (Tr.node_lt (by rw [hv1]; exact h0)) k rfl]
    have := Tr.refs_upd (Tr.node_lt hin) (Nd.addE s v) k
    have e : cntE k (Nd.addE s v (T.node inn)).ents = cntE k (T.node inn).ents + if v = k then 1 else 0 := cntE_insert k (s, v) _
    rw [e] at this
    omega
  have v1 : v ≠ 1#16 := by rintro rfl; exact h2 h.root.1
  refine Tr.WF.bump (h.keep (by simp [Tr.upd]) rfl (fun k => ?_) ?_ (fun m s' k hs => ?_) (fun k => ?_) (fun k => ?_) (fun k h1 h0' => ?_) (fun k hk => ?_) (fun k hk hl' => ?_))
  · rw [hnode]
    split
    · rename_i e; subst e
      exact ⟨rfl, rfl, rfl, rfl, fun e => (h0 e).elim⟩
    · split
      · rename_i e; subst e
        exact ⟨rfl, rfl, rfl, rfl, fun e => (hin e).elim⟩
      · exact ⟨rfl, rfl, rfl, rfl, fun _ => rfl⟩
  · rw [hnode, if_neg (Ne.symm v1)]
    split
    · rename_i e; show (T.node inn).links = 1; rw [← e]; exact h.root.2.2
    · exact h.root.2.2
  · rw [hnode] at hs ⊢
    split at hs
    · rename_i e; subst e
      exact (h2 (h.ents m s' k hs).1).elim
    · rename_i e
      rw [if_neg e]
      split at hs
      · rename_i e2; subst e2
        rw [if_pos rfl]
        rcases mem_insertE.1 hs with g | g
        · simp only [Prod.mk.injEq] at g
          obtain ⟨rfl, rfl⟩ := g
          exact ⟨d1, d3, d4, h0, v1, fun e => (h2 e).elim⟩
        · exact h.ents m s' k g
      · rename_i e2
        rw [if_neg e2]
        exact h.ents m s' k hs
  · rw [hnode]
    split
    · exact h.rising v
    · split
      · exact (h.rising inn).insert d2
      · exact h.rising k
  · rw [hnode]
    split
    · exact h.size v
    · split
      · show (insertE (s, v) (T.node inn).ents).length ≤ 32
        rw [insertE_length]; omega
      · exact h.size k
  · rw [hnode, hrf]
    split
    · rename_i e; subst e
      have := h.links k h1 h0'
      show (T.node k).links + 1 = _
      rw [this]; simp
    · rename_i e
      rw [if_neg (show ¬ v = k from fun x => e x.symm)]
      split
      · rename_i e2; subst e2; exact h.links k h1 h0'
      · exact h.links k h1 h0'
  · rw [hrf, if_neg (by rintro rfl; exact h2 hk)]
    exact h.dirs k hk
  · rw [hnode, if_neg (by rintro rfl; exact h2 hk)] at hl'
    split at hl'
    · rename_i e; subst e; exact hl'
    · exact hl'
theorem Tr.WF.less (h : T.WF) (inn : BitVec 16) (s : NameL) (v : BitVec 16) (hl : alook s (T.node inn).ents = some v) (hemp : (T.node v).kind = 2#8 → (T.node v).ents = []) : ((T.upd inn (Nd.delE s)).upd v (Nd.addL (-1))).WF := by
  have hm := alook_mem hl
  obtain ⟨e1, e2, e3, h0, v1, e6⟩ := h.ents inn s v hm
  have hin : (T.node inn).kind ≠ 0#8 := by rw [e1]; decide
  have hvi : v ≠ inn := by rintro rfl; exact h.no_self hm
  have hn1 := fun k => Tr.node_upd hin (Nd.delE s) k
  have hv1 : ((T.upd inn (Nd.delE s)).node v) = T.node v := by rw [hn1, if_neg hvi]
  have hnode := fun k => Tr.node_upd (T := T.upd inn (Nd.delE s)) (n := v) (by rw [hv1]; exact h0) (Nd.addL (-1)) k
  rw [hv1] at hnode
  simp only [hn1] at hnode
  have hrf : ∀ k, ((T.upd inn (Nd.delE s)).upd v (Nd.addL (-1))).refs k + (if v = k then 1 else 0) = T.refs k := by
    intro k
    rw [Tr.refs_upd_same (Tr.node_lt (by rw [hv1]; exact h0)) k rfl]
    have := Tr.refs_upd (Tr.node_lt hin) (Nd.delE s) k
    have e : cntE k (Nd.delE s (T.node inn)).ents + (if v = k then 1 else 0) = cntE k (T.node inn).ents := cntE_del k hl
    omega
  have hsub : ∀ x, x ∈ (Nd.delE s (T.node inn)).ents → x ∈ (T.node inn).ents := fun x hx => (adel_sub s _).subset hx
  refine h.keep (by simp [Tr.upd]) rfl (fun k => ?_) ?_ (fun m s' k hs => ?_) (fun k => ?_) (fun k => ?_) (fun k h1 h0' => ?_) (fun k hk => ?_) (fun k hk hl' => ?_)
  · rw [hnode]
    split
    · rename_i e; subst e
      exact ⟨rfl, rfl, rfl, rfl, fun e => (h0 e).elim⟩
    · split
      · rename_i e; subst e
        exact ⟨rfl, rfl, rfl, rfl, fun e => (hin e).elim⟩
      · exact ⟨rfl, rfl, rfl, rfl, fun _ => rfl⟩
  · rw [hnode, if_neg (Ne.symm v1)]
    split
    · rename_i e; show (T.node inn).links = 1; rw [← e]; exact h.root.2.2
    · exact h.root.2.2
  · rw [hnode] at hs ⊢
    split at hs
    · rename_i e; subst e
      have hs' : (s', k) ∈ (T.node m).ents := hs
      rw [hemp (h.ents m s' k hs').1] at hs'
      simp at hs'
    · rename_i e
      rw [if_neg e]
      split at hs
      · rename_i e2; subst e2
        rw [if_pos rfl]
        exact h.ents m s' k (hsub _ hs)
      · rename_i e2
        rw [if_neg e2]
        exact h.ents m s' k hs
  · rw [hnode]
    split
    · exact h.rising v
    · split
      · exact (h.rising inn).del
      · exact h.rising k
  · rw [hnode]
    split
    · exact h.size v
    · split
      · exact Nat.le_trans (adel_sub s _).length_le (h.size inn)
      · exact h.size k
  · have := hrf k
    have hk := h.links k h1 h0'
    rw [hnode]
    split
    · rename_i e; subst e
      show (T.node k).links + -1 = _
      simp at this
      omega
    · rename_i e
      rw [if_neg (show ¬ v = k from fun x => e x.symm)] at this
      split
      · rename_i e2; subst e2
        show (T.node k).links = _
        omega
      · omega
  · have := hrf k
    have := h.dirs k hk
    omega
  · rw [hnode] at hl'
    split at hl'
    · rename_i e; subst e
      intro hz
      have := h.links k v1 h0
      have := Tr.refs_one hm
      omega
    · split at hl'
      · rename_i e; subst e; exact hl'
      · exact hl'
theorem Tr.WF.drop (h : T.WF) (inn : BitVec 16) (s : NameL) (d : Bool) : (T.drop inn s d).1.WF := by
  unfold Tr.drop
  split
  · exact h
  split
  · exact h
  split
  · exact h
  split
  · exact h
  rename_i c1 c2 c3 c4
  have c1 : (T.look inn s).2 = 0 := by simpa using c1
  obtain ⟨g1, g2⟩ := Tr.look_ok c1
  generalize (T.look inn s).1 = v at *
  obtain ⟨e1, e2, e3, h0, v1, e6⟩ := h.pos g2
  have hw := (h.less inn s v g2 (fun hk => by
    cases d with
    | true =>
      have : ¬ 0 < (T.node v).ents.length := fun x => c4 ⟨rfl, x⟩
      exact List.eq_nil_of_length_eq_zero (by omega)
    | false => exact (c3 ⟨rfl, hk⟩).elim)).bump
  refine hw.tidy v ?_
  have hin : (T.node inn).kind ≠ 0#8 := by rw [e1]; decide
  have hvi : v ≠ inn := by rintro rfl; exact h.no_self (alook_mem g2)
  have hv1 : ((T.upd inn (Nd.delE s)).node v) = T.node v := by rw [Tr.node_upd hin, if_neg hvi]
  rw [Tr.bump_node, Tr.node_upd (by rw [hv1]; exact h0), if_pos rfl, hv1]
  exact h0
end
end Go.AM
end
section
namespace Go.AM
theorem freeL_full : ∀ (l : List Nd), freeL l = l.length → l.countP (fun x => decide (x.kind ≠ 0#8)) = l.length
  | [], _ => rfl
  | x :: l, h => by
    simp only [freeL] at h
    split at h
    · simp at h
    · rename_i hx
      have := freeL_full l (by simp at h; omega)
      rw [List.countP_cons, this]
      simp [hx]
section
variable {T T' : Tr} {n k : BitVec 16}
theorem Tr.new_wf (limit : Int) : (Tr.new limit).WF := by
  have hnode : ∀ n : BitVec 16, (Tr.new limit).node n = if n = 1#16 then { Nd.none with kind := 2#8, parent := 1#16, links := 1 } else Nd.none := by
    intro n
    unfold Tr.new Tr.node
    by_cases h : n = 1#16
    · subst h; rfl
    · rw [if_neg h]
      by_cases h0 : n = 0#16
      · subst h0; rfl
      · have : 2 ≤ n.toNat := by
          have h1 : n.toNat ≠ 0 := fun e => h0 (BitVec.eq_of_toNat_eq (by simpa using e))
          have h2 : n.toNat ≠ 1 := fun e => h (BitVec.eq_of_toNat_eq (by simpa using e))
          omega
        simp only [List.getD_eq_getElem?_getD]
        rw [List.getElem?_eq_none (by simpa using this)]
        rfl
  have hent : ∀ n, ((Tr.new limit).node n).ents = [] := by
    intro n; rw [hnode]; split <;> rfl
  have hr : ∀ k, (Tr.new limit).refs k = 0 := fun k => rfl
  refine ⟨⟨?_, ?_⟩, ⟨Nat.le_refl 2, ?_⟩, by rw [hnode]; rfl, fun n h => ?_, by rw [hnode]; exact ⟨rfl, rfl, rfl⟩, fun m s k h => ?_, fun n => ?_, fun n => ?_, fun n h1 h2 => ?_, fun n _ => ?_, fun n => ?_, fun n h1 h2 => ?_, fun n => ?_⟩
  · show 1 ≤ min (max limit 1) 256; omega
  · show min (max limit 1) 256 ≤ 256; omega
  · show ((2 : Nat) : Int) ≤ min (max limit 1) 256 + 1; omega
  · rw [hnode] at h ⊢
    split at h
    · simp at h
    · rename_i e; rw [if_neg e]
  · rw [hent] at h; simp at h
  · rw [hent]; exact List.Pairwise.nil
  · rw [hent]; exact Nat.zero_le _
  · rw [hnode, if_neg h1] at h2
    exact (h2 rfl).elim
  · rw [hr]; exact Nat.zero_le _
  · rw [hnode]; split <;> exact Int.le_refl _
  · rw [hnode] at h1
    split at h1
    · rename_i e; exact .inl e
    · simp [Nd.none] at h1
  · rw [hnode]; split <;> exact Nat.zero_le _
theorem Tr.WF.make (h : T.WF) (inn : BitVec 16) (s : NameL) (kd : BitVec 8) (text : List UInt8) : (T.make inn s kd text).1.WF := by
  unfold Tr.make
  split
  · exact h
  split
  · exact h
  split
  · exact h
  rename_i hr hkd hlim
  have hr : T.room inn s = 0 := by simpa using hr
  obtain ⟨d1, d2, d3, d4, d5⟩ := Tr.room_ok hr
  have hl16 := h.len16
  have hfree := Tr.free_ok (T := T) (by have := h.len.1; omega) (by omega)
  have hk0 : kd ≠ 0#8 := fun e => hkd (.inl e)
  have hlim1 : ¬ T.limit ≤ T.len := fun e => hlim (.inl e)
  have hlim2 : kd = 2#8 → T.deep inn < 16 := fun e => by
    have : ¬ 16 ≤ T.deep inn := fun x => hlim (.inr ⟨e, x⟩)
    omega
  obtain ⟨A, hA⟩ : ∃ A, A = BitVec.ofNat 16 T.free := ⟨_, rfl⟩
  rw [← hA]
  have hA0 : (T.node A).kind = 0#8 := by rw [hA]; exact hfree.zero
  have hAn := h.zero A hA0
  have hin : (T.node inn).kind ≠ 0#8 := by rw [d1]; decide
  have hAi : A ≠ inn := by rintro rfl; exact hin hA0
  have hA1 : A ≠ 1#16 := by rintro rfl; rw [h.root.1] at hA0; simp at hA0
  have hAz : A ≠ 0#16 := by
    intro e
    have h1 : A.toNat = T.free := by rw [hA, BitVec.toNat_ofNat, Nat.mod_eq_of_lt (by have := hfree.lt; omega)]
    have := hfree.pos
    rw [e] at h1
    simp at h1
    omega
  have hput : ∀ m, (T.put T.free (Nd.made inn kd text)).node m = if m = A then Nd.made inn kd text else T.node m := fun m => by rw [Tr.node_put hfree.le hfree.lt, hA]
  have hpi : (T.put T.free (Nd.made inn kd text)).node inn = T.node inn := by rw [hput, if_neg (Ne.symm hAi)]
  have hnode := fun m => Tr.node_upd (T := T.put T.free (Nd.made inn kd text)) (n := inn) (by rw [hpi]; exact hin) (Nd.addE s A) m
  rw [hpi] at hnode
  simp only [hput] at hnode
  have hrA : T.refs A = 0 := by
    refine Classical.byContradiction fun hc => ?_
    obtain ⟨p, s', hs⟩ := Tr.refs_pos (T := T) (k := A) (by omega) (by omega)
    exact (h.ents p s' A hs).2.2.2.1 hA0
  have hrf : ∀ m, ((T.put T.free (Nd.made inn kd text)).upd inn (Nd.addE s A)).refs m = T.refs m + if A = m then 1 else 0 := by
    intro m
    have h1 := Tr.refs_upd (T := T.put T.free (Nd.made inn kd text)) (n := inn) (Tr.node_lt (by rw [hpi]; exact hin)) (Nd.addE s A) m
    have h2 := Tr.refs_put (T := T) (Nd.made inn kd text) hfree.le hfree.lt m (by rw [← hA, hAn]; rfl)
    rw [hpi, h2] at h1
    have e : cntE m (Nd.addE s A (T.node inn)).ents = cntE m (T.node inn).ents + if A = m then 1 else 0 := cntE_insert m (s, A) _
    have e2 : cntE m (Nd.made inn kd text).ents = 0 := rfl
    rw [e, e2] at h1
    omega
  have hkp : ∀ m, m ≠ A → ∀ y, y = ((T.put T.free (Nd.made inn kd text)).upd inn (Nd.addE s A)).node m → y.kind = (T.node m).kind ∧ y.parent = (T.node m).parent ∧ y.links = (T.node m).links ∧ y.held = (T.node m).held ∧ y.data = (T.node m).data := by
    rintro m hm y rfl
    rw [hnode, if_neg hm]
    split
    · rename_i e; subst e; exact ⟨rfl, rfl, rfl, rfl, rfl⟩
    · exact ⟨rfl, rfl, rfl, rfl, rfl⟩
  have hnA : ((T.put T.free (Nd.made inn kd text)).upd inn (Nd.addE s A)).node A = Nd.made inn kd text := by rw [hnode, if_neg hAi, if_pos rfl]
  have tr : ∀ {f m}, T.Live m → T.rootIn f m → ((T.put T.free (Nd.made inn kd text)).upd inn (Nd.addE s A)).rootIn f m := by
    intro f m
    refine Tr.rootIn_of T.Live fun m hm hm1 => ?_
    have hmA : m ≠ A := by rintro rfl; have := hm.1; rw [hA0] at this; simp at this
    obtain ⟨q1, q2, _⟩ := hkp m hmA _ rfl
    exact ⟨by rw [q1]; exact hm.1, q2, (h.above hm hm1).1⟩
  refine Tr.WF.bump ⟨h.lim, ⟨?_, ?_⟩, ?_, fun m hk => ?_, ?_, fun m s' k hs => ?_, fun k => ?_, fun k => ?_, fun k h1 h2 => ?_, fun k h2 => ?_, fun k => ?_, fun k h1 h2 => ?_, fun k => ?_⟩
  · have := h.len.1
    simp only [Tr.upd, Tr.put, List.length_modify]
    split <;> simp <;> omega
  · have := h.len.2
    show (((T.put T.free (Nd.made inn kd text)).upd inn (Nd.addE s A)).N.length : Int) ≤ T.limit + 1
    simp only [Tr.upd, Tr.put, List.length_modify]
    split
    · rw [List.length_set]; exact this
    · rename_i hge
      have hfull : freeL (T.N.drop 1) = (T.N.drop 1).length := by
        have h1 := freeL_le (T.N.drop 1)
        have h2 : T.free = freeL (T.N.drop 1) + 1 := rfl
        rw [List.length_drop] at h1 ⊢
        omega
      have hc := freeL_full _ hfull
      have hle : (T.N.drop 1).countP (fun x => decide (x.kind ≠ 0#8)) ≤ T.len := by
        unfold Tr.len
        exact (List.drop_sublist 1 T.N).countP_le
      rw [hc, List.length_drop] at hle
      rw [List.length_append, List.length_singleton]
      omega
  · rw [(hkp _ (Ne.symm hAz) _ rfl).1]; exact h.n0
  · rw [hnode] at hk ⊢
    split at hk
    · exact (hin hk).elim
    · rename_i e
      rw [if_neg e]
      split at hk
      · exact (hk0 hk).elim
      · rename_i e2
        rw [if_neg e2]
        exact h.zero m hk
  · obtain ⟨q1, q2, q3, _⟩ := hkp 1#16 (Ne.symm hA1) _ rfl
    rw [q1, q2, q3]; exact h.root
  · have old : ∀ m, m ≠ A → (s', k) ∈ (T.node m).ents → (((T.put T.free (Nd.made inn kd text)).upd inn (Nd.addE s A)).node m).kind = 2#8 ∧ (((T.put T.free (Nd.made inn kd text)).upd inn (Nd.addE s A)).node m).links ≠ 0 ∧ okName s' = true ∧ (((T.put T.free (Nd.made inn kd text)).upd inn (Nd.addE s A)).node k).kind ≠ 0#8 ∧ k ≠ 1#16 ∧ ((((T.put T.free (Nd.made inn kd text)).upd inn (Nd.addE s A)).node k).kind = 2#8 → (((T.put T.free (Nd.made inn kd text)).upd inn (Nd.addE s A)).node k).parent = m) := by
      intro m hm hs
      have he := h.ents m s' k hs
      have hkA : k ≠ A := by rintro rfl; exact he.2.2.2.1 hA0
      obtain ⟨q1, q2, q3, _⟩ := hkp m hm _ rfl
      obtain ⟨p1, p2, p3, _⟩ := hkp k hkA _ rfl
      rw [q1, q3, p1, p2]
      exact he
    by_cases hmA : m = A
    · subst hmA
      rw [hnA] at hs
      simp [Nd.made] at hs
    · by_cases hmi : m = inn
      · subst hmi
        rw [hnode, if_pos rfl] at hs
        rcases mem_insertE.1 hs with g | g
        · simp only [Prod.mk.injEq] at g
          obtain ⟨rfl, rfl⟩ := g
          obtain ⟨q1, q2, q3, _⟩ := hkp m hmA _ rfl
          rw [q1, q3, hnA]
          exact ⟨d1, d3, d4, hk0, hA1, fun e => by have e : kd = 2#8 := e; show (if kd = 2#8 then m else 0#16) = m; rw [if_pos e]⟩
        · exact old m hmA g
      · rw [hnode, if_neg hmi, if_neg hmA] at hs
        exact old m hmA hs
  · rw [hnode]
    split
    · exact (h.rising inn).insert d2
    · split
      · exact List.Pairwise.nil
      · exact h.rising k
  · rw [hnode]
    split
    · show (insertE (s, A) (T.node inn).ents).length ≤ 32
      rw [insertE_length]; omega
    · split
      · exact Nat.zero_le _
      · exact h.size k
  · rw [hrf]
    by_cases e : k = A
    · subst e
      rw [hnA, hrA, if_pos rfl]; rfl
    · obtain ⟨q1, q2, q3, _⟩ := hkp k e _ rfl
      rw [q1] at h2
      rw [q3, if_neg (Ne.symm e)]
      exact h.links k h1 h2
  · rw [hrf]
    by_cases e : k = A
    · subst e
      rw [hrA, if_pos rfl]; exact Nat.le_refl _
    · rw [(hkp k e _ rfl).1] at h2
      rw [if_neg (Ne.symm e)]
      exact h.dirs k h2
  · by_cases e : k = A
    · subst e
      rw [hnA]; exact Int.le_refl _
    · rw [(hkp k e _ rfl).2.2.2.1]; exact h.held k
  · by_cases e : k = A
    · subst e
      rw [hnA] at h1
      have h1 : kd = 2#8 := h1
      have hli : T.Live inn := ⟨d1, d3⟩
      have hdp := hlim2 h1
      unfold Tr.deep at hdp
      rw [Tr.deepF_root (h.depth inn d1 d3) (g := 17) (by omega)] at hdp
      have hri := Tr.rootIn_mono (Tr.rootIn_deep (h.depth inn d1 d3)) (g := 15) (by omega)
      refine .inr ⟨by rw [hnA]; exact h1, ?_⟩
      rw [hnA]
      show Tr.rootIn _ 15 (if kd = 2#8 then inn else 0#16)
      rw [if_pos h1]
      exact tr hli hri
    · obtain ⟨q1, q2, q3, _⟩ := hkp k e _ rfl
      rw [q1] at h1
      rw [q3] at h2
      exact tr ⟨h1, h2⟩ (h.depth k h1 h2)
  · by_cases e : k = A
    · subst e
      rw [hnA]; exact Nat.zero_le _
    · rw [(hkp k e _ rfl).2.2.2.2]; exact h.data k
end
end Go.AM
end
section
namespace Go.AM
def Tr.Below (T : Tr) (n : BitVec 16) : Nat → BitVec 16 → Prop
  | 0, m => m = n
  | j + 1, m => m ≠ 1#16 ∧ T.Below n j (T.node m).parent
section
variable {T T' T1 : Tr} {n k : BitVec 16}
theorem Tr.WF.no_loop (h : T.WF) {m : BitVec 16} (hm : T.Live m) (h1 : m ≠ 1#16) : m ≠ (T.node m).parent := by
  intro e
  have := h.deep_succ hm h1
  rw [← e] at this
  omega
theorem Tr.WF.not_below (h : T.WF) : ∀ (f : Nat) (m : BitVec 16), T.Live m → T.rootIn f m → T.withinF n (f + 1) m = false → ∀ j, ¬ T.Below n j m
  | f, m, hm, hr, hw, 0, hb => by
    have hb : m = n := hb
    subst hb
    simp [Tr.withinF, hm.1] at hw
  | 0, m, hm, hr, hw, j + 1, hb => hb.1 hr
  | f + 1, m, hm, hr, hw, j + 1, hb => by
    have hp := h.above hm hb.1
    have hl := h.no_loop hm hb.1
    have hr' := hr.resolve_left hb.1
    by_cases e : m = n
    · subst e
      simp [Tr.withinF, hm.1] at hw
    · rw [Tr.withinF] at hw
      simp only [hm.1, ne_eq, not_true, if_false, if_neg e, if_neg hl] at hw
      exact Tr.WF.not_below h f _ hp.1 hr'.2 hw j hb.2
theorem foldl_max (g : NameL × BitVec 16 → Nat) (p : NameL × BitVec 16 → Prop) [DecidablePred p] : ∀ (l : List (NameL × BitVec 16)) (b : Nat), b ≤ l.foldl (fun b e => if p e then max b (g e) else b) b ∧ ∀ e ∈ l, p e → g e ≤ l.foldl (fun b e => if p e then max b (g e) else b) b
  | [], b => ⟨Nat.le_refl _, by simp⟩
  | x :: l, b => by
    simp only [List.foldl_cons]
    obtain ⟨h1, h2⟩ := foldl_max g p l (if p x then max b (g x) else b)
    refine ⟨Nat.le_trans ?_ h1, fun e he hp => ?_⟩
    · split <;> omega
    · rcases List.mem_cons.1 he with rfl | he
      · refine Nat.le_trans ?_ h1
        rw [if_pos hp]; omega
      · exact h2 e he hp
theorem Tr.WF.tall_succ (h : T.WF) {m : BitVec 16} (hm : T.Live m) (h1 : m ≠ 1#16) : T.tall m + 1 ≤ T.tall (T.node m).parent := by
  obtain ⟨hp, s, hs⟩ := h.above hm h1
  unfold Tr.tall
  have e1 := Tr.tallF_eq T 17 m (h.fits17 hm) 20 (by omega)
  have e2 := Tr.tallF_eq T 17 m (h.fits17 hm) 19 (by omega)
  rw [e1, ← e2]
  have := (foldl_max (fun e => T.tallF 19 e.2) (fun e => (T.node e.2).kind = 2#8) (T.node (T.node m).parent).ents 0).2 (s, m) hs hm.1
  have e3 : T.tallF 20 (T.node m).parent = ((T.node (T.node m).parent).ents.foldl (fun b e => if (T.node e.2).kind = 2#8 then max b (T.tallF 19 e.2) else b) 0) + 1 := rfl
  rw [e3]
  exact Nat.succ_le_succ this
theorem Tr.tall_pos (T : Tr) (m : BitVec 16) : 1 ≤ T.tall m := by
  have : T.tall m = ((T.node m).ents.foldl (fun b e => if (T.node e.2).kind = 2#8 then max b (T.tallF 19 e.2) else b) 0) + 1 := rfl
  omega
theorem Tr.WF.below_tall (h : T.WF) : ∀ (j : Nat) (m : BitVec 16), T.Live m → T.Below n j m → j + T.tall m ≤ T.tall n
  | 0, m, _, hb => by
    have hb : m = n := hb
    subst hb; omega
  | j + 1, m, hm, hb => by
    have h1 := h.tall_succ hm hb.1
    have h2 := Tr.WF.below_tall h j _ (h.above hm hb.1).1 hb.2
    omega
theorem Tr.WF.moved (h : T1.WF) (fr to n : BitVec 16) (s other : NameL) (hs : alook s (T1.node fr).ents = some n) (hto : T1.Live to) (ho : alook other ((T1.upd fr (Nd.delE s)).node to).ents = none) (hlen : ((T1.upd fr (Nd.delE s)).node to).ents.length < 32)
    (hok : okName other = true) (hdir : (T1.node n).kind = 2#8 → (∀ j, ¬ T1.Below n j to) ∧ ∀ j m, T1.Live m → T1.Below n j m → T1.deep to + j + 1 ≤ 16) : (Tr.moved T1 fr s to other n).WF := by
  have hsm := alook_mem hs
  obtain ⟨f1, f2, f3, f4, f5, f6⟩ := h.ents fr s n hsm
  have hf0 : (T1.node fr).kind ≠ 0#8 := by rw [f1]; decide
  have ht0 : (T1.node to).kind ≠ 0#8 := by rw [hto.1]; decide
  have hnt : n ≠ to := by
    rintro rfl
    exact (hdir hto.1).1 0 rfl
  have hV := fun k => Tr.node_upd hf0 (Nd.delE s) k
  obtain ⟨V, hVd⟩ : ∃ V, V = T1.upd fr (Nd.delE s) := ⟨_, rfl⟩
  unfold Tr.moved
  rw [← hVd] at hV ho hlen ⊢
  have hVsub : ∀ m x, x ∈ (V.node m).ents → x ∈ (T1.node m).ents := by
    intro m x hx
    rw [hV] at hx
    split at hx
    · rename_i e; subst e; exact (adel_sub s _).subset hx
    · exact hx
  have hVk : ∀ m, (V.node m).kind = (T1.node m).kind ∧ (V.node m).parent = (T1.node m).parent ∧ (V.node m).links = (T1.node m).links ∧ (V.node m).held = (T1.node m).held ∧ (V.node m).data = (T1.node m).data ∧ ((T1.node m).kind = 0#8 → V.node m = T1.node m) := by
    intro m
    rw [hV]
    split
    · rename_i e; subst e; exact ⟨rfl, rfl, rfl, rfl, rfl, fun e => (hf0 e).elim⟩
    · exact ⟨rfl, rfl, rfl, rfl, rfl, fun _ => rfl⟩
  have hVr : ∀ m, V.refs m + (if n = m then 1 else 0) = T1.refs m := by
    intro m
    have := Tr.refs_upd (Tr.node_lt hf0) (Nd.delE s) m
    have e : cntE m (Nd.delE s (T1.node fr)).ents + (if n = m then 1 else 0) = cntE m (T1.node fr).ents := cntE_del m hs
    rw [hVd]; omega
  have hVt0 : (V.node to).kind ≠ 0#8 := by rw [(hVk to).1]; exact ht0
  have hU := fun k => Tr.node_upd hVt0 (Nd.addE other n) k
  obtain ⟨U, hUd⟩ : ∃ U, U = V.upd to (Nd.addE other n) := ⟨_, rfl⟩
  rw [← hUd] at hU ⊢
  have hUk : ∀ m, (U.node m).kind = (T1.node m).kind ∧ (U.node m).parent = (T1.node m).parent ∧ (U.node m).links = (T1.node m).links ∧ (U.node m).held = (T1.node m).held ∧ (U.node m).data = (T1.node m).data ∧ ((T1.node m).kind = 0#8 → U.node m = T1.node m) := by
    intro m
    rw [hU]
    split
    · rename_i e; subst e
      obtain ⟨q1, q2, q3, q4, q5, q6⟩ := hVk m
      exact ⟨q1, q2, q3, q4, q5, fun e => (ht0 e).elim⟩
    · exact hVk m
  have hUr : ∀ m, U.refs m = T1.refs m := by
    intro m
    have := Tr.refs_upd (Tr.node_lt hVt0) (Nd.addE other n) m
    have e : cntE m (Nd.addE other n (V.node to)).ents = cntE m (V.node to).ents + if n = m then 1 else 0 := cntE_insert m (other, n) _
    have := hVr m
    rw [hUd]; omega
  have hUN : U.N.length = T1.N.length ∧ U.limit = T1.limit := by rw [hUd, hVd]; simp [Tr.upd]
  obtain ⟨W, hWd⟩ : ∃ W, W = (if (T1.node n).kind = 2#8 then U.upd n (fun x => { x with parent := to }) else U) := ⟨_, rfl⟩
  show Tr.WF (Tr.bump (if (T1.node n).kind = 2#8 then U.upd n (fun x => { x with parent := to }) else U))
  rw [← hWd]
  have hUn0 : (U.node n).kind ≠ 0#8 := by rw [(hUk n).1]; exact f4
  have hW : ∀ m, (W.node m).kind = (T1.node m).kind ∧ (W.node m).parent = (if m = n ∧ (T1.node n).kind = 2#8 then to else (T1.node m).parent) ∧ (W.node m).links = (T1.node m).links ∧ (W.node m).held = (T1.node m).held ∧ (W.node m).data = (T1.node m).data ∧ ((T1.node m).kind = 0#8 → W.node m = T1.node m) ∧ (W.node m).ents = (U.node m).ents := by
    intro m
    obtain ⟨q1, q2, q3, q4, q5, q6⟩ := hUk m
    rw [hWd]
    split
    · rename_i hd
      rw [Tr.node_upd hUn0]
      split
      · rename_i e; subst e
        exact ⟨q1, by simp [hd], q3, q4, q5, fun e => (f4 e).elim, rfl⟩
      · rename_i e
        exact ⟨q1, by simp [e, q2], q3, q4, q5, q6, rfl⟩
    · rename_i hd
      exact ⟨q1, by simp [hd, q2], q3, q4, q5, q6, rfl⟩
  have hWr : ∀ m, W.refs m = T1.refs m := by
    intro m
    rw [← hUr m, hWd]
    split
    · exact Tr.refs_upd_same (Tr.node_lt hUn0) m rfl
    · rfl
  have hWN : W.N.length = T1.N.length ∧ W.limit = T1.limit := by
    rw [hWd]
    split
    · simpa [Tr.upd] using hUN
    · exact hUN
  have stay : ∀ {f m}, T1.Live m → ((T1.node n).kind = 2#8 → ∀ j, ¬ T1.Below n j m) → T1.rootIn f m → W.rootIn f m := by
    intro f m hm hb
    refine Tr.rootIn_of (fun m => T1.Live m ∧ ((T1.node n).kind = 2#8 → ∀ j, ¬ T1.Below n j m)) (fun m hm hm1 => ?_) ⟨hm, hb⟩
    refine ⟨by rw [(hW m).1]; exact hm.1.1, ?_, (h.above hm.1 hm1).1, fun hd j hb => hm.2 hd (j + 1) ⟨hm1, hb⟩⟩
    rw [(hW m).2.1, if_neg]
    rintro ⟨e, hd⟩
    exact hm.2 hd 0 e
  have hdto : T1.rootIn (T1.deep to) to := by
    have h1 := h.depth to hto.1 hto.2
    unfold Tr.deep
    rw [Tr.deepF_root h1 (g := 17) (by omega)]
    exact Tr.rootIn_deep h1
  have fall : (T1.node n).kind = 2#8 → ∀ (j : Nat) (m : BitVec 16), T1.Live m → T1.Below n j m → W.rootIn (T1.deep to + j + 1) m := by
    intro hd j
    have at_n : W.rootIn (T1.deep to + 1) n := by
      refine .inr ⟨by rw [(hW n).1]; exact hd, ?_⟩
      rw [(hW n).2.1, if_pos ⟨rfl, hd⟩]
      exact stay hto (fun _ => (hdir hd).1) hdto
    induction j with
    | zero =>
      intro m hm hb
      have hb : m = n := hb
      subst hb
      exact at_n
    | succ j ih =>
      intro m hm hb
      by_cases e : m = n
      · subst e
        exact Tr.rootIn_mono at_n (by omega)
      · refine .inr ⟨by rw [(hW m).1]; exact hm.1, ?_⟩
        rw [(hW m).2.1, if_neg fun x => e x.1]
        exact ih _ (h.above hm hb.1).1 hb.2
  refine Tr.WF.bump ⟨by rw [hWN.2]; exact h.lim, by rw [hWN.1, hWN.2]; exact h.len, by rw [(hW _).1]; exact h.n0, fun m hm => ?_, ?_, fun m s' k hk => ?_, fun m => ?_, fun m => ?_, fun m h1 h2 => ?_, fun m h2 => ?_, fun m => ?_, fun m h1 h2 => ?_, fun m => ?_⟩
  · rw [(hW m).1] at hm
    rw [(hW m).2.2.2.2.2.1 hm]
    exact h.zero m hm
  · obtain ⟨q1, q2, q3, _⟩ := hW 1#16
    rw [q1, q2, q3, if_neg fun x => f5 x.1.symm]
    exact h.root
  · rw [(hW m).2.2.2.2.2.2] at hk
    have old : (s', k) ∈ (V.node m).ents → (W.node m).kind = 2#8 ∧ (W.node m).links ≠ 0 ∧ okName s' = true ∧ (W.node k).kind ≠ 0#8 ∧ k ≠ 1#16 ∧ ((W.node k).kind = 2#8 → (W.node k).parent = m) := by
      intro hv
      have he := h.ents m s' k (hVsub m _ hv)
      rw [(hW m).1, (hW m).2.2.1, (hW k).1, (hW k).2.1, if_neg]
      · exact he
      · rintro ⟨e, hd⟩
        subst e
        have h1 := Tr.refs_one hv
        have h2 := hVr k
        have h3 := h.dirs k hd
        rw [if_pos rfl] at h2
        omega
    rw [hU] at hk
    split at hk
    · rename_i e; subst e
      rcases mem_insertE.1 hk with g | g
      · simp only [Prod.mk.injEq] at g
        obtain ⟨rfl, rfl⟩ := g
        rw [(hW m).1, (hW m).2.2.1, (hW k).1, (hW k).2.1]
        exact ⟨hto.1, hto.2, hok, f4, f5, fun hd => if_pos ⟨rfl, hd⟩⟩
      · exact old g
    · exact old hk
  · rw [(hW m).2.2.2.2.2.2]
    have hv : ∀ m, Rising (V.node m).ents := fun m => by
      rw [hV]; split
      · exact (h.rising fr).del
      · exact h.rising m
    rw [hU]; split
    · exact (hv to).insert ho
    · exact hv m
  · rw [(hW m).2.2.2.2.2.2, hU]; split
    · show (insertE (other, n) (V.node to).ents).length ≤ 32
      rw [insertE_length]; omega
    · rw [hV]; split
      · exact Nat.le_trans (adel_sub s _).length_le (h.size fr)
      · exact h.size m
  · rw [(hW m).1] at h2
    rw [(hW m).2.2.1, hWr]
    exact h.links m h1 h2
  · rw [(hW m).1] at h2
    rw [hWr]; exact h.dirs m h2
  · rw [(hW m).2.2.2.1]; exact h.held m
  · rw [(hW m).1] at h1
    rw [(hW m).2.2.1] at h2
    by_cases hb : (T1.node n).kind = 2#8 ∧ ∃ j, T1.Below n j m
    · obtain ⟨hd, j, hb⟩ := hb
      exact Tr.rootIn_mono (fall hd j m ⟨h1, h2⟩ hb) ((hdir hd).2 j m ⟨h1, h2⟩ hb)
    · exact stay ⟨h1, h2⟩ (fun hd j hj => hb ⟨hd, j, hj⟩) (h.depth m h1 h2)
  · rw [(hW m).2.2.2.2.1]; exact h.data m
theorem adel_length {s : NameL} {v : BitVec 16} : ∀ {l : List (NameL × BitVec 16)}, alook s l = some v → (adel s l).length + 1 = l.length
  | [], h => by simp [alook] at h
  | e :: l, h => by
    rw [alook_cons] at h
    by_cases he : s = e.1
    · subst he
      simp [adel]
    · rw [if_neg he] at h
      have := adel_length h
      have he' : ¬ e.1 = s := fun x => he x.symm
      simp only [adel, if_neg he', List.length_cons]
      omega
theorem Tr.deepF_of (P : BitVec 16 → Prop) (hP : ∀ m, P m → m ≠ 1#16 → (T'.node m).parent = (T.node m).parent ∧ P (T.node m).parent) : ∀ (f : Nat) (m : BitVec 16), P m → T'.deepF f m = T.deepF f m
  | 0, _, _ => rfl
  | f + 1, m, hm => by
    simp only [Tr.deepF]
    split
    · rfl
    · rename_i h1
      obtain ⟨q1, q2⟩ := hP m hm h1
      rw [q1, Tr.deepF_of P hP f _ q2]
theorem Tr.tidy_self {y : BitVec 16} (hk : (T.node y).kind ≠ 0#8) (h : ((T.tidy y).node y).kind = 2#8) : (T.node y).kind = 2#8 ∧ ((T.tidy y).node y).links = (T.node y).links := by
  unfold Tr.tidy at h ⊢
  split
  · rename_i hc
    rw [if_pos hc, Tr.node_upd hk, if_pos rfl] at h
    simp [Nd.none] at h
  · rename_i hc
    rw [if_neg hc] at h
    exact ⟨h, rfl⟩
theorem Tr.WF.drop_gone (h : T.WF) {to o : BitVec 16} {other : NameL} {d : Bool} (hl : T.look to other = (o, 0)) (h0 : (T.drop to other d).2 = 0) : ¬ (T.drop to other d).1.Live o := by
  have hw := h.drop to other d
  intro hlv
  have hlk : (T.look to other).2 = 0 := by rw [hl]
  obtain ⟨g1, g2⟩ := Tr.look_ok hlk
  rw [hl] at g2
  have g2 : alook other (T.node to).ents = some o := g2
  have hm : (other, o) ∈ (T.node to).ents := alook_mem g2
  obtain ⟨e1, e2, e3, o0, o1, e6⟩ := h.ents to other o hm
  have hoi : o ≠ to := by rintro rfl; exact h.no_self hm
  have hin : (T.node to).kind ≠ 0#8 := by rw [e1]; decide
  have hv1 : ((T.upd to (Nd.delE other)).node o) = T.node o := by rw [Tr.node_upd hin, if_neg hoi]
  have hv2 : (((T.upd to (Nd.delE other)).upd o (Nd.addL (-1))).bump).node o = Nd.addL (-1) (T.node o) := by
    rw [Tr.bump_node, Tr.node_upd (by rw [hv1]; exact o0), if_pos rfl, hv1]
  have hd : (T.drop to other d).1 = (((T.upd to (Nd.delE other)).upd o (Nd.addL (-1))).bump).tidy o := by
    unfold Tr.drop at h0 ⊢
    rw [hl] at h0 ⊢
    simp only [ne_eq, not_true, if_false] at h0 ⊢
    split
    · rename_i c; rw [if_pos c] at h0; simp at h0
    · split
      · rename_i c c'; rw [if_neg c, if_pos c'] at h0; simp at h0
      · split
        · rename_i c c' c''; rw [if_neg c, if_neg c', if_pos c''] at h0; simp at h0
        · rfl
  rw [hd] at hlv
  obtain ⟨q1, q2⟩ := Tr.tidy_self (by rw [hv2]; exact o0) hlv.1
  rw [hv2] at q1 q2
  have hk : (T.node o).kind = 2#8 := q1
  have h1 := h.dirs o hk
  have h2 := h.links o o1 o0
  have h3 := Tr.refs_one hm
  apply hlv.2
  rw [q2]
  show (T.node o).links + -1 = 0
  omega
theorem Tr.WF.look_live (h : T.WF) {fr n : BitVec 16} {s : NameL} (hl : alook s (T.node fr).ents = some n) (hk : (T.node n).kind = 2#8) : T.Live n := h.live_of (alook_mem hl) hk
theorem Tr.WF.move (h : T.WF) (fr : BitVec 16) (s : NameL) (to : BitVec 16) (other : NameL) : (T.move fr s to other).1.WF := by
  unfold Tr.move
  split
  · exact h
  split
  · exact h
  split
  · exact h
  split
  · exact h
  split
  · exact h
  rename_i c1 c2 c3 c4 c5
  have c1 : (T.look fr s).2 = 0 := by simpa using c1
  have c2 : T.dir to = 0 := by simpa using c2
  obtain ⟨k1, k2⟩ := Tr.look_ok c1
  have k3 := Tr.dir_zero.1 c2
  generalize (T.look fr s).1 = n at *
  have c5 : T.may n to other (alook other (T.node to).ents) = 0 := by simpa using c5
  have hmo := Tr.mayOld_of c5
  unfold Tr.may at c5
  have p1 : okName other = true := by
    cases ho : okName other with
    | true => rfl
    | false => simp [ho] at c5
  have p2 : (T.node to).links ≠ 0 := by
    intro hz
    simp [p1, hz] at c5
  have p3 : (T.node n).kind = 2#8 → T.within n to = false := by
    intro hd
    cases hw : T.within n to with
    | false => rfl
    | true => simp [p1, p2, hd, hw] at c5
  have p4 : (T.node n).kind = 2#8 → T.deep to + T.tall n ≤ 16 := by
    intro hd
    refine Classical.byContradiction fun hc => ?_
    have hc : 16 < T.deep to + T.tall n := by omega
    simp [p1, p2, hd, p3 hd, hc] at c5
  have hto : T.Live to := ⟨k3, p2⟩
  have fr0 : (T.node fr).kind ≠ 0#8 := by rw [k1]; decide
  have hnb : (T.node n).kind = 2#8 → ∀ j, ¬ T.Below n j to := by
    intro hd
    refine h.not_below 16 to hto (h.depth to k3 p2) ?_
    have := p3 hd
    unfold Tr.within at this
    rwa [Tr.withinF_root h.root.1 h.root.2.1 n (h.depth to k3 p2) (g := 18) (by omega)] at this
  have hbt : (T.node n).kind = 2#8 → ∀ j m, T.Live m → T.Below n j m → T.deep to + j + 1 ≤ 16 := by
    intro hd j m hm hb
    have h1 := h.below_tall j m hm hb
    have h2 := Tr.tall_pos T m
    have h3 := p4 hd
    omega
  cases ho : alook other (T.node to).ents with
  | none =>
    simp only [Option.isSome_none, Bool.false_eq_true, if_false]
    have hV := Tr.node_upd fr0 (Nd.delE s) to
    refine h.moved fr to n s other k2 hto ?_ ?_ p1 fun hd => ⟨hnb hd, hbt hd⟩
    · rw [hV]; split
      · rename_i e
        show alook other (adel s (T.node fr).ents) = none
        rw [alook_adel _ _ (h.rising fr).nodup, ← e, ho]
        split <;> rfl
      · exact ho
    · rw [hV]; split
      · have := adel_length k2
        have := h.size fr
        show (adel s (T.node fr).ents).length < 32
        omega
      · rename_i e
        refine Classical.byContradiction fun hc => c4 ⟨ho, fun x => e x.symm, by omega⟩
  | some o =>
    simp only [Option.isSome_some, if_true]
    rw [ho] at hmo c3
    have hon : o ≠ n := fun e => c3 (by rw [e])
    obtain ⟨e1, e2, e3, o0, o1, e6⟩ := h.pos ho
    obtain ⟨g1, g2⟩ := Tr.drop_ok k3 ho hmo o0
    have hlk : T.look to other = (o, 0) := by
      unfold Tr.look
      simp [c2, ho]
    have hgone := h.drop_gone (d := decide ((T.node n).kind = 2#8)) hlk g1
    have h1 := h.drop to other (decide ((T.node n).kind = 2#8))
    generalize (T.drop to other (decide ((T.node n).kind = 2#8))).1 = T1 at *
    have hm := hmo
    unfold Tr.mayOld at hm
    have of : fr ≠ o := by
      rintro rfl
      have hpos : 0 < (T.node fr).ents.length := by
        cases he : (T.node fr).ents with
        | nil => rw [he] at k2; simp [alook] at k2
        | cons a b => simp
      simp only [k1] at hm
      by_cases d1 : (T.node n).kind = 2#8
      · simp [d1, hpos] at hm
      · simp [d1] at hm
    have ot : to ≠ o := fun e => h.no_self (n := to) (s := other) (by have := alook_mem ho; rwa [← e] at this)
    have hsame : ∀ m, m ≠ o → (T1.node m).kind = (T.node m).kind ∧ (T1.node m).parent = (T.node m).parent ∧ (T1.node m).links = (T.node m).links := by
      intro m hmo
      rw [g2 m hmo]
      split
      · rename_i e; subst e; exact ⟨rfl, rfl, rfl⟩
      · exact ⟨rfl, rfl, rfl⟩
    have hlive : ∀ m, T1.Live m → m ≠ o ∧ T.Live m := by
      intro m hlv
      have hmo : m ≠ o := fun e => hgone (by rw [← e]; exact hlv)
      obtain ⟨q1, q2, q3⟩ := hsame m hmo
      exact ⟨hmo, by rw [← q1]; exact hlv.1, by rw [← q3]; exact hlv.2⟩
    have hbel : ∀ j m, T1.Live m → T1.Below n j m → T.Below n j m := by
      intro j
      induction j with
      | zero => intro m _ hb; exact hb
      | succ j ih =>
        intro m hm hb
        refine ⟨hb.1, ?_⟩
        rw [← (hsame m (hlive m hm).1).2.1]
        exact ih _ (h1.above hm hb.1).1 hb.2
    have hto1 : T1.Live to := by
      obtain ⟨q1, q2, q3⟩ := hsame to ot
      exact ⟨by rw [q1]; exact k3, by rw [q3]; exact p2⟩
    have hdp : T1.deep to = T.deep to := by
      unfold Tr.deep
      refine (Tr.deepF_of T1.Live (fun m hm hm1 => ?_) 17 to hto1).symm
      exact ⟨((hsame m (hlive m hm).1).2.1).symm, (h1.above hm hm1).1⟩
    have hso : fr = to → s ≠ other := by
      rintro e rfl
      rw [e, ho] at k2
      exact hon (Option.some.inj k2)
    have hfr1 : alook s (T1.node fr).ents = some n := by
      rw [g2 fr of]
      split
      · rename_i e
        show alook s (adel other (T.node to).ents) = some n
        rw [alook_adel _ _ (h.rising to).nodup, if_neg (hso e), ← e, k2]
      · exact k2
    have fr10 : (T1.node fr).kind ≠ 0#8 := by rw [(hsame fr of).1]; exact fr0
    have hV := Tr.node_upd fr10 (Nd.delE s) to
    have hent : (T1.node to).ents = adel other (T.node to).ents := by rw [g2 to ot, if_pos rfl]; rfl
    have hdl := adel_length ho
    have hsz := h.size to
    refine h1.moved fr to n s other hfr1 hto1 ?_ ?_ p1 fun hd => ?_
    · rw [hV]; split
      · rename_i e
        show alook other (adel s (T1.node fr).ents) = none
        rw [alook_adel _ _ (h1.rising fr).nodup, ← e, hent, alook_adel _ _ (h.rising to).nodup]
        simp
      · rw [hent, alook_adel _ _ (h.rising to).nodup, if_pos rfl]
    · rw [hV]; split
      · rename_i e
        have := (adel_sub s (T1.node fr).ents).length_le
        rw [← e, hent] at this
        show (adel s (T1.node fr).ents).length < 32
        rw [← e, hent]
        omega
      · rw [hent]; omega
    · rw [(hsame n (Ne.symm hon)).1] at hd
      rw [hdp]
      exact ⟨fun j hb => hnb hd j (hbel j to hto1 hb), fun j m hm hb => hbt hd j m (hlive m hm).2 (hbel j m hm hb)⟩
end
end Go.AM
end
section
namespace Go.AM
open Go.Sort
section
variable {E : Sy} {H H' : AH} {Q : Value → AH → Prop}
theorem bitsLen_shift (x k : Nat) (h : 2 ^ k ≤ x) : bitsLen x = bitsLen (x / 2 ^ k) + k := by
  have hp := Nat.two_pow_pos k
  apply Nat.le_antisymm
  · rw [bitsLen_le_iff, Nat.pow_add]
    have := lt_two_pow_bitsLen (x / 2 ^ k)
    rw [Nat.div_lt_iff_lt_mul hp] at this
    exact this
  · have h1 : k ≤ bitsLen x := by
      apply Classical.byContradiction
      intro hc
      have : bitsLen x ≤ k := by omega
      rw [bitsLen_le_iff] at this
      omega
    have : bitsLen (x / 2 ^ k) ≤ bitsLen x - k := by
      rw [bitsLen_le_iff, Nat.div_lt_iff_lt_mul hp, ← Nat.pow_add, Nat.sub_add_cancel h1]
      exact lt_two_pow_bitsLen x
    omega
def len8tab : List UInt8 := (List.range 256).map fun n => UInt8.ofNat (bitsLen n)
theorem len8tab_at : ∀ n < 256, len8tab[n]? = some (UInt8.ofNat (bitsLen n)) := by decide +kernel
theorem bitsLen_le8 : ∀ n < 256, bitsLen n ≤ 8 := by decide +kernel
theorem len8_ix (x : BitVec 8) : ixStr (str len8tab) (u8 x) = some (u8 (BitVec.ofNat 8 (bitsLen x.toNat))) := by
  rw [ixStr_u8]
  have hx := x.isLt
  have hl : len8tab.length = 256 := by decide +kernel
  have hlt : x.toNat < len8tab.length := by omega
  rw [ixStr_s len8tab x.toNat hlt]
  have := len8tab_at x.toNat (by omega)
  rw [List.getElem?_eq_getElem hlt] at this
  simp only [Option.some.injEq] at this
  rw [this]
  rfl
theorem len_tail (l : List UInt8) (hl : l = len8tab) (x : BitVec 64) (hx : x.toNat < 256) (k : Nat) (hk : k < 1000) (hQ : Q (vi ((bitsLen x.toNat + k : Nat) : Int)) H) :
    (opt (convInt .u8 (u64 x)) fun v1 => opt (ixStr (.string ⟨l.toArray⟩) v1) fun v2 => opt (convInt .i64 v2) fun v3 => opt (binInt .add (vi k) v3) fun v4 => Q v4 H) := by
  subst hl
  have e1 : (x.setWidth 8).toNat = x.toNat := by rw [BitVec.toNat_setWidth, Nat.mod_eq_of_lt (by omega)]
  have e2 := bitsLen_le8 x.toNat hx
  simp only [u64_to_u8, tk_eq, opt_some]
  rw [show (Value.string ⟨len8tab.toArray⟩) = str len8tab from rfl, len8_ix, e1]
  simp only [opt_some, u8_to_i64, tk_eq, BitVec.toNat_ofNat]
  rw [Nat.mod_eq_of_lt (by omega), i64_add_nat _ _ (by omega), opt_some, Nat.add_comm]
  exact hQ
set_option maxRecDepth 100000
theorem S.f26 (hE : Fold E) (x : BitVec 64) (hx : x.toNat < 2 ^ 32) (hQ : Q (vi (bitsLen x.toNat : Nat)) H) : E.call (E.fid i.f26) [u64 x] H Q := by
  apply hE.f26
  simp only [F.f26, ifB_false]
  apply hE.f28
  have c0 : ¬ 4294967296 ≤ x.toNat := by omega
  have t3 : ∀ (y : BitVec 64) (k : Nat), y.toNat < 256 → k < 1000 → bitsLen x.toNat = bitsLen y.toNat + k → F.f28_j3 E Q (u64 y) (vi k) H := by
    intro y k hy hk e
    unfold F.f28_j3
    refine len_tail _ ?_ y hy k hk ?_
    · decide +kernel
    · rw [← e]; exact hQ
  have t2 : ∀ (y : BitVec 64) (k : Nat), y.toNat < 65536 → k < 900 → bitsLen x.toNat = bitsLen y.toNat + k → F.f28_j2 E Q (u64 y) (vi k) H := by
    intro y k hy hk e
    by_cases h : 256 ≤ y.toNat
    · have h8 : (y >>> 8).toNat = y.toNat / 256 := by rw [BitVec.toNat_ushiftRight, Nat.shiftRight_eq_div_pow]
      have hs := bitsLen_shift y.toNat 8 (by omega)
      rw [show (2 : Nat) ^ 8 = 256 from rfl] at hs
      have hk8 : binInt .add (vi k) (.int .i64 8) = some (vi ((k + 8 : Nat) : Int)) := i64_add_nat k 8 (by omega)
      simp only [F.f28_j2, u64_lit 256 (by decide), u64_geq, tk_eq, opt_some]
      simp [h, hk8]
      have := t3 (y >>> 8) (k + 8) (by omega) (by omega) (by rw [e, hs, h8]; omega)
      simpa using this
    · simp only [F.f28_j2, u64_lit 256 (by decide), u64_geq, tk_eq, opt_some]
      simp [h]
      exact t3 y k (by omega) (by omega) e
  by_cases h : 65536 ≤ x.toNat
  · have h8 : (x >>> 16).toNat = x.toNat / 65536 := by rw [BitVec.toNat_ushiftRight, Nat.shiftRight_eq_div_pow]
    have hs := bitsLen_shift x.toNat 16 (by omega)
    rw [show (2 : Nat) ^ 16 = 65536 from rfl] at hs
    have hk8 : binInt .add (.int .i64 0) (.int .i64 16) = some (vi ((16 : Nat) : Int)) := i64_add_nat 0 16 (by omega)
    simp [F.f28, F.f28_j1, c0, h, hk8]
    exact t2 (x >>> 16) 16 (by omega) (by omega) (by rw [hs, h8])
  · simp [F.f28, F.f28_j1, c0, h]
    exact t2 x 0 (by omega) (by omega) rfl
theorem S.f69 (hE : Fold E) (x : Nat) (hx : x < 2 ^ 32) (hQ : Q (u64 (BitVec.ofNat 64 (2 ^ bitsLen x))) H) : E.call (E.fid i.f69) [vi x] H Q := by
  apply hE.f69
  have e1 : (BitVec.ofNat 64 x).toNat = x := by rw [BitVec.toNat_ofNat, Nat.mod_eq_of_lt (by omega)]
  have hc : convInt .u64 (vi x) = some (u64 (BitVec.ofNat 64 x)) := by
    rw [i64_to_u64, BitVec.ofInt_natCast]
  simp only [F.f69, hc, tk_eq, opt_some]
  refine S.f26 hE _ (by rw [e1]; exact hx) ?_
  rw [e1]
  have := u64_shl 1#64 .i64 (bitsLen x)
  have l1 : (.int .u64 1 : Value) = u64 1#64 := rfl
  have e2 : (1#64 <<< bitsLen x) = BitVec.ofNat 64 (2 ^ bitsLen x) := by
    apply BitVec.eq_of_toNat_eq
    rw [BitVec.toNat_shiftLeft, Nat.shiftLeft_eq]
    simp
  rw [l1, this, opt_some, e2]
  exact hQ
theorem S.f84 (hE : Fold E) (r : Nat) (x : BitVec 64) (hr : H.get r = .cells [u64 x] none) (hQ : ∀ y, Q (u64 y) (H.put r (.cells [u64 y] none))) : E.call (E.fid i.f84) [ptr r 0] H Q := by
  apply hE.f84
  have hlt := AH.lt_cells hr
  have l1 : (.int .u64 13 : Value) = u64 13#64 := rfl
  have l2 : (.int .u64 7 : Value) = u64 7#64 := rfl
  have l3 : (.int .u64 17 : Value) = u64 17#64 := rfl
  simp [F.f84, hr, l1, l2, l3, AH.get_put, hlt]
  exact hQ _
end
end Go.AM
end
section
namespace Go.AM
open Go.Sort
section
variable {E : Sy} {H H' : AH} {Q : Value → AH → Prop} {b c n : Nat} {d : Array (BitVec 16)} {tail : List Value} {f : Option Nat}
theorem enc_inode_Number_plain : ∀ x : BitVec 16, plain1 (u16 x) = true := fun _ => rfl
theorem S.f0 (hE : Fold E) (x y : BitVec 16) (hQ : Q (vb (lt16 x y)) H) : E.call (E.fid i.f0) [u16 x, u16 y] H Q := by
  apply hE.f0
  simp only [F.f0]
  apply hE.f2
  simp [F.f2]
  exact hQ
theorem S.f63 (hE : Fold E) (hg : H.get b = arrO u16 d tail f) (hn : d.size = n) (hsz : n < 2 ^ 60) (a e : Nat) (hae : a ≤ e) (he : e ≤ n)
    (hQ : ∀ H', SortTo H b u16 tail f (insertionSort lt16 d a e) H' → Q (.tuple #[]) H') : E.call (E.fid i.f63) [slc b 0 n c, vi a, vi e] H Q := by
  apply hE.f63
  simp only [F.f63, tk_eq]
  rw [i64_succ a (by omega), opt_some]
  unfold insertionSort at hQ
  obtain ⟨R, hR⟩ : ∃ R, R = insOuter lt16 a e (a + 1) d := ⟨_, rfl⟩
  rw [← hR] at hQ
  refine LoopL.ind (fun m l H' => ∃ (j : Nat) (d' : Array (BitVec 16)), l = [slc b 0 n c, vi a, vi e, vi j] ∧ SortTo H b u16 tail f d' H' ∧ d'.size = n ∧ R = insOuter lt16 a e j d' ∧ a < j ∧ m = e - j) ?_ (e - (a + 1)) ⟨a + 1, d, rfl, .refl hg, hn, hR, by omega, rfl⟩
  rintro m _ H1 X hX ⟨j, d1, rfl, s1, n1, r1, haj, rfl⟩
  unfold insOuter at r1
  by_cases hj : j < e
  · rw [if_pos hj] at r1
    have hj' : (j : Int) < e := by omega
    simp [F.f63_l1, hj']
    refine LoopL.ind (fun m l H2 => ∃ (k : Nat) (d2 : Array (BitVec 16)), l = [slc b 0 n c, vi a, vi e, vi j, vi k] ∧ SortTo H b u16 tail f d2 H2 ∧ d2.size = n ∧ insInner lt16 a j d1 = insInner lt16 a k d2 ∧ k ≤ j ∧ m = k) ?_ j ⟨j, d1, rfl, s1, n1, rfl, Nat.le_refl _, rfl⟩
    rintro m _ H2 X1 hX1 ⟨k, d2, rfl, s2, n2, r2, hkj, rfl⟩
    have done : insInner lt16 a m d2 = d2 → ∀ l, l = [slc b 0 n c, vi a, vi e, vi ((j + 1 : Nat) : Int)] → X l H2 := by
      rintro e2 l rfl
      rw [e2] at r2
      rw [r2] at r1
      exact hX (e - (j + 1)) (by omega) _ _ ⟨j + 1, d2, rfl, s2, n2, r1, by omega, rfl⟩
    by_cases hka : a < m
    · obtain ⟨k, rfl⟩ : ∃ k, m = k + 1 := ⟨m - 1, by omega⟩
      have hka' : (a : Int) < ((k + 1 : Nat) : Int) := by omega
      have f1 := arr_ix (b := b) (c := c) (n := n) (i := k + 1) (by omega)
      have f2 := arr_ix (b := b) (c := c) (n := n) (i := k) (by omega)
      have g1 := arr_load s2.get (i := k + 1) (by omega)
      have g2 := arr_load s2.get (i := k) (by omega)
      have hd : binInt .sub (vi ((k + 1 : Nat) : Int)) (.int .i64 1) = some (vi (k : Int)) := i64_dec (k + 1) (by omega) (by omega)
      obtain ⟨w1, w2⟩ := arr_swap enc_inode_Number_plain s2.get (i := k + 1) (j := k) (by omega) (by omega)
      have hjj := i64_succ j (by omega)
      simp only [insInner, hka, decide_true, Bool.true_and] at r2 done
      generalize hk1 : k + 1 = k1 at *
      simp [-store1_ptr, -load1_ptr, F.f63_l2, hka', f1, f2, g1, g2, hd]
      refine S.f0 hE _ _ ?_
      by_cases hl : lt16 d2[k1]! d2[k]! = true
      · simp only [hl, if_true] at r2
        simp [-store1_ptr, -load1_ptr, hl, f1, f2, g1, g2, hd, w1, w2]
        exact hX1 k (by omega) _ _ ⟨k, _, rfl, s2.put _, by rw [size_swp]; exact n2, r2, by omega, rfl⟩
      · simp only [hl, if_false] at done
        simp [-store1_ptr, -load1_ptr, hl, hjj]
        exact done rfl _ rfl
    · have hka' : ¬ (a : Int) < (m : Int) := by omega
      have hjj := i64_succ j (by omega)
      simp [-store1_ptr, -load1_ptr, F.f63_l2, hka', hjj]
      refine done ?_ _ rfl
      cases m with
      | zero => rfl
      | succ k => simp [insInner, hka]
  · rw [if_neg hj] at r1
    subst r1
    have hj' : ¬ (j : Int) < e := by omega
    simp [F.f63_l1, hj']
    exact hQ _ s1
theorem S.f82 (hE : Fold E) (hg : H.get b = arrO u16 d tail f) (hn : d.size = n) (hsz : n < 2 ^ 60) (lo hi first : Nat) (hlo : lo ≤ n) (hf : first + hi ≤ n)
    (hQ : ∀ H', SortTo H b u16 tail f (siftDown lt16 hi first lo d) H' → Q (.tuple #[]) H') : E.call (E.fid i.f82) [slc b 0 n c, vi lo, vi hi, vi first] H Q := by
  apply hE.f82
  simp only [F.f82, tk_eq]
  obtain ⟨R, hR⟩ : ∃ R, R = siftDown lt16 hi first lo d := ⟨_, rfl⟩
  rw [← hR] at hQ
  refine LoopL.ind (fun m l H' => ∃ (r : Nat) (d' : Array (BitVec 16)), l = [slc b 0 n c, vi hi, vi first, vi r] ∧ SortTo H b u16 tail f d' H' ∧ d'.size = n ∧ R = siftDown lt16 hi first r d' ∧ r ≤ n ∧ m = hi - r) ?_ (hi - lo) ⟨lo, d, rfl, .refl hg, hn, hR, hlo, rfl⟩
  rintro m _ H1 X hX ⟨r, d1, rfl, s1, n1, r1, hr, rfl⟩
  have a1 := i64_dbl r (by omega)
  have a2 := i64_succ (2 * r) (by omega)
  have a3 := i64_succ (2 * r + 1) (by omega)
  have step : ∀ ch : Nat, r < ch → ch < hi → R = (if !lt16 d1[first + r]! d1[first + ch]! then d1 else siftDown lt16 hi first ch (swp d1 (first + r) (first + ch))) → F.f82_j1 E Q X (slc b 0 n c) (vi hi) (vi first) (vi r) (vi ch) H1 := by
    intro ch h1 h2 hR'
    have b1 := i64_add_nat first r (by omega)
    have b2 := i64_add_nat first ch (by omega)
    have f1 := arr_ix (b := b) (c := c) (n := n) (i := first + r) (by omega)
    have f2 := arr_ix (b := b) (c := c) (n := n) (i := first + ch) (by omega)
    have g1 := arr_load s1.get (i := first + r) (by omega)
    have g2 := arr_load s1.get (i := first + ch) (by omega)
    obtain ⟨w1, w2⟩ := arr_swap enc_inode_Number_plain s1.get (i := first + r) (j := first + ch) (by omega) (by omega)
    generalize hp : first + r = p at *
    generalize hq : first + ch = q at *
    simp [-store1_ptr, -load1_ptr, F.f82_j1, b1, b2, f1, f2, g1, g2]
    refine S.f0 hE _ _ ?_
    by_cases hl : lt16 d1[p]! d1[q]! = true
    · simp only [hl, Bool.not_true, Bool.false_eq_true, if_false] at hR'
      simp [-store1_ptr, -load1_ptr, hl, b1, b2, f1, f2, g1, g2, w1, w2]
      exact hX (hi - ch) (by omega) _ _ ⟨ch, _, rfl, s1.put _, by rw [size_swp]; exact n1, hR', by omega, rfl⟩
    · have hl : lt16 d1[p]! d1[q]! = false := by simpa using hl
      simp only [hl, Bool.not_false, if_true] at hR'
      subst hR'
      simp [-store1_ptr, -load1_ptr, hl]
      exact hQ _ s1
  rw [siftDown] at r1
  by_cases c1 : 2 * r + 1 ≥ hi
  · rw [dif_pos c1] at r1
    subst r1
    have c1' : (hi : Int) ≤ ((2 * r + 1 : Nat) : Int) := by omega
    generalize 2 * r + 1 = ch at *
    generalize 2 * r = rr at *
    simp [F.f82_l1, a1, a2, c1']
    exact hQ _ s1
  rw [dif_neg c1] at r1
  have c1' : ¬ (hi : Int) ≤ ((2 * r + 1 : Nat) : Int) := by omega
  have b1 := i64_add_nat first (2 * r + 1) (by omega)
  have b2 := i64_succ (first + (2 * r + 1)) (by omega)
  by_cases c2 : 2 * r + 1 + 1 < hi
  · have c2' : ((2 * r + 1 + 1 : Nat) : Int) < hi := by omega
    have f1 := arr_ix (b := b) (c := c) (n := n) (i := first + (2 * r + 1)) (by omega)
    have f2 := arr_ix (b := b) (c := c) (n := n) (i := first + (2 * r + 1) + 1) (by omega)
    have g1 := arr_load s1.get (i := first + (2 * r + 1)) (by omega)
    have g2 := arr_load s1.get (i := first + (2 * r + 1) + 1) (by omega)
    have st1 := step (2 * r + 1) (by omega) (by omega)
    have st2 := step (2 * r + 1 + 1) (by omega) c2
    rw [dif_pos (by omega : 2 * r + 2 < hi)] at r1
    simp only [c2, decide_true, Bool.true_and] at r1
    rw [show 2 * r + 2 = 2 * r + 1 + 1 by omega] at r1
    generalize hq2 : first + (2 * r + 1) + 1 = q2 at *
    generalize hq : first + (2 * r + 1) = q at *
    generalize hc2 : 2 * r + 1 + 1 = ch2 at *
    generalize hc1 : 2 * r + 1 = ch at *
    generalize 2 * r = rr at *
    simp [-store1_ptr, -load1_ptr, F.f82_l1, a1, a2, a3, c1', c2', b1, b2, f1, f2, g1, g2]
    refine S.f0 hE _ _ ?_
    by_cases hl : lt16 d1[q]! d1[q2]! = true
    · simp only [hl, if_true] at r1
      simp [hl, a3]
      exact st2 r1
    · simp only [hl, if_false] at r1
      simp [hl]
      exact st1 r1
  · have c2' : ¬ ((2 * r + 1 + 1 : Nat) : Int) < hi := by omega
    have st1 := step (2 * r + 1) (by omega) (by omega)
    simp only [c2, decide_false, Bool.false_and, Bool.false_eq_true, if_false] at r1
    generalize hc2 : 2 * r + 1 + 1 = ch2 at *
    generalize hc1 : 2 * r + 1 = ch at *
    generalize 2 * r = rr at *
    simp [-store1_ptr, -load1_ptr, F.f82_l1, a1, a2, a3, c1', c2']
    exact st1 r1
theorem size_siftDown_inode_Number (hi first r : Nat) (d : Array (BitVec 16)) : (siftDown lt16 hi first r d).size = d.size := by
  obtain ⟨m, hm⟩ : ∃ m, hi - r ≤ m := ⟨_, Nat.le_refl _⟩
  induction m generalizing r d with
  | zero =>
    rw [siftDown, dif_pos (by omega)]
  | succ m ih =>
    rw [siftDown]
    split
    · rfl
    · split
      · split
        · rfl
        · split
          · rw [ih _ _ (by omega), size_swp]
          · rfl
      · split
        · rfl
        · rw [ih _ _ (by omega), size_swp]
theorem S.f61 (hE : Fold E) (hg : H.get b = arrO u16 d tail f) (hn : d.size = n) (hsz : n < 2 ^ 60) (a e : Nat) (hae : a < e) (he : e ≤ n)
    (hQ : ∀ H', SortTo H b u16 tail f (heapSort lt16 d a e) H' → Q (.tuple #[]) H') : E.call (E.fid i.f61) [slc b 0 n c, vi a, vi e] H Q := by
  apply hE.f61
  have a1 := i64_sub_nat e a (by omega) (by omega)
  have a2 := i64_dec (e - a) (by omega) (by omega)
  have a3 := i64_quo_num (e - a - 1) 2 (by decide) (by omega)
  unfold heapSort at hQ
  have a1' : binInt .sub (vi e) (vi a) = some (vi ((e - a : Nat) : Int)) := a1
  generalize hw : e - a = w at *
  have a3' : binInt .quo (vi ((w - 1 : Nat) : Int)) (.int .i64 2) = some (vi (((w - 1) / 2 : Nat) : Int)) := a3
  generalize hw1 : w - 1 = w1 at *
  generalize hh : w1 / 2 = h2 at *
  have hh2 : h2 ≤ w1 := by rw [← hh]; exact Nat.div_le_self _ _
  simp only [F.f61, a1', a2, a3', tk_eq, opt_some]
  obtain ⟨R, hR⟩ : ∃ R, R = heapPop lt16 a w (heapBuild lt16 w a (h2 + 1) d) := ⟨_, rfl⟩
  rw [← hR] at hQ
  refine LoopL.ind (fun m l H' => ∃ (k : Nat) (d' : Array (BitVec 16)), l = [slc b 0 n c, vi a, vi 0, vi w, vi ((k : Int) - 1)] ∧ SortTo H b u16 tail f d' H' ∧ d'.size = n ∧ R = heapPop lt16 a w (heapBuild lt16 w a k d') ∧ k ≤ w ∧ m = k) ?_ (h2 + 1) ⟨h2 + 1, d, by simp, .refl hg, hn, hR, by omega, rfl⟩
  rintro m _ H1 X hX ⟨k, d1, rfl, s1, n1, r1, hk, rfl⟩
  cases m with
  | succ k =>
    have e1 : ((k + 1 : Nat) : Int) - 1 = (k : Int) := by omega
    have hd : binInt .sub (vi k) (.int .i64 1) = some (vi ((k : Int) - 1)) := i64_sub (by omega) (by omega)
    rw [e1]
    simp [F.f61_l1]
    refine S.f82 hE s1.get n1 hsz k w a (by omega) (by omega) fun H2 s2 => ?_
    simp only [hd, tk_eq, opt_some]
    exact hX k (by omega) _ _ ⟨k, _, rfl, s1.trans s2, by rw [size_siftDown_inode_Number]; exact n1, by rw [r1]; rfl, by omega, rfl⟩
  | zero =>
    have hd : binInt .sub (vi w) (.int .i64 1) = some (vi ((w : Int) - 1)) := i64_sub (by omega) (by omega)
    simp [F.f61_l1, hd]
    clear hX
    refine LoopL.ind (fun m l H' => ∃ (k : Nat) (d' : Array (BitVec 16)), l = [slc b 0 n c, vi a, vi 0, vi ((k : Int) - 1)] ∧ SortTo H b u16 tail f d' H' ∧ d'.size = n ∧ R = heapPop lt16 a k d' ∧ k ≤ w ∧ m = k) ?_ w ⟨w, d1, rfl, s1, n1, r1, Nat.le_refl _, rfl⟩
    rintro m _ H2 X hX ⟨k, d2, rfl, s2, n2, r2, hk, rfl⟩
    cases m with
    | succ k =>
      have e1 : ((k + 1 : Nat) : Int) - 1 = (k : Int) := by omega
      have hd : binInt .sub (vi k) (.int .i64 1) = some (vi ((k : Int) - 1)) := i64_sub (by omega) (by omega)
      have b1 := i64_add_nat a k (by omega)
      have f1 := arr_ix (b := b) (c := c) (n := n) (i := a) (by omega)
      have f2 := arr_ix (b := b) (c := c) (n := n) (i := a + k) (by omega)
      have g1 := arr_load s2.get (i := a) (by omega)
      have g2 := arr_load s2.get (i := a + k) (by omega)
      obtain ⟨w1, w2⟩ := arr_swap enc_inode_Number_plain s2.get (i := a) (j := a + k) (by omega) (by omega)
      rw [e1]
      rw [heapPop] at r2
      generalize hq : a + k = q at *
      simp [-store1_ptr, -load1_ptr, F.f61_l2, b1, f1, f2, g1, g2, w1, w2]
      have s3 := s2.put (swp d2 a q)
      refine S.f82 hE s3.get (by rw [size_swp]; exact n2) hsz 0 k a (by omega) (by omega) fun H3 s4 => ?_
      simp only [hd, tk_eq, opt_some]
      exact hX k (by omega) _ _ ⟨k, _, rfl, s3.trans s4, by rw [size_siftDown_inode_Number, size_swp]; exact n2, r2, by omega, rfl⟩
    | zero =>
      simp [F.f61_l2]
      rw [heapPop] at r2
      subst r2
      exact hQ _ s2
theorem S.f80 (hE : Fold E) (hg : H.get b = arrO u16 d tail f) (hn : d.size = n) (hsz : n < 2 ^ 60) (a e : Nat) (hae : a < e) (he : e ≤ n)
    (hQ : ∀ H', SortTo H b u16 tail f (reverseRange d a e) H' → Q (.tuple #[]) H') : E.call (E.fid i.f80) [slc b 0 n c, vi a, vi e] H Q := by
  apply hE.f80
  have a1 := i64_dec e (by omega) (by omega)
  unfold reverseRange at hQ
  simp only [F.f80, a1, tk_eq, opt_some]
  obtain ⟨R, hR⟩ : ∃ R, R = reverseLoop a (e - 1) d := ⟨_, rfl⟩
  rw [← hR] at hQ
  refine LoopL.ind (fun m l H' => ∃ (p q : Nat) (d' : Array (BitVec 16)), l = [slc b 0 n c, vi p, vi q] ∧ SortTo H b u16 tail f d' H' ∧ d'.size = n ∧ R = reverseLoop p q d' ∧ p ≤ n ∧ q < n ∧ m = q - p) ?_ (e - 1 - a) ⟨a, e - 1, d, rfl, .refl hg, hn, hR, by omega, by omega, rfl⟩
  rintro m _ H1 X hX ⟨p, q, d1, rfl, s1, n1, r1, hp, hq, rfl⟩
  rw [reverseLoop] at r1
  by_cases h : p < q
  · rw [if_pos h] at r1
    have h' : (p : Int) < q := by omega
    have f1 := arr_ix (b := b) (c := c) (n := n) (i := p) (by omega)
    have f2 := arr_ix (b := b) (c := c) (n := n) (i := q) (by omega)
    have g1 := arr_load s1.get (i := p) (by omega)
    have g2 := arr_load s1.get (i := q) (by omega)
    obtain ⟨w1, w2⟩ := arr_swap enc_inode_Number_plain s1.get (i := p) (j := q) (by omega) (by omega)
    have b1 := i64_succ p (by omega)
    have b2 := i64_dec q (by omega) (by omega)
    simp [-store1_ptr, -load1_ptr, F.f80_l1, h', f1, f2, g1, g2, w1, w2, b1, b2]
    exact hX (q - 1 - (p + 1)) (by omega) _ _ ⟨p + 1, q - 1, _, rfl, s1.put _, by rw [size_swp]; exact n1, r1, by omega, by omega, rfl⟩
  · rw [if_neg h] at r1
    subst r1
    have h' : ¬ (p : Int) < q := by omega
    simp [F.f80_l1, h']
    exact hQ _ s1
theorem S.f76 (hE : Fold E) (hg : H.get b = arrO u16 d tail f) (hn : d.size = n) (hsz : n < 2 ^ 60) (a e pivot : Nat) (h1 : a ≤ pivot) (h2 : pivot < e) (he : e ≤ n)
    (hQ : ∀ H', SortTo H b u16 tail f (partition lt16 d a e pivot).2.2 H' → Q (.tuple #[vi (partition lt16 d a e pivot).1, vb (partition lt16 d a e pivot).2.1]) H') : E.call (E.fid i.f76) [slc b 0 n c, vi a, vi e, vi pivot] H Q := by
  apply hE.f76
  have f1 := arr_ix (b := b) (c := c) (n := n) (i := a) (by omega)
  have f2 := arr_ix (b := b) (c := c) (n := n) (i := pivot) (by omega)
  have g1 := arr_load hg (i := a) (by omega)
  have g2 := arr_load hg (i := pivot) (by omega)
  obtain ⟨w1, w2⟩ := arr_swap enc_inode_Number_plain hg (i := a) (j := pivot) (by omega) (by omega)
  have b1 := i64_succ a (by omega)
  have b2 := i64_dec e (by omega) (by omega)
  simp only [F.f76, f1, f2, g1, g2, w1, w2, b1, b2, tk_eq, opt_some]
  have s0 := (SortTo.refl hg).put (swp d a pivot)
  have n0 : (swp d a pivot).size = n := by rw [size_swp]; exact hn
  unfold partition at hQ
  generalize hd0 : swp d a pivot = d0 at *
  generalize hH0 : H.put b (arrO u16 d0 tail f) = H0 at *
  simp only at hQ
  obtain ⟨I, hI⟩ : ∃ I, I = scanUp (fun x => lt16 x d0[a]!) d0 (e - 1) (a + 1) := ⟨_, rfl⟩
  rw [← hI] at hQ
  obtain ⟨J, hJ⟩ : ∃ J, J = scanDown (fun x => !lt16 x d0[a]!) d0 I (e - 1) := ⟨_, rfl⟩
  rw [← hJ] at hQ
  have hIl := sUp_le (fun x => lt16 x d0[a]!) d0 (e - 1) _ (a + 1) (Nat.le_refl _)
  rw [← hI] at hIl
  have hJl := sDown_le (fun x => !lt16 x d0[a]!) d0 I (e - 1)
  rw [← hJ] at hJl
  refine LoopL.ind (fun m l H' => H0 = H' ∧ ∃ p : Nat, l = [slc b 0 n c, vi a, vi p, vi ((e - 1 : Nat) : Int)] ∧ I = scanUp (fun x => lt16 x d0[a]!) d0 (e - 1) p ∧ a + 1 ≤ p ∧ p ≤ e ∧ m = e - p) ?_ (e - (a + 1)) ⟨rfl, a + 1, rfl, hI, Nat.le_refl _, by omega, rfl⟩
  rintro m _ _ X hX ⟨rfl, p, rfl, r1, hp1, hp2, rfl⟩
  rw [scanUp] at r1
  have exit1 : I = p → LoopL (fun l H X0 => F.f76_l2 E Q (nth l 0) (nth l 1) (nth l 2) (nth l 3) H X0) [slc b 0 n c, vi a, vi p, vi ((e - 1 : Nat) : Int)] H0 := by
    rintro rfl
    clear hX r1
    refine LoopL.ind (fun m l H' => H0 = H' ∧ ∃ q : Nat, l = [slc b 0 n c, vi a, vi I, vi q] ∧ J = scanDown (fun x => !lt16 x d0[a]!) d0 I q ∧ q ≤ e - 1 ∧ I ≤ q + 1 ∧ m = q) ?_ (e - 1) ⟨rfl, e - 1, rfl, hJ, Nat.le_refl _, by omega, rfl⟩
    rintro m _ _ X hX ⟨rfl, q, rfl, r1, hq1, hq2, rfl⟩
    have exit2 : J = m → F.f76_l2 E Q (slc b 0 n c) (vi a) (vi I) (vi m) H0 X := by
      rintro rfl
      clear hX
      have f1 := arr_ix (b := b) (c := c) (n := n) (i := a) (by omega)
      have f2 := arr_ix (b := b) (c := c) (n := n) (i := J) (by omega)
      have g1 := arr_load s0.get (i := a) (by omega)
      have g2 := arr_load s0.get (i := J) (by omega)
      obtain ⟨w1, w2⟩ := arr_swap enc_inode_Number_plain s0.get (i := J) (j := a) (by omega) (by omega)
      by_cases hij : I ≤ J
      · have hij' : (I : Int) ≤ J := by omega
        have hij'' : ¬ (J : Int) < I := by omega
        have hnl : lt16 d0[J]! d0[a]! = true := by
          cases J with
          | zero => omega
          | succ q =>
            rw [scanDown] at r1
            split at r1
            · have := sDown_le (fun x => !lt16 x d0[a]!) d0 I q
              omega
            · rename_i hc
              simp at hc
              exact hc (by omega)
        have f3 := arr_ix (b := b) (c := c) (n := n) (i := I) (by omega)
        have g3 := arr_load s0.get (i := I) (by omega)
        obtain ⟨w3, w4⟩ := arr_swap enc_inode_Number_plain s0.get (i := I) (j := J) (by omega) (by omega)
        have b3 := i64_succ I (by omega)
        have b4 := i64_dec J (by omega) (by omega)
        simp [-store1_ptr, -load1_ptr, F.f76_l2, hij', f1, f2, g1, g2]
        refine S.f0 hE _ _ ?_
        simp [-store1_ptr, -load1_ptr, hnl, hij'', f1, f2, f3, g1, g2, g3, w3, w4, b3, b4]
        rw [if_neg (by omega)] at hQ
        have s1 := s0.put (swp d0 I J)
        have n1 : (swp d0 I J).size = n := by rw [size_swp]; exact n0
        generalize hd1 : swp d0 I J = d1 at *
        simp only at hQ
        obtain ⟨R, hR⟩ : ∃ R, R = partLoop lt16 a (I + 1) (J - 1) d1 := ⟨_, rfl⟩
        rw [← hR] at hQ
        refine LoopL.ind (fun m l H' => ∃ (p q : Nat) (d2 : Array (BitVec 16)), l = [slc b 0 n c, vi a, vi p, vi q] ∧ SortTo H b u16 tail f d2 H' ∧ d2.size = n ∧ R = partLoop lt16 a p q d2 ∧ a + 1 ≤ p ∧ p ≤ q + 1 + 1 ∧ p ≤ e ∧ q ≤ e - 1 ∧ a ≤ q ∧ m = q + 1 - p) ?_ (J - 1 + 1 - (I + 1)) ⟨I + 1, J - 1, d1, rfl, s1, n1, hR, by omega, by omega, by omega, by omega, by omega, rfl⟩
        clear hR s1 n1 hd1 w1 w2 w3 w4
        rintro m _ H2 X3 hX3 ⟨p, q, d2, rfl, s2, n2, r2, hp1, hp2, hpe, hq1, hqa, rfl⟩
        rw [partLoop] at r2
        simp only [F.f76_l3, nth_0, nth_1, nth_2, nth_3]
        obtain ⟨I2, hI2⟩ : ∃ I, I = scanUp (fun x => lt16 x d2[a]!) d2 q p := ⟨_, rfl⟩
        obtain ⟨J2, hJ2⟩ : ∃ J, J = scanDown (fun x => !lt16 x d2[a]!) d2 I2 q := ⟨_, rfl⟩
        rw [← hI2] at r2
        try simp only at r2
        rw [← hJ2] at r2
        have hIl2 := sUp_le (fun x => lt16 x d2[a]!) d2 q _ p (Nat.le_refl _)
        rw [← hI2] at hIl2
        have hJl2 := sDown_le (fun x => !lt16 x d2[a]!) d2 I2 q
        rw [← hJ2] at hJl2
        have hI2e : I2 ≤ q + 1 ∨ (I2 = p ∧ q + 1 < p) := by
          by_cases h : p ≤ q + 1
          · exact .inl (hIl2.2 h)
          · refine .inr ⟨?_, by omega⟩
            rw [hI2, scanUp, if_neg (by simp; omega)]
        have hJ2e : I2 ≤ q + 1 ∨ J2 = q := by
          rcases hI2e with h | ⟨h, h'⟩
          · exact .inl h
          · right
            rw [hJ2]
            cases q with
            | zero => rfl
            | succ q => rw [scanDown, if_neg (by simp; omega)]
        refine LoopL.ind (fun m l H' => H2 = H' ∧ ∃ p' : Nat, l = [slc b 0 n c, vi a, vi p', vi q] ∧ I2 = scanUp (fun x => lt16 x d2[a]!) d2 q p' ∧ p ≤ p' ∧ p' ≤ e ∧ m = q + 1 - p') ?_ (q + 1 - p) ⟨rfl, p, rfl, hI2, Nat.le_refl _, by omega, rfl⟩
        rintro m _ _ X4 hX4 ⟨rfl, p', rfl, r4, hp3, hp4, rfl⟩
        rw [scanUp] at r4
        have exit4 : I2 = p' → LoopL (fun l H X1 => F.f76_l5 E Q X3 (nth l 0) (nth l 1) (nth l 2) (nth l 3) H X1) [slc b 0 n c, vi a, vi p', vi q] H2 := by
          rintro rfl
          clear hX4 r4
          refine LoopL.ind (fun m l H' => H2 = H' ∧ ∃ q' : Nat, l = [slc b 0 n c, vi a, vi I2, vi q'] ∧ J2 = scanDown (fun x => !lt16 x d2[a]!) d2 I2 q' ∧ q' ≤ q ∧ m = q') ?_ q ⟨rfl, q, rfl, hJ2, Nat.le_refl _, rfl⟩
          rintro m _ _ X5 hX5 ⟨rfl, q', rfl, r5, hq3, rfl⟩
          have exit5 : J2 = m → F.f76_l5 E Q X3 (slc b 0 n c) (vi a) (vi I2) (vi m) H2 X5 := by
            rintro rfl
            clear hX5
            have f2 := arr_ix (b := b) (c := c) (n := n) (i := J2) (by omega)
            have g1 := arr_load s2.get (i := a) (by omega)
            have g2 := arr_load s2.get (i := J2) (by omega)
            by_cases hij : I2 ≤ J2
            · have hij' : (I2 : Int) ≤ J2 := by omega
              have hij'' : ¬ (J2 : Int) < I2 := by omega
              have hnl : lt16 d2[J2]! d2[a]! = true := by
                cases J2 with
                | zero => omega
                | succ q' =>
                  rw [scanDown] at r5
                  split at r5
                  · have := sDown_le (fun x => !lt16 x d2[a]!) d2 I2 q'
                    omega
                  · rename_i hc
                    simp at hc
                    exact hc (by omega)
              have f3 := arr_ix (b := b) (c := c) (n := n) (i := I2) (by omega)
              have g3 := arr_load s2.get (i := I2) (by omega)
              obtain ⟨w3, w4⟩ := arr_swap enc_inode_Number_plain s2.get (i := I2) (j := J2) (by omega) (by omega)
              have b3 := i64_succ I2 (by omega)
              have b4 := i64_dec J2 (by omega) (by omega)
              simp [-store1_ptr, -load1_ptr, F.f76_l5, hij', f1, f2, g1, g2]
              refine S.f0 hE _ _ ?_
              simp [-store1_ptr, -load1_ptr, hnl, hij'', f1, f2, f3, g1, g2, g3, w3, w4, b3, b4]
              rw [if_neg (by omega), dif_pos (by omega)] at r2
              exact hX3 (J2 - 1 + 1 - (I2 + 1)) (by omega) _ _ ⟨I2 + 1, J2 - 1, _, rfl, s2.put _, by rw [size_swp]; exact n2, r2, by omega, by omega, by omega, by omega, by omega, rfl⟩
            · have hij' : ¬ (I2 : Int) ≤ J2 := by omega
              have hij'' : (J2 : Int) < I2 := by omega
              rw [if_pos (by omega)] at r2
              subst r2
              obtain ⟨w1, w2⟩ := arr_swap enc_inode_Number_plain s2.get (i := J2) (j := a) (by omega) (by omega)
              simp [-store1_ptr, -load1_ptr, F.f76_l5, hij', hij'', f1, f2, g1, g2, w1, w2]
              exact hQ _ (s2.put _)
          cases m with
          | zero => exact exit5 r5
          | succ q' =>
            by_cases hc : I2 ≤ q' + 1 ∧ lt16 d2[q' + 1]! d2[a]! = false
            · rw [scanDown, if_pos (by simp [hc.1, hc.2])] at r5
              have hc' : (I2 : Int) ≤ ((q' + 1 : Nat) : Int) := by omega
              have f2 := arr_ix (b := b) (c := c) (n := n) (i := q' + 1) (by omega)
              have g1 := arr_load s2.get (i := a) (by omega)
              have g2 := arr_load s2.get (i := q' + 1) (by omega)
              have b4 : binInt .sub (vi ((q' + 1 : Nat) : Int)) (.int .i64 1) = some (vi (q' : Int)) := i64_dec (q' + 1) (by omega) (by omega)
              have hlt := hc.2
              generalize hqq : q' + 1 = qq at *
              simp [-store1_ptr, -load1_ptr, F.f76_l5, hc', f1, f2, g1, g2]
              refine S.f0 hE _ _ ?_
              simp [-store1_ptr, -load1_ptr, hlt, b4]
              exact hX5 q' (by omega) _ _ ⟨rfl, q', rfl, r5, by omega, rfl⟩
            · rw [scanDown, if_neg (by simpa using hc)] at r5
              exact exit5 r5
        by_cases hc : p' ≤ q ∧ lt16 d2[p']! d2[a]! = true
        · rw [if_pos (by simp [hc.1, hc.2])] at r4
          have hc' : (p' : Int) ≤ q := by omega
          have f2 := arr_ix (b := b) (c := c) (n := n) (i := p') (by omega)
          have g1 := arr_load s2.get (i := a) (by omega)
          have g2 := arr_load s2.get (i := p') (by omega)
          have b3 := i64_succ p' (by omega)
          simp [-store1_ptr, -load1_ptr, F.f76_l4, hc', f1, f2, g1, g2]
          refine S.f0 hE _ _ ?_
          simp [-store1_ptr, -load1_ptr, hc.2, b3]
          exact hX4 (q + 1 - (p' + 1)) (by omega) _ _ ⟨rfl, p' + 1, rfl, r4, by omega, by omega, rfl⟩
        · rw [if_neg (by simpa using hc)] at r4
          by_cases hpq : p' ≤ q
          · have hc' : (p' : Int) ≤ q := by omega
            have hlt : lt16 d2[p']! d2[a]! = false := by simpa using fun h => hc ⟨hpq, h⟩
            have f2 := arr_ix (b := b) (c := c) (n := n) (i := p') (by omega)
            have g1 := arr_load s2.get (i := a) (by omega)
            have g2 := arr_load s2.get (i := p') (by omega)
            simp [-store1_ptr, -load1_ptr, F.f76_l4, hc', f1, f2, g1, g2]
            refine S.f0 hE _ _ ?_
            simp [-store1_ptr, -load1_ptr, hlt]
            exact exit4 r4
          · have hc' : ¬ (p' : Int) ≤ q := by omega
            simp [-store1_ptr, -load1_ptr, F.f76_l4, hc']
            exact exit4 r4
      · have hij' : ¬ (I : Int) ≤ J := by omega
        have hij'' : (J : Int) < I := by omega
        simp [-store1_ptr, -load1_ptr, F.f76_l2, hij', hij'', f1, f2, g1, g2, w1, w2]
        rw [if_pos (by omega)] at hQ
        exact hQ _ (s0.put _)
    cases m with
    | zero => exact exit2 r1
    | succ q =>
      by_cases hc : I ≤ q + 1 ∧ lt16 d0[q + 1]! d0[a]! = false
      · rw [scanDown, if_pos (by simp [hc.1, hc.2])] at r1
        have hc' : (I : Int) ≤ ((q + 1 : Nat) : Int) := by omega
        have f2 := arr_ix (b := b) (c := c) (n := n) (i := q + 1) (by omega)
        have g1 := arr_load s0.get (i := a) (by omega)
        have g2 := arr_load s0.get (i := q + 1) (by omega)
        have b4 : binInt .sub (vi ((q + 1 : Nat) : Int)) (.int .i64 1) = some (vi (q : Int)) := i64_dec (q + 1) (by omega) (by omega)
        have hlt := hc.2
        generalize hqq : q + 1 = qq at *
        simp [-store1_ptr, -load1_ptr, F.f76_l2, hc', f1, f2, g1, g2]
        refine S.f0 hE _ _ ?_
        simp [-store1_ptr, -load1_ptr, hlt, b4]
        exact hX q (by omega) _ _ ⟨rfl, q, rfl, r1, by omega, by omega, rfl⟩
      · rw [scanDown, if_neg (by simpa using hc)] at r1
        exact exit2 r1
  by_cases hc : p ≤ e - 1 ∧ lt16 d0[p]! d0[a]! = true
  · rw [if_pos (by simp [hc.1, hc.2])] at r1
    have hc' : (p : Int) ≤ ((e - 1 : Nat) : Int) := by omega
    have f2 := arr_ix (b := b) (c := c) (n := n) (i := p) (by omega)
    have g1 := arr_load s0.get (i := a) (by omega)
    have g2 := arr_load s0.get (i := p) (by omega)
    have b3 := i64_succ p (by omega)
    generalize he1 : e - 1 = e1 at *
    simp [-store1_ptr, -load1_ptr, F.f76_l1, hc', f1, f2, g1, g2]
    refine S.f0 hE _ _ ?_
    simp [-store1_ptr, -load1_ptr, hc.2, b3]
    exact hX (e - (p + 1)) (by omega) _ _ ⟨rfl, p + 1, rfl, r1, by omega, by omega, rfl⟩
  · rw [if_neg (by simpa using hc)] at r1
    have exit1 := exit1 r1
    by_cases hpq : p ≤ e - 1
    · have hc' : (p : Int) ≤ ((e - 1 : Nat) : Int) := by omega
      have hlt : lt16 d0[p]! d0[a]! = false := by simpa using fun h => hc ⟨hpq, h⟩
      have f2 := arr_ix (b := b) (c := c) (n := n) (i := p) (by omega)
      have g1 := arr_load s0.get (i := a) (by omega)
      have g2 := arr_load s0.get (i := p) (by omega)
      generalize he1 : e - 1 = e1 at *
      simp [-store1_ptr, -load1_ptr, F.f76_l1, hc', f1, f2, g1, g2]
      refine S.f0 hE _ _ ?_
      simp [-store1_ptr, -load1_ptr, hlt]
      exact exit1
    · have hc' : ¬ (p : Int) ≤ ((e - 1 : Nat) : Int) := by omega
      generalize he1 : e - 1 = e1 at *
      simp [-store1_ptr, -load1_ptr, F.f76_l1, hc']
      exact exit1
theorem S.f74 (hE : Fold E) (hg : H.get b = arrO u16 d tail f) (hn : d.size = n) (hsz : n < 2 ^ 60) (a e pivot : Nat) (h1 : a ≤ pivot) (h2 : pivot < e) (he : e ≤ n)
    (hQ : ∀ H', SortTo H b u16 tail f (partitionEqual lt16 d a e pivot).2 H' → Q (vi (partitionEqual lt16 d a e pivot).1) H') : E.call (E.fid i.f74) [slc b 0 n c, vi a, vi e, vi pivot] H Q := by
  apply hE.f74
  have f1 := arr_ix (b := b) (c := c) (n := n) (i := a) (by omega)
  have f2 := arr_ix (b := b) (c := c) (n := n) (i := pivot) (by omega)
  have g1 := arr_load hg (i := a) (by omega)
  have g2 := arr_load hg (i := pivot) (by omega)
  obtain ⟨w1, w2⟩ := arr_swap enc_inode_Number_plain hg (i := a) (j := pivot) (by omega) (by omega)
  have b1 := i64_succ a (by omega)
  have b2 := i64_dec e (by omega) (by omega)
  simp only [F.f74, f1, f2, g1, g2, w1, w2, b1, b2, tk_eq, opt_some]
  have s0 := (SortTo.refl hg).put (swp d a pivot)
  have n0 : (swp d a pivot).size = n := by rw [size_swp]; exact hn
  unfold partitionEqual at hQ
  generalize hd0 : swp d a pivot = d0 at *
  generalize hH0 : H.put b (arrO u16 d0 tail f) = H0 at *
  clear w1 w2 f2 g1 g2
  obtain ⟨R, hR⟩ : ∃ R, R = partEqLoop lt16 a (a + 1) (e - 1) d0 := ⟨_, rfl⟩
  rw [← hR] at hQ
  refine LoopL.ind (fun m l H' => ∃ (p q : Nat) (d2 : Array (BitVec 16)), l = [slc b 0 n c, vi a, vi p, vi q] ∧ SortTo H b u16 tail f d2 H' ∧ d2.size = n ∧ R = partEqLoop lt16 a p q d2 ∧ a + 1 ≤ p ∧ p ≤ q + 1 + 1 ∧ p ≤ e ∧ q ≤ e - 1 ∧ a ≤ q ∧ m = q + 1 - p) ?_ (e - 1 + 1 - (a + 1)) ⟨a + 1, e - 1, d0, rfl, s0, n0, hR, by omega, by omega, by omega, by omega, by omega, rfl⟩
  clear hR s0 n0 hd0
  rintro m _ H2 X3 hX3 ⟨p, q, d2, rfl, s2, n2, r2, hp1, hp2, hpe, hq1, hqa, rfl⟩
  rw [partEqLoop] at r2
  simp only [F.f74_l1, nth_0, nth_1, nth_2, nth_3]
  obtain ⟨I2, hI2⟩ : ∃ I, I = scanUp (fun x => !lt16 d2[a]! x) d2 q p := ⟨_, rfl⟩
  obtain ⟨J2, hJ2⟩ : ∃ J, J = scanDown (fun x => lt16 d2[a]! x) d2 I2 q := ⟨_, rfl⟩
  rw [← hI2] at r2
  try simp only at r2
  rw [← hJ2] at r2
  have hIl2 := sUp_le (fun x => !lt16 d2[a]! x) d2 q _ p (Nat.le_refl _)
  rw [← hI2] at hIl2
  have hJl2 := sDown_le (fun x => lt16 d2[a]! x) d2 I2 q
  rw [← hJ2] at hJl2
  have hI2e : I2 ≤ q + 1 ∨ (I2 = p ∧ q + 1 < p) := by
    by_cases h : p ≤ q + 1
    · exact .inl (hIl2.2 h)
    · refine .inr ⟨?_, by omega⟩
      rw [hI2, scanUp, if_neg (by simp; omega)]
  have hJ2e : I2 ≤ q + 1 ∨ J2 = q := by
    rcases hI2e with h | ⟨h, h'⟩
    · exact .inl h
    · right
      rw [hJ2]
      cases q with
      | zero => rfl
      | succ q => rw [scanDown, if_neg (by simp; omega)]
  refine LoopL.ind (fun m l H' => H2 = H' ∧ ∃ p' : Nat, l = [slc b 0 n c, vi a, vi p', vi q] ∧ I2 = scanUp (fun x => !lt16 d2[a]! x) d2 q p' ∧ p ≤ p' ∧ p' ≤ e ∧ m = q + 1 - p') ?_ (q + 1 - p) ⟨rfl, p, rfl, hI2, Nat.le_refl _, by omega, rfl⟩
  rintro m _ _ X4 hX4 ⟨rfl, p', rfl, r4, hp3, hp4, rfl⟩
  rw [scanUp] at r4
  have exit4 : I2 = p' → LoopL (fun l H X1 => F.f74_l3 E Q X3 (nth l 0) (nth l 1) (nth l 2) (nth l 3) H X1) [slc b 0 n c, vi a, vi p', vi q] H2 := by
    rintro rfl
    clear hX4 r4
    refine LoopL.ind (fun m l H' => H2 = H' ∧ ∃ q' : Nat, l = [slc b 0 n c, vi a, vi I2, vi q'] ∧ J2 = scanDown (fun x => lt16 d2[a]! x) d2 I2 q' ∧ q' ≤ q ∧ m = q') ?_ q ⟨rfl, q, rfl, hJ2, Nat.le_refl _, rfl⟩
    rintro m _ _ X5 hX5 ⟨rfl, q', rfl, r5, hq3, rfl⟩
    have exit5 : J2 = m → F.f74_l3 E Q X3 (slc b 0 n c) (vi a) (vi I2) (vi m) H2 X5 := by
      rintro rfl
      clear hX5
      have f2 := arr_ix (b := b) (c := c) (n := n) (i := J2) (by omega)
      have g1 := arr_load s2.get (i := a) (by omega)
      have g2 := arr_load s2.get (i := J2) (by omega)
      by_cases hij : I2 ≤ J2
      · have hij' : (I2 : Int) ≤ J2 := by omega
        have hij'' : ¬ (J2 : Int) < I2 := by omega
        have hnl : lt16 d2[a]! d2[J2]! = false := by
          cases J2 with
          | zero => omega
          | succ q' =>
            rw [scanDown] at r5
            split at r5
            · have := sDown_le (fun x => lt16 d2[a]! x) d2 I2 q'
              omega
            · rename_i hc
              simp at hc
              exact hc (by omega)
        have f3 := arr_ix (b := b) (c := c) (n := n) (i := I2) (by omega)
        have g3 := arr_load s2.get (i := I2) (by omega)
        obtain ⟨w3, w4⟩ := arr_swap enc_inode_Number_plain s2.get (i := I2) (j := J2) (by omega) (by omega)
        have b3 := i64_succ I2 (by omega)
        have b4 := i64_dec J2 (by omega) (by omega)
        simp [-store1_ptr, -load1_ptr, F.f74_l3, hij', f1, f2, g1, g2]
        refine S.f0 hE _ _ ?_
        simp [-store1_ptr, -load1_ptr, hnl, hij'', f1, f2, f3, g1, g2, g3, w3, w4, b3, b4]
        rw [if_neg (by omega), dif_pos (by omega)] at r2
        exact hX3 (J2 - 1 + 1 - (I2 + 1)) (by omega) _ _ ⟨I2 + 1, J2 - 1, _, rfl, s2.put _, by rw [size_swp]; exact n2, r2, by omega, by omega, by omega, by omega, by omega, rfl⟩
      · have hij' : ¬ (I2 : Int) ≤ J2 := by omega
        have hij'' : (J2 : Int) < I2 := by omega
        rw [if_pos (by omega)] at r2
        subst r2
        simp [-store1_ptr, -load1_ptr, F.f74_l3, hij', hij'']
        exact hQ _ s2
    cases m with
    | zero => exact exit5 r5
    | succ q' =>
      by_cases hc : I2 ≤ q' + 1 ∧ lt16 d2[a]! d2[q' + 1]! = true
      · rw [scanDown, if_pos (by simp [hc.1, hc.2])] at r5
        have hc' : (I2 : Int) ≤ ((q' + 1 : Nat) : Int) := by omega
        have f2 := arr_ix (b := b) (c := c) (n := n) (i := q' + 1) (by omega)
        have g1 := arr_load s2.get (i := a) (by omega)
        have g2 := arr_load s2.get (i := q' + 1) (by omega)
        have b4 : binInt .sub (vi ((q' + 1 : Nat) : Int)) (.int .i64 1) = some (vi (q' : Int)) := i64_dec (q' + 1) (by omega) (by omega)
        have hlt := hc.2
        generalize hqq : q' + 1 = qq at *
        simp [-store1_ptr, -load1_ptr, F.f74_l3, hc', f1, f2, g1, g2]
        refine S.f0 hE _ _ ?_
        simp [-store1_ptr, -load1_ptr, hlt, b4]
        exact hX5 q' (by omega) _ _ ⟨rfl, q', rfl, r5, by omega, rfl⟩
      · rw [scanDown, if_neg (by simpa using hc)] at r5
        exact exit5 r5
  by_cases hc : p' ≤ q ∧ lt16 d2[a]! d2[p']! = false
  · rw [if_pos (by simp [hc.1, hc.2])] at r4
    have hc' : (p' : Int) ≤ q := by omega
    have f2 := arr_ix (b := b) (c := c) (n := n) (i := p') (by omega)
    have g1 := arr_load s2.get (i := a) (by omega)
    have g2 := arr_load s2.get (i := p') (by omega)
    have b3 := i64_succ p' (by omega)
    simp [-store1_ptr, -load1_ptr, F.f74_l2, hc', f1, f2, g1, g2]
    refine S.f0 hE _ _ ?_
    simp [-store1_ptr, -load1_ptr, hc.2, b3]
    exact hX4 (q + 1 - (p' + 1)) (by omega) _ _ ⟨rfl, p' + 1, rfl, r4, by omega, by omega, rfl⟩
  · rw [if_neg (by simpa using hc)] at r4
    by_cases hpq : p' ≤ q
    · have hc' : (p' : Int) ≤ q := by omega
      have hlt : lt16 d2[a]! d2[p']! = true := by simpa using fun h => hc ⟨hpq, h⟩
      have f2 := arr_ix (b := b) (c := c) (n := n) (i := p') (by omega)
      have g1 := arr_load s2.get (i := a) (by omega)
      have g2 := arr_load s2.get (i := p') (by omega)
      simp [-store1_ptr, -load1_ptr, F.f74_l2, hc', f1, f2, g1, g2]
      refine S.f0 hE _ _ ?_
      simp [-store1_ptr, -load1_ptr, hlt]
      exact exit4 r4
    · have hc' : ¬ (p' : Int) ≤ q := by omega
      simp [-store1_ptr, -load1_ptr, F.f74_l2, hc']
      exact exit4 r4
theorem S.f72 (hE : Fold E) (hg : H.get b = arrO u16 d tail f) (hn : d.size = n) (hsz : n < 2 ^ 60) (a e : Nat) (hae : a < e) (he : e ≤ n)
    (hQ : ∀ H', SortTo H b u16 tail f (partialInsertionSort lt16 d a e).1 H' → Q (vb (partialInsertionSort lt16 d a e).2) H') : E.call (E.fid i.f72) [slc b 0 n c, vi a, vi e] H Q := by
  apply hE.f72
  have b1 := i64_succ a (by omega)
  simp only [F.f72, b1, tk_eq, opt_some]
  unfold partialInsertionSort at hQ
  obtain ⟨R, hR⟩ : ∃ R, R = partialIns lt16 a e 5 (a + 1) d := ⟨_, rfl⟩
  rw [← hR] at hQ
  refine LoopL.ind (fun m l H' => ∃ (i : Nat) (d1 : Array (BitVec 16)), l = [slc b 0 n c, vi a, vi e, vi i, vi ((5 - m : Nat) : Int)] ∧ SortTo H b u16 tail f d1 H' ∧ d1.size = n ∧ R = partialIns lt16 a e m i d1 ∧ a + 1 ≤ i ∧ i ≤ e ∧ m ≤ 5) ?_ 5 ⟨a + 1, d, rfl, .refl hg, hn, hR, Nat.le_refl _, by omega, Nat.le_refl _⟩
  rintro m _ H1 X hX ⟨i0, d1, rfl, s1, n1, r1, hi1, hi2, hm⟩
  cases m with
  | zero =>
    simp [F.f72_l1]
    rw [partialIns] at r1
    subst r1
    exact hQ _ s1
  | succ m =>
    have hms : ((5 - (m + 1) : Nat) : Int) < 5 := by omega
    have hmi : binInt .add (vi ((5 - (m + 1) : Nat) : Int)) (.int .i64 1) = some (vi ((5 - m : Nat) : Int)) := by
      rw [i64_succ _ (by omega)]; congr 3; omega
    have hX : ∀ (i : Nat) (d2 : Array (BitVec 16)) H2, SortTo H b u16 tail f d2 H2 → d2.size = n → R = partialIns lt16 a e m i d2 → a + 1 ≤ i → i ≤ e → X [slc b 0 n c, vi a, vi e, vi i, vi ((5 - m : Nat) : Int)] H2 := fun i d2 H2 q1 q2 q3 q4 q5 => hX m (by omega) _ _ ⟨i, d2, rfl, q1, q2, q3, q4, q5, by omega⟩
    generalize hk : 5 - (m + 1) = k at *
    generalize hk' : 5 - m = k' at *
    simp [F.f72_l1, hms]
    rw [partialIns_succ] at r1
    obtain ⟨I, hI⟩ : ∃ I, I = scanSorted lt16 d1 e i0 := ⟨_, rfl⟩
    rw [← hI] at r1
    refine LoopL.ind (fun m l H' => H1 = H' ∧ ∃ i' : Nat, l = [slc b 0 n c, vi a, vi e, vi i', vi k] ∧ I = scanSorted lt16 d1 e i' ∧ a + 1 ≤ i' ∧ i' ≤ e ∧ m = e - i') ?_ (e - i0) ⟨rfl, i0, rfl, hI, hi1, hi2, rfl⟩
    rintro mm _ _ X1 hX1 ⟨rfl, i', rfl, r2, hi3, hi4, rfl⟩
    rw [scanSorted] at r2
    have b2 := i64_sub_nat e a (by omega) (by omega)
    have b2' : binInt .sub (vi e) (vi a) = some (vi ((e - a : Nat) : Int)) := b2
    have exit : I = i' →
        (opt (binInt .eql (vi i') (vi e)) fun v15 =>
         ifB v15 (Q (.bool true) H1) (
         opt (binInt .sub (vi e) (vi a)) fun v16 =>
         opt (binInt .lss v16 (.int .i64 50)) fun v17 =>
         ifB v17 (Q (.bool false) H1) (
         opt (binInt .sub (vi i') (.int .i64 1)) fun v18 =>
         opt (binInt .sub (vi i') (.int .i64 1)) fun v19 =>
         opt (ixSlc 1 (slc b 0 n c) v19) fun v20 =>
         opt (load1 v20 H1) fun v21 =>
         opt (ixSlc 1 (slc b 0 n c) (vi i')) fun v22 =>
         opt (load1 v22 H1) fun v23 =>
         opt (ixSlc 1 (slc b 0 n c) (vi i')) fun v24 =>
         opt (store1 v24 v21 H1) fun H12 =>
         opt (ixSlc 1 (slc b 0 n c) v18) fun v25 =>
         opt (store1 v25 v23 H12) fun H13 =>
         opt (binInt .sub (vi i') (vi a)) fun v26 =>
         opt (binInt .geq v26 (.int .i64 2)) fun v27 =>
         ifB v27 (
         opt (binInt .sub (vi i') (.int .i64 1)) fun v28 =>
         LoopL (fun l H X1 => F.f72_l4 E Q X (nth l 0) (nth l 1) (nth l 2) (nth l 3) (nth l 4) (nth l 5) H X1) [slc b 0 n c, vi a, vi e, vi i', vi k, v28] H13) (
         F.f72_j1 E Q X (slc b 0 n c) (vi a) (vi e) (vi i') (vi k) H13)))) := by
      rintro rfl
      clear hX1
      by_cases c1 : I = e
      · rw [if_pos c1] at r1
        subst r1
        simp [c1]
        exact hQ _ s1
      rw [if_neg c1] at r1
      have c1' : ¬ (I : Int) = e := by omega
      by_cases c2 : e - a < 50
      · rw [if_pos c2] at r1
        subst r1
        have c2' : ((e - a : Nat) : Int) < 50 := by omega
        generalize e - a = w at *
        simp [c1', b2', c2']
        exact hQ _ s1
      rw [if_neg c2] at r1
      have c2' : ¬ ((e - a : Nat) : Int) < 50 := by omega
      have b3 := i64_dec I (by omega) (by omega)
      have b4 := i64_sub_nat I a (by omega) (by omega)
      have b4' : binInt .sub (vi I) (vi a) = some (vi ((I - a : Nat) : Int)) := b4
      have f1 := arr_ix (b := b) (c := c) (n := n) (i := I) (by omega)
      have f2 := arr_ix (b := b) (c := c) (n := n) (i := I - 1) (by omega)
      have g1 := arr_load s1.get (i := I) (by omega)
      have g2 := arr_load s1.get (i := I - 1) (by omega)
      obtain ⟨w1, w2⟩ := arr_swap enc_inode_Number_plain s1.get (i := I) (j := I - 1) (by omega) (by omega)
      have s2 := s1.put (swp d1 I (I - 1))
      have n2 : (swp d1 I (I - 1)).size = n := by rw [size_swp]; exact n1
      have hkk : binInt .add (vi k) (.int .i64 1) = some (vi k') := hmi
      have j1 : ∀ (d3 : Array (BitVec 16)) H3, SortTo H b u16 tail f d3 H3 → d3.size = n → R = partialIns lt16 a e m I (fixUp lt16 e I d3) → F.f72_j1 E Q X (slc b 0 n c) (vi a) (vi e) (vi I) (vi k) H3 := by
        intro d3 H3 s3 n3 r3
        unfold fixUp at r3
        have b5 := i64_sub_nat e I (by omega) (by omega)
        have b5' : binInt .sub (vi e) (vi I) = some (vi ((e - I : Nat) : Int)) := b5
        by_cases c3 : e - I ≥ 2
        · rw [if_pos c3] at r3
          have c3' : (2 : Int) ≤ ((e - I : Nat) : Int) := by omega
          have b6 := i64_succ I (by omega)
          generalize hw : e - I = w at *
          simp [F.f72_j1, b5', c3', b6]
          obtain ⟨D, hD⟩ : ∃ D, D = shiftUp lt16 e (I + 1) d3 := ⟨_, rfl⟩
          rw [← hD] at r3
          refine LoopL.ind (fun mm l H' => ∃ (q : Nat) (d4 : Array (BitVec 16)), l = [slc b 0 n c, vi a, vi e, vi I, vi k, vi q] ∧ SortTo H b u16 tail f d4 H' ∧ d4.size = n ∧ D = shiftUp lt16 e q d4 ∧ 1 ≤ q ∧ q ≤ e ∧ mm = e - q) ?_ (e - (I + 1)) ⟨I + 1, d3, by simp, s3, n3, hD, by omega, by omega, rfl⟩
          rintro mm _ H4 X5 hX5 ⟨q, d4, rfl, s4, n4, r4, hq1, hq2, rfl⟩
          rw [shiftUp] at r4
          have done : D = d4 → X [slc b 0 n c, vi a, vi e, vi I, vi k'] H4 := by
            rintro rfl
            exact hX I D H4 s4 n4 r3 hi3 (by omega)
          by_cases c4 : q < e
          · have c4' : (q : Int) < e := by omega
            rw [if_pos c4] at r4
            have b7 := i64_dec q (by omega) (by omega)
            have b8 := i64_succ q (by omega)
            have f1 := arr_ix (b := b) (c := c) (n := n) (i := q) (by omega)
            have f2 := arr_ix (b := b) (c := c) (n := n) (i := q - 1) (by omega)
            have g1 := arr_load s4.get (i := q) (by omega)
            have g2 := arr_load s4.get (i := q - 1) (by omega)
            obtain ⟨w1, w2⟩ := arr_swap enc_inode_Number_plain s4.get (i := q) (j := q - 1) (by omega) (by omega)
            have hY := fun (d5 : Array (BitVec 16)) H5 q1 q2 q3 => hX5 (e - (q + 1)) (by omega) [slc b 0 n c, vi a, vi e, vi I, vi k, vi ((q + 1 : Nat) : Int)] H5 ⟨q + 1, d5, rfl, q1, q2, q3, by omega, by omega, rfl⟩
            generalize hq' : q - 1 = q' at *
            generalize hq'' : q + 1 = q'' at *
            simp [-store1_ptr, -load1_ptr, F.f72_l3, c4', b7, f1, f2, g1, g2]
            refine S.f0 hE _ _ ?_
            by_cases hl : lt16 d4[q]! d4[q']! = true
            · simp only [hl, Bool.not_true, Bool.false_eq_true, if_false] at r4
              simp [-store1_ptr, -load1_ptr, hl, b7, b8, f1, f2, g1, g2, w1, w2]
              exact hY _ _ (s4.put _) (by rw [size_swp]; exact n4) r4
            · have hl : lt16 d4[q]! d4[q']! = false := by simpa using hl
              simp only [hl, Bool.not_false, if_true] at r4
              simp [hl, hkk]
              exact done r4
          · have c4' : ¬ (q : Int) < e := by omega
            rw [if_neg c4] at r4
            simp [F.f72_l3, c4', hkk]
            exact done r4
        · rw [if_neg c3] at r3
          have c3' : ¬ (2 : Int) ≤ ((e - I : Nat) : Int) := by omega
          generalize hw : e - I = w at *
          simp [F.f72_j1, b5', c3', hkk]
          exact hX I d3 H3 s3 n3 r3 hi3 hi4
      unfold fixDown at r1
      by_cases c3 : I - a ≥ 2
      · rw [if_pos c3] at r1
        have c3' : (2 : Int) ≤ ((I - a : Nat) : Int) := by omega
        obtain ⟨D, hD⟩ : ∃ D, D = shiftDown lt16 (I - 1) (swp d1 I (I - 1)) := ⟨_, rfl⟩
        rw [← hD] at r1
        have goal4 : LoopL (fun l H X1 => F.f72_l4 E Q X (nth l 0) (nth l 1) (nth l 2) (nth l 3) (nth l 4) (nth l 5) H X1) [slc b 0 n c, vi a, vi e, vi I, vi k, vi ((I - 1 : Nat) : Int)] (H1.put b (arrO u16 (swp d1 I (I - 1)) tail f)) := by
          refine LoopL.ind (fun mm l H' => ∃ (q : Nat) (d4 : Array (BitVec 16)), l = [slc b 0 n c, vi a, vi e, vi I, vi k, vi q] ∧ SortTo H b u16 tail f d4 H' ∧ d4.size = n ∧ D = shiftDown lt16 q d4 ∧ q < n ∧ mm = q) ?_ (I - 1) ⟨I - 1, _, rfl, s2, n2, hD, by omega, rfl⟩
          rintro mm _ H4 X5 hX5 ⟨q, d4, rfl, s4, n4, r4, hq1, rfl⟩
          cases mm with
          | zero =>
            simp [F.f72_l4]
            rw [shiftDown] at r4
            subst r4
            exact j1 _ _ s4 n4 r1
          | succ q =>
            have c4' : (1 : Int) ≤ ((q + 1 : Nat) : Int) := by omega
            rw [shiftDown] at r4
            have b7 : binInt .sub (vi ((q + 1 : Nat) : Int)) (.int .i64 1) = some (vi (q : Int)) := i64_dec (q + 1) (by omega) (by omega)
            have f1 := arr_ix (b := b) (c := c) (n := n) (i := q + 1) (by omega)
            have f2 := arr_ix (b := b) (c := c) (n := n) (i := q) (by omega)
            have g1 := arr_load s4.get (i := q + 1) (by omega)
            have g2 := arr_load s4.get (i := q) (by omega)
            obtain ⟨w1, w2⟩ := arr_swap enc_inode_Number_plain s4.get (i := q + 1) (j := q) (by omega) (by omega)
            have hY := fun (d5 : Array (BitVec 16)) H5 q1 q2 q3 => hX5 q (by omega) [slc b 0 n c, vi a, vi e, vi I, vi k, vi (q : Int)] H5 ⟨q, d5, rfl, q1, q2, q3, by omega, rfl⟩
            generalize hq' : q + 1 = q' at *
            simp [-store1_ptr, -load1_ptr, F.f72_l4, c4', b7, f1, f2, g1, g2]
            refine S.f0 hE _ _ ?_
            by_cases hl : lt16 d4[q']! d4[q]! = true
            · simp only [hl, Bool.not_true, Bool.false_eq_true, if_false] at r4
              simp [-store1_ptr, -load1_ptr, hl, b7, f1, f2, g1, g2, w1, w2]
              exact hY _ _ (s4.put _) (by rw [size_swp]; exact n4) r4
            · have hl : lt16 d4[q']! d4[q]! = false := by simpa using hl
              simp only [hl, Bool.not_false, if_true] at r4
              simp [hl]
              subst r4
              exact j1 _ _ s4 n4 r1
        generalize hI' : I - 1 = I' at *
        generalize hw : e - a = w at *
        generalize hw2 : I - a = w2' at *
        simp [-store1_ptr, -load1_ptr, c1', b2', c2', b3, b4', f1, f2, g1, g2, w1, w2, c3']
        exact goal4
      · rw [if_neg c3] at r1
        have c3' : ¬ (2 : Int) ≤ ((I - a : Nat) : Int) := by omega
        have := j1 _ _ s2 n2 r1
        generalize hI' : I - 1 = I' at *
        generalize hw : e - a = w at *
        generalize hw2 : I - a = w2' at *
        simp [-store1_ptr, -load1_ptr, c1', b2', c2', b3, b4', f1, f2, g1, g2, w1, w2, c3']
        exact this
    have b7 := i64_succ i' (by omega)
    by_cases c4 : i' < e
    · have c4' : (i' : Int) < e := by omega
      have b6 := i64_dec i' (by omega) (by omega)
      have f1 := arr_ix (b := b) (c := c) (n := n) (i := i') (by omega)
      have f2 := arr_ix (b := b) (c := c) (n := n) (i := i' - 1) (by omega)
      have g1 := arr_load s1.get (i := i') (by omega)
      have g2 := arr_load s1.get (i := i' - 1) (by omega)
      by_cases hl : lt16 d1[i']! d1[i' - 1]! = true
      · rw [if_neg (by simp [hl])] at r2
        have := exit r2
        clear exit hX1
        generalize hI' : i' - 1 = I' at *
        simp [-store1_ptr, -load1_ptr, F.f72_l2, c4', b6, f1, f2, g1, g2]
        refine S.f0 hE _ _ ?_
        simp only [hl]
        simp only [un_not_z, Bool.not_true, tk_eq, opt_some, gd_tt, pick_true_z, ifB_false]
        exact this
      · have hl : lt16 d1[i']! d1[i' - 1]! = false := by simpa using hl
        rw [if_pos (by simp [hl, c4])] at r2
        clear exit
        have hX1 := hX1 (e - (i' + 1)) (by omega) [slc b 0 n c, vi a, vi e, vi ((i' + 1 : Nat) : Int), vi k] H1 ⟨rfl, i' + 1, rfl, r2, by omega, by omega, rfl⟩
        generalize hI' : i' - 1 = I' at *
        generalize hI'' : i' + 1 = I'' at *
        simp [-store1_ptr, -load1_ptr, F.f72_l2, c4', b6, f1, f2, g1, g2]
        refine S.f0 hE _ _ ?_
        simp [hl, b7]
        exact hX1
    · have c4' : ¬ (i' : Int) < e := by omega
      rw [if_neg (by simp [c4])] at r2
      have := exit r2
      clear exit hX1
      simp only [F.f72_l2, nth_0, nth_1, nth_2, nth_3, nth_4, i64_lss, c4', decide_false, tk_eq, opt_some, gd_ft, pick_false_z, ifB_false]
      exact this
theorem S.f70 (hE : Fold E) (hg : H.get b = arrO u16 d tail f) (hn : d.size = n) (p q : Nat) (hp : p < n) (hq : q < n) (s k : Nat) (hs : H.get s = .cells [vi k] none) (hk : k < 1000) (hsb : s ≠ b)
    (hQ : ∀ r1 r2 k' H', ((r1 = p ∧ r2 = q) ∨ (r1 = q ∧ r2 = p)) → Only [s] H H' → H'.get s = .cells [vi (k' : Nat)] none → k' ≤ k + 1 → Q (.tuple #[vi (r1 : Nat), vi (r2 : Nat)]) H') :
    E.call (E.fid i.f70) [slc b 0 n c, vi p, vi q, ptr s 0] H Q := by
  apply hE.f70
  have f1 := arr_ix (b := b) (c := c) (n := n) (i := p) hp
  have f2 := arr_ix (b := b) (c := c) (n := n) (i := q) hq
  have g1 := arr_load hg (i := p) (by omega)
  have g2 := arr_load hg (i := q) (by omega)
  have hlt := AH.lt_cells hs
  have b1 := i64_succ k (by omega)
  simp [-load1_ptr, F.f70, f1, f2, g1, g2]
  refine S.f0 hE _ _ ?_
  by_cases hl : lt16 d[q]! d[p]! = true
  · simp only [hl, ifB_true, nilCk_p, load1_ptr, hs, cell_cells_z, List.getElem?_cons_zero, tk_eq, opt_some, b1, store1_ptr, plain1_int, if_true, List.length_cons, List.length_nil, List.set_cons_zero]
    rw [if_pos (by omega), opt_some]
    exact hQ q p (k + 1) _ (.inr ⟨rfl, rfl⟩) ((Only.refl _ _).put (.inl (by simp)) _) (AH.get_put_self _ _ hlt) (Nat.le_refl _)
  · simp [hl]
    exact hQ p q k _ (.inl ⟨rfl, rfl⟩) (Only.refl _ _) hs (by omega)
theorem S.f67 (hE : Fold E) (hg : H.get b = arrO u16 d tail f) (hn : d.size = n) (p q r : Nat) (hp : p < n) (hq : q < n) (hr : r < n) (s k : Nat) (hs : H.get s = .cells [vi k] none) (hk : k < 900) (hsb : s ≠ b)
    (hQ : ∀ m k' H', (m = p ∨ m = q ∨ m = r) → Only [s] H H' → H'.get s = .cells [vi (k' : Nat)] none → k' ≤ k + 3 → Q (vi (m : Nat)) H') :
    E.call (E.fid i.f67) [slc b 0 n c, vi p, vi q, vi r, ptr s 0] H Q := by
  apply hE.f67
  have keep : ∀ {H'}, Only [s] H H' → H'.get b = arrO u16 d tail f := fun o => by rw [o.get (arr_lt hg) (by simpa using Ne.symm hsb)]; exact hg
  simp only [F.f67]
  refine S.f70 hE hg hn p q hp hq s k hs (by omega) hsb fun a1 a2 k1 H1 e1 o1 s1 l1 => ?_
  simp
  refine S.f70 hE (keep o1) hn a2 r (by omega) hr s k1 s1 (by omega) hsb fun a3 a4 k2 H2 e2 o2 s2 l2 => ?_
  have o12 := o1.trans' o2
  simp
  refine S.f70 hE (keep o12) hn a1 a3 (by omega) (by omega) s k2 s2 (by omega) hsb fun a5 a6 k3 H3 e3 o3 s3 l3 => ?_
  simp
  exact hQ a6 k3 H3 (by omega) (o12.trans' o3) s3 (by omega)
theorem S.f65 (hE : Fold E) (hg : H.get b = arrO u16 d tail f) (hn : d.size = n) (hsz : n < 2 ^ 60) (p : Nat) (hp0 : 1 ≤ p) (hp : p + 1 < n) (s k : Nat) (hs : H.get s = .cells [vi k] none) (hk : k < 900) (hsb : s ≠ b)
    (hQ : ∀ m k' H', (p - 1 ≤ m ∧ m ≤ p + 1) → Only [s] H H' → H'.get s = .cells [vi (k' : Nat)] none → k' ≤ k + 3 → Q (vi (m : Nat)) H') :
    E.call (E.fid i.f65) [slc b 0 n c, vi p, ptr s 0] H Q := by
  apply hE.f65
  have b1 := i64_dec p hp0 (by omega)
  have b2 := i64_succ p (by omega)
  simp only [F.f65, b1, b2, tk_eq, opt_some]
  refine S.f67 hE hg hn (p - 1) p (p + 1) (by omega) (by omega) hp s k hs hk hsb fun m k' H' e1 o1 s1 l1 => hQ m k' H' (by omega) o1 s1 l1
theorem S.f59 (hE : Fold E) (hg : H.get b = arrO u16 d tail f) (hn : d.size = n) (hsz : n < 2 ^ 60) (a e : Nat) (hae : a + 8 ≤ e) (he : e ≤ n)
    (hQ : ∀ (m : Nat) (h : Int) H', a ≤ m → m < e → Ext H H' → Q (.tuple #[vi m, vi h]) H') : E.call (E.fid i.f59) [slc b 0 n c, vi a, vi e] H Q := by
  apply hE.f59
  have a1 : binInt .sub (vi e) (vi a) = some (vi ((e - a : Nat) : Int)) := i64_sub_nat e a (by omega) (by omega)
  have hbl := arr_lt hg
  generalize hw : e - a = w at *
  have a2 : binInt .quo (vi (w : Int)) (.int .i64 4) = some (vi ((w / 4 : Nat) : Int)) := i64_quo_num w 4 (by decide) (by omega)
  have hq4 : w / 4 * 4 ≤ w := Nat.div_mul_le_self _ _
  have hq4' : 1 ≤ w / 4 := by omega
  have hq50 : 50 ≤ w → 12 ≤ w / 4 := fun h => by omega
  generalize hq : w / 4 = q at *
  have m1 : binInt .mul (vi (q : Int)) (.int .i64 1) = some (vi ((q * 1 : Nat) : Int)) := by rw [i64_mul (by omega) (by omega)]; congr 2
  have m2 : binInt .mul (vi (q : Int)) (.int .i64 2) = some (vi ((q * 2 : Nat) : Int)) := by rw [i64_mul (by omega) (by omega)]; congr 2
  have m3 : binInt .mul (vi (q : Int)) (.int .i64 3) = some (vi ((q * 3 : Nat) : Int)) := by rw [i64_mul (by omega) (by omega)]; congr 2
  have p1 := i64_add_nat a (q * 1) (by omega)
  have p2 := i64_add_nat a (q * 2) (by omega)
  have p3 := i64_add_nat a (q * 3) (by omega)
  have c8 : (8 : Int) ≤ w := by omega
  have hg1 : (H.new (.cells [vi 0] none)).get b = arrO u16 d tail f := by rw [AH.get_new_lt _ _ hbl]; exact hg
  have hs1 : (H.new (.cells [vi 0] none)).get H.next = .cells [vi ((0 : Nat) : Int)] none := AH.get_new_self _ _
  have hsb : H.next ≠ b := by omega
  have x1 : Ext H (H.new (.cells [vi 0] none)) := (Ext.refl H).new _
  have ext_of : ∀ {H'}, Only [H.next] (H.new (.cells [vi 0] none)) H' → Ext H H' := fun o => o.ext x1 (by simp)
  have keep : ∀ {H'}, Only [H.next] (H.new (.cells [vi 0] none)) H' → H'.get b = arrO u16 d tail f := fun o => by rw [o.get (arr_lt hg1) (by simpa using Ne.symm hsb)]; exact hg1
  have last : ∀ (m k : Nat) H', a ≤ m → m < e → Ext H H' → H'.get H.next = .cells [vi (k : Nat)] none → F.f59_j1 E Q (ptr H.next 0) (vi m) H' := by
    intro m k H' h1 h2 e1 s1
    by_cases k0 : (k : Int) = 0
    · simp [F.f59_j1, s1, k0]
      exact hQ m _ H' h1 h2 e1
    · by_cases k12 : (k : Int) = 12
      · simp [F.f59_j1, s1, k12]
        exact hQ m _ H' h1 h2 e1
      · have k0' : ¬ k = 0 := by omega
        simp [F.f59_j1, s1, k0', k12]
        exact hQ m _ H' h1 h2 e1
  have last2 : ∀ (x y z k : Nat) H', a ≤ x → x < e → a ≤ y → y < e → a ≤ z → z < e → Only [H.next] (H.new (.cells [vi 0] none)) H' → H'.get H.next = .cells [vi (k : Nat)] none → k < 900 → F.f59_j2 E Q (slc b 0 n c) (ptr H.next 0) (vi x) (vi y) (vi z) H' := by
    intro x y z k H' h1 h2 h3 h4 h5 h6 o1 s1 hk
    simp only [F.f59_j2]
    refine S.f67 hE (keep o1) hn x y z (by omega) (by omega) (by omega) H.next k s1 hk hsb fun m k' H2 hm o2 s2 _ => ?_
    exact last m k' H2 (by omega) (by omega) (ext_of (o1.trans' o2)) s2
  by_cases c50 : 50 ≤ w
  · have c50' : (50 : Int) ≤ w := by omega
    have hq50 := hq50 c50
    have g1 : a + 1 ≤ a + q * 1 ∧ a + q * 1 + 1 < e := by omega
    have g2 : a + 1 ≤ a + q * 2 ∧ a + q * 2 + 1 < e := by omega
    have g3 : a + 1 ≤ a + q * 3 ∧ a + q * 3 + 1 < e := by omega
    generalize hx : a + q * 1 = x at *
    generalize hy : a + q * 2 = y at *
    generalize hz : a + q * 3 = z at *
    generalize q * 1 = q1 at *
    generalize q * 2 = q2 at *
    generalize q * 3 = q3 at *
    simp [F.f59, a1, a2, m1, m2, m3, p1, p2, p3, c8, c50']
    refine S.f65 hE hg1 hn hsz x (by omega) (by omega) H.next 0 hs1 (by omega) hsb fun r1 k1 H1 e1 o1 s1 l1 => ?_
    refine S.f65 hE (keep o1) hn hsz y (by omega) (by omega) H.next k1 s1 (by omega) hsb fun r2 k2 H2 e2 o2 s2 l2 => ?_
    refine S.f65 hE (keep (o1.trans' o2)) hn hsz z (by omega) (by omega) H.next k2 s2 (by omega) hsb fun r3 k3 H3 e3 o3 s3 l3 => ?_
    exact last2 r1 r2 r3 k3 H3 (by omega) (by omega) (by omega) (by omega) (by omega) (by omega) ((o1.trans' o2).trans' o3) s3 (by omega)
  · have c50' : ¬ (50 : Int) ≤ w := by omega
    have g1 : a + q * 1 < e := by omega
    have g2 : a + q * 2 < e := by omega
    have g3 : a + q * 3 < e := by omega
    have g0 : a ≤ a + q * 1 ∧ a ≤ a + q * 2 ∧ a ≤ a + q * 3 := by omega
    generalize hx : a + q * 1 = x at *
    generalize hy : a + q * 2 = y at *
    generalize hz : a + q * 3 = z at *
    generalize q * 1 = q1 at *
    generalize q * 2 = q2 at *
    generalize q * 3 = q3 at *
    simp [F.f59, a1, a2, m1, m2, m3, p1, p2, p3, c8, c50']
    exact last2 x y z 0 _ g0.1 g1 g0.2.1 g2 g0.2.2 g3 (Only.refl _ _) hs1 (by omega)
theorem S.f57 (hE : Fold E) (hg : H.get b = arrO u16 d tail f) (hn : d.size = n) (hsz : n < 2 ^ 31) (a e : Nat) (hae : a + 8 ≤ e) (he : e ≤ n)
    (hQ : ∀ d' H', PermIn a e d d' → SortTo H b u16 tail f d' H' → Q (.tuple #[]) H') : E.call (E.fid i.f57) [slc b 0 n c, vi a, vi e] H Q := by
  apply hE.f57
  have a1 : binInt .sub (vi e) (vi a) = some (vi ((e - a : Nat) : Int)) := i64_sub_nat e a (by omega) (by omega)
  have hbl := arr_lt hg
  generalize hw : e - a = w at *
  have a2 : binInt .quo (vi (w : Int)) (.int .i64 4) = some (vi ((w / 4 : Nat) : Int)) := i64_quo_num w 4 (by decide) (by omega)
  have hq4 : w / 4 * 4 ≤ w := Nat.div_mul_le_self _ _
  have hq4' : 2 ≤ w / 4 := by omega
  generalize hq : w / 4 = q at *
  have m2 : binInt .mul (vi (q : Int)) (.int .i64 2) = some (vi ((q * 2 : Nat) : Int)) := by rw [i64_mul (by omega) (by omega)]; congr 2
  have p2 := i64_add_nat a (q * 2) (by omega)
  have p3 := i64_dec (a + q * 2) (by omega) (by omega)
  have p4 := i64_succ (a + q * 2) (by omega)
  have c8 : (8 : Int) ≤ w := by omega
  have hc : convInt .u64 (vi (w : Int)) = some (u64 (BitVec.ofNat 64 w)) := by rw [i64_to_u64, BitVec.ofInt_natCast]
  have hm2 : 2 ^ bitsLen w ≤ 2 * w := two_pow_bitsLen_le (by omega)
  have hm1 := Nat.two_pow_pos (bitsLen w)
  generalize hM : 2 ^ bitsLen w = M at *
  have gx : a + 1 ≤ a + q * 2 ∧ a + q * 2 + 1 < e := by omega
  generalize hx : a + q * 2 = x at *
  generalize q * 2 = q2 at *
  have x1 : Ext H (H.new (.cells [u64 (BitVec.ofNat 64 w)] none)) := (Ext.refl H).new _
  simp [F.f57, a1, a2, m2, p2, p3, c8, hc]
  refine S.f69 hE w (by omega) ?_
  rw [hM]
  simp [a2, m2, p2, p3]
  refine LoopL.ind (fun m l H' => ∃ (j : Nat) (d1 : Array (BitVec 16)) (y : BitVec 64), l = [slc b 0 n c, vi a, vi w, ptr H.next 0, u64 (BitVec.ofNat 64 M), vi j] ∧ SortTo H b u16 tail f d1 H' ∧ d1.size = n ∧ PermIn a e d d1 ∧ H'.get H.next = .cells [u64 y] none ∧ a ≤ j ∧ j ≤ x + 2 ∧ m = x + 2 - j) ?_ (x + 2 - (x - 1))
    ⟨x - 1, d, _, by simp, ⟨x1.only, by rw [AH.get_new_lt _ _ hbl]; exact hg⟩, hn, permIn_refl _ _ _, AH.get_new_self _ _, by omega, by omega, rfl⟩
  rintro m _ H1 X hX ⟨j, d1, y, rfl, s1, n1, pp, hb1, hj1, hj2, rfl⟩
  by_cases cj : j ≤ x + 1
  · have cj' : (j : Int) ≤ ((x + 1 : Nat) : Int) := by omega
    have pj := i64_succ j (by omega)
    have fin : ∀ (o : Nat) (y' : BitVec 64), o < w → F.f57_j1 E Q X (slc b 0 n c) (vi a) (vi w) (ptr H.next 0) (u64 (BitVec.ofNat 64 M)) (vi j) (vi o) (H1.put H.next (.cells [u64 y'] none)) := by
      intro o y' ho
      have hnb : b ≠ H.next := by omega
      have s2 : SortTo H b u16 tail f d1 (H1.put H.next (.cells [u64 y'] none)) := ⟨s1.only.put (.inr (Nat.le_refl _)) _, by rw [AH.get_put_ne _ _ hnb]; exact s1.get⟩
      have pa := i64_add_nat a o (by omega)
      have f1 := arr_ix (b := b) (c := c) (n := n) (i := j) (by omega)
      have f2 := arr_ix (b := b) (c := c) (n := n) (i := a + o) (by omega)
      have g1 := arr_load s2.get (i := j) (by omega)
      have g2 := arr_load s2.get (i := a + o) (by omega)
      obtain ⟨w1, w2⟩ := arr_swap enc_inode_Number_plain s2.get (i := j) (j := a + o) (by omega) (by omega)
      have hpp := swp_permIn d1 a e j (a + o) hj1 (by omega) (by omega) (by omega) (by omega)
      have hX := hX (x + 2 - (j + 1)) (by omega) [slc b 0 n c, vi a, vi w, ptr H.next 0, u64 (BitVec.ofNat 64 M), vi ((j + 1 : Nat) : Int)] _ ⟨j + 1, _, y', rfl, s2.put (swp d1 j (a + o)), by rw [size_swp]; exact n1, permIn_trans _ _ _ _ _ pp hpp, by rw [AH.get_put_ne _ _ (Ne.symm hnb), AH.get_put_self _ _ (AH.lt_cells hb1)], by omega, by omega, rfl⟩
      generalize a + o = ao at *
      generalize hj'' : j + 1 = j' at *
      simp [-store1_ptr, -load1_ptr, F.f57_j1, pa, f1, f2, g1, g2, w1, w2, pj]
      exact hX
    generalize hx1 : x + 1 = x' at *
    simp [F.f57_l1, a2, m2, p2, p4, cj']
    refine S.f84 hE H.next y hb1 fun y' => ?_
    have l1 : (.int .u64 1 : Value) = u64 1#64 := rfl
    have hsub : BitVec.ofNat 64 M - 1#64 = BitVec.ofNat 64 (M - 1) := by
      apply BitVec.eq_of_toNat_eq
      rw [BitVec.toNat_sub, BitVec.toNat_ofNat, BitVec.toNat_ofNat, BitVec.toNat_ofNat]
      omega
    have hand : (y' &&& BitVec.ofNat 64 (M - 1)).toNat ≤ M - 1 := by
      rw [BitVec.toNat_and]
      refine Nat.le_trans Nat.and_le_right ?_
      rw [BitVec.toNat_ofNat]
      exact Nat.mod_le _ _
    have hcv : ∀ z : BitVec 64, z.toNat < 2 ^ 62 → convInt .i64 (u64 z) = some (vi (z.toNat : Int)) := by
      intro z hz
      rw [u64_def, convInt_int, wrap_i64 (by omega) (by omega)]
    have hcv' := hcv _ (by omega : (y' &&& BitVec.ofNat 64 (M - 1)).toNat < 2 ^ 62)
    simp only [l1, u64_sub, hsub, u64_and, hcv', tk_eq, opt_some, i64_geq, nth_0, nth_1, nth_2, nth_3, nth_4, nth_5]
    generalize (y' &&& BitVec.ofNat 64 (M - 1)).toNat = o at *
    by_cases co : w ≤ o
    · have co' : (w : Int) ≤ o := by omega
      have hs : binInt .sub (vi (o : Int)) (vi (w : Int)) = some (vi ((o - w : Nat) : Int)) := i64_sub_nat o w co (by omega)
      simp only [co', decide_true, ifB_true, hs, tk_eq, opt_some, nth_0, nth_1, nth_2, nth_3, nth_4, nth_5]
      exact fin (o - w) y' (by omega)
    · have co' : ¬ (w : Int) ≤ o := by omega
      simp only [co', decide_false, ifB_false, nth_0, nth_1, nth_2, nth_3, nth_4, nth_5]
      exact fin o y' (by omega)
  · have cj' : ¬ (j : Int) ≤ ((x + 1 : Nat) : Int) := by omega
    generalize hx1 : x + 1 = x' at *
    simp [F.f57_l1, a2, m2, p2, p4, cj']
    exact hQ d1 H1 pp s1
theorem S.f78 (hE : Fold E) (hS : SWO lt16) : ∀ (w : Nat) {H : AH} {Q : Value → AH → Prop} {d : Array (BitVec 16)} (_ : H.get b = arrO u16 d tail f) (_ : d.size = n) (_ : n < 2 ^ 31) (a e : Nat) (_ : a ≤ e) (_ : e ≤ n) (limit : Nat) (_ : limit < 2 ^ 60) (_ : Go.Sort.Below lt16 a e d) (_ : e - a ≤ w)
    (_ : ∀ d' H', PermIn a e d d' → SortedIn lt16 a e d' → SortTo H b u16 tail f d' H' → Q (.tuple #[]) H'), E.call (E.fid i.f78) [slc b 0 n c, vi a, vi e, vi limit] H Q := by
  intro w
  induction w using Nat.strongRecOn with
  | _ w ih =>
  intro H Q d hg hn hsz a0 e0 hae0 he0 limit0 hlim0 hB0 hw hQ
  apply hE.f78
  simp only [F.f78]
  refine LoopL.ind (fun m l H' => ∃ (a e limit : Nat) (wb wp : Bool) (d1 : Array (BitVec 16)), l = [slc b 0 n c, vi a, vi e, vi limit, vb wb, vb wp] ∧ SortTo H b u16 tail f d1 H' ∧ d1.size = n ∧ a ≤ e ∧ e ≤ n ∧ limit < 2 ^ 60 ∧ e - a ≤ w ∧ Go.Sort.Below lt16 a e d1 ∧
      (∀ R, PermIn a e d1 R → SortedIn lt16 a e R → PermIn a0 e0 d R ∧ SortedIn lt16 a0 e0 R) ∧ m = e - a) ?_ (e0 - a0) ⟨a0, e0, limit0, true, true, d, rfl, .refl hg, hn, hae0, he0, hlim0, hw, hB0, fun R h1 h2 => ⟨h1, h2⟩, rfl⟩
  rintro m _ H1 X hX ⟨a, e, limit, wb, wp, d1, rfl, s1, n1, hae, hen, hlim, hwe, hB, fin, rfl⟩
  have a1 : binInt .sub (vi e) (vi a) = some (vi ((e - a : Nat) : Int)) := i64_sub_nat e a (by omega) (by omega)
  by_cases c12 : e - a ≤ 12
  · have c12' : ((e - a : Nat) : Int) ≤ 12 := by omega
    generalize hW : e - a = W at *
    simp [F.f78_l1, a1, c12']
    refine S.f63 hE s1.get n1 (by omega) a e hae hen fun H2 s2 => ?_
    obtain ⟨h1, h2⟩ := insertionSort_holds hS d1 a e hae (by omega)
    obtain ⟨h3, h4⟩ := fin _ h1 h2
    exact hQ _ _ h3 h4 (s1.trans s2)
  have c12' : ¬ ((e - a : Nat) : Int) ≤ 12 := by omega
  by_cases c0 : limit = 0
  · subst c0
    generalize hW : e - a = W at *
    simp [F.f78_l1, a1, c12']
    refine S.f61 hE s1.get n1 (by omega) a e (by omega) hen fun H2 s2 => ?_
    obtain ⟨h1, h2⟩ := heapSort_holds hS d1 a e hae (by omega)
    obtain ⟨h3, h4⟩ := fin _ h1 h2
    exact hQ _ _ h3 h4 (s1.trans s2)
  have c0' : ¬ (limit : Int) = 0 := by omega
  have w8 : binInt .quo (vi ((e - a : Nat) : Int)) (.int .i64 8) = some (vi (((e - a) / 8 : Nat) : Int)) := i64_quo_num (e - a) 8 (by decide) (by omega)
  have j3 : ∀ (d3 : Array (BitVec 16)) H3 (lim : Nat) (wb wp : Bool) (pv : Nat), SortTo H b u16 tail f d3 H3 → d3.size = n → PermIn a e d1 d3 → lim < 2 ^ 60 → a ≤ pv → pv < e → F.f78_j3 E Q X (slc b 0 n c) (vi a) (vi e) (vi lim) (vb wb) (vb wp) (vi ((e - a : Nat) : Int)) (vi pv) H3 := by
    intro d3 H3 lim wb wp pv s3 n3 p3 hlim hp1 hp2
    have B3 : Go.Sort.Below lt16 a e d3 := hB.permA permIn_all (by omega) p3
    have fin3 : ∀ R, PermIn a e d3 R → SortedIn lt16 a e R → PermIn a0 e0 d R ∧ SortedIn lt16 a0 e0 R := fun R h1 h2 => fin R (permIn_trans _ _ _ _ _ p3 h1) h2
    have part : ∀ (K : Value → AH → Prop), (K = fun v15 H13 =>
         opt (ext v15 0) fun v16 =>
         opt (ext v15 1) fun v17 =>
         opt (binInt .sub v16 (vi a)) fun v18 =>
         opt (binInt .sub (vi e) v16) fun v19 =>
         opt (binInt .quo (vi ((e - a : Nat) : Int)) (.int .i64 8)) fun v20 =>
         opt (binInt .lss v18 v19) fun v21 =>
         ifB v21 (
         opt (binInt .geq v18 v20) fun v22 =>
         E.call (E.fid i.f78) [slc b 0 n c, vi a, v16, vi lim] H13 fun v23 H14 =>
         opt (binInt .add v16 (.int .i64 1)) fun v24 =>
         X [slc b 0 n c, v24, vi e, vi lim, v22, v17] H14) (
         opt (binInt .geq v19 v20) fun v25 =>
         opt (binInt .add v16 (.int .i64 1)) fun v26 =>
         E.call (E.fid i.f78) [slc b 0 n c, v26, vi e, vi lim] H13 fun v27 H15 =>
         X [slc b 0 n c, vi a, v16, vi lim, v25, v17] H15)) → E.call (E.fid i.f76) [slc b 0 n c, vi a, vi e, vi pv] H3 K := by
      rintro K rfl
      refine S.f76 hE s3.get n3 (by omega) a e pv hp1 hp2 hen fun H4 s4 => ?_
      rcases hx : partition lt16 d3 a e pv with ⟨mid, ap, d4⟩
      rw [hx] at s4
      obtain ⟨g1, g2, hs4, hBa, hBr, hl, hr⟩ := round_part hS (partition_holds lt16) hp1 hp2 (by omega) B3 hx
      have n4 : d4.size = n := by omega
      have s4' := s3.trans s4
      have b1 : binInt .sub (vi mid) (vi a) = some (vi ((mid - a : Nat) : Int)) := i64_sub_nat mid a g1 (by omega)
      have b2 : binInt .sub (vi e) (vi mid) = some (vi ((e - mid : Nat) : Int)) := i64_sub_nat e mid (by omega) (by omega)
      have b3 := i64_succ mid (by omega)
      simp only [tk_eq, ext_tuple, List.getElem?_cons_zero, List.getElem?_cons_succ, opt_some, b1, b2, b3, w8, i64_lss, i64_geq]
      by_cases cl : mid - a < e - mid
      · have cl' : ((mid - a : Nat) : Int) < ((e - mid : Nat) : Int) := by omega
        simp only [cl', decide_true, tk_eq, ifB_true, i64_geq, opt_some]
        refine ih (mid - a) (by omega) s4'.get n4 hsz a mid g1 (by omega) lim hlim hBa (Nat.le_refl _) fun d5 H5 p5 q5 s5 => ?_
        obtain ⟨hBL, hfin⟩ := hl d5 p5 q5
        have n5 : d5.size = n := by rw [p5.1]; exact n4
        simp only [b3, tk_eq, opt_some]
        exact hX (e - (mid + 1)) (by omega) _ _ ⟨mid + 1, e, lim, _, ap, d5, rfl, s4'.trans s5, n5, by omega, hen, hlim, by omega, hBL, fun R h1 h2 => by
          obtain ⟨h3, h4⟩ := hfin R h1 h2
          exact fin3 R h3 h4, rfl⟩
      · have cl' : ¬ ((mid - a : Nat) : Int) < ((e - mid : Nat) : Int) := by omega
        simp only [cl', decide_false, tk_eq, ifB_false, i64_geq, opt_some, b3]
        refine ih (e - (mid + 1)) (by omega) s4'.get n4 hsz (mid + 1) e (by omega) hen lim hlim hBr (Nat.le_refl _) fun d5 H5 p5 q5 s5 => ?_
        obtain ⟨hBL, hfin⟩ := hr d5 p5 q5
        have n5 : d5.size = n := by rw [p5.1]; exact n4
        exact hX (mid - a) (by omega) _ _ ⟨a, mid, lim, _, ap, d5, rfl, s4'.trans s5, n5, g1, by omega, hlim, by omega, hBL, fun R h1 h2 => by
          obtain ⟨h3, h4⟩ := hfin R h1 h2
          exact fin3 R h3 h4, rfl⟩
    by_cases ca : 0 < a
    · have ca' : (0 : Int) < a := by omega
      have b1 := i64_dec a (by omega) (by omega)
      have f1 := arr_ix (b := b) (c := c) (n := n) (i := a - 1) (by omega)
      have f2 := arr_ix (b := b) (c := c) (n := n) (i := pv) (by omega)
      have g1 := arr_load s3.get (i := a - 1) (by omega)
      have g2 := arr_load s3.get (i := pv) (by omega)
      have part := part _ rfl
      by_cases hl : lt16 d3[a - 1]! d3[pv]! = true
      · generalize hW : e - a = W at *
        generalize hA : a - 1 = a1 at *
        simp [-store1_ptr, -load1_ptr, F.f78_j3, ca', ca, b1, f1, f2, g1, g2]
        refine S.f0 hE _ _ ?_
        simp only [hl]
        simp only [un_not_z, Bool.not_true, tk_eq, opt_some, gd_tt, pick_true_z, ifB_false]
        exact part
      · have hl : lt16 d3[a - 1]! d3[pv]! = false := by simpa using hl
        clear part
        rcases hx : partitionEqual lt16 d3 a e pv with ⟨mid, d4⟩
        obtain ⟨g3, g4, hs4, hB4, hfin⟩ := round_eq hS (partitionEqual_holds lt16) ca hp1 hp2 (by omega) B3 hl hx
        have hY := fun H4 s4 => hX (e - mid) (by omega) [slc b 0 n c, vi mid, vi e, vi lim, vb wb, vb wp] H4 ⟨mid, e, lim, wb, wp, d4, rfl, s4, by omega, g4, hen, hlim, by omega, hB4, fun R h1 h2 => by
            obtain ⟨h3, h4⟩ := hfin R h1 h2
            exact fin3 R h3 h4, rfl⟩
        generalize hW : e - a = W at *
        generalize hA : a - 1 = a1 at *
        simp [-store1_ptr, -load1_ptr, F.f78_j3, ca', ca, b1, f1, f2, g1, g2]
        refine S.f0 hE _ _ ?_
        simp [hl]
        refine S.f74 hE s3.get n3 (by omega) a e pv hp1 hp2 hen fun H4 s4 => ?_
        rw [hx] at s4 ⊢
        exact hY H4 (s3.trans s4)
    · have ca' : ¬ (0 : Int) < a := by omega
      have part := part _ rfl
      generalize hW : e - a = W at *
      simp only [F.f78_j3, i64_gtr, ca', decide_false, tk_eq, opt_some, gd_ft, pick_false_z, ifB_false]
      exact part
  have j2 : ∀ (d3 : Array (BitVec 16)) H3 (lim : Nat) (wb wp : Bool) (pv : Nat) (hint : Int), SortTo H b u16 tail f d3 H3 → d3.size = n → PermIn a e d1 d3 → lim < 2 ^ 60 → a ≤ pv → pv < e → F.f78_j2 E Q X (slc b 0 n c) (vi a) (vi e) (vi lim) (vb wb) (vb wp) (vi ((e - a : Nat) : Int)) (vi pv) (vi hint) H3 := by
    intro d3 H3 lim wb wp pv hint s3 n3 p3 hlim hp1 hp2
    have B3 : Go.Sort.Below lt16 a e d3 := hB.permA permIn_all (by omega) p3
    have h3 := j3 d3 H3 lim wb wp pv s3 n3 p3 hlim hp1 hp2
    have try_ : E.call (E.fid i.f72) [slc b 0 n c, vi a, vi e] H3 fun v6 H4 => ifB v6 (Q (.tuple #[]) H4) (F.f78_j3 E Q X (slc b 0 n c) (vi a) (vi e) (vi lim) (vb wb) (vb wp) (vi ((e - a : Nat) : Int)) (vi pv) H4) := by
      refine S.f72 hE s3.get n3 (by omega) a e (by omega) hen fun H4 s4 => ?_
      obtain ⟨q1, q2⟩ := partialInsertionSort_holds hS d3 a e (by omega) (by omega) B3
      cases hb : (partialInsertionSort lt16 d3 a e).2 with
      | true =>
        obtain ⟨h5, h6⟩ := fin _ (permIn_trans _ _ _ _ _ p3 q1) (q2 hb)
        simp only [ifB_true]
        exact hQ _ _ h5 h6 (s3.trans s4)
      | false =>
        simp only [ifB_false]
        exact j3 _ H4 lim wb wp pv (s3.trans s4) (by rw [q1.1]; exact n3) (permIn_trans _ _ _ _ _ p3 q1) hlim hp1 hp2
    cases wb with
    | false =>
      simp only [F.f78_j2, gd_ft, pick_false_z, tk_eq, opt_some, ifB_false]
      exact h3
    | true =>
      cases wp with
      | false =>
        simp only [F.f78_j2, gd_tt, gd_ft, pick_true_z, pick_false_z, tk_eq, opt_some, ifB_false]
        exact h3
      | true =>
        by_cases ch : hint = 1
        · simp only [F.f78_j2, gd_tt, pick_true_z, tk_eq, opt_some, i64_eql, ch, decide_true, ifB_true]
          exact try_
        · simp only [F.f78_j2, gd_tt, pick_true_z, tk_eq, opt_some, i64_eql, ch, decide_false, ifB_false]
          exact h3
  have j1 : ∀ (d3 : Array (BitVec 16)) H3 (lim : Nat) (wb wp : Bool), SortTo H b u16 tail f d3 H3 → d3.size = n → PermIn a e d1 d3 → lim < 2 ^ 60 → F.f78_j1 E Q X (slc b 0 n c) (vi a) (vi e) (vi lim) (vb wb) (vb wp) (vi ((e - a : Nat) : Int)) H3 := by
    intro d3 H3 lim wb wp s3 n3 p3 hlim
    simp only [F.f78_j1]
    refine S.f59 hE s3.get n3 (by omega) a e (by omega) hen fun pv hint H4 hp1 hp2 e4 => ?_
    have s4 := s3.ext e4
    simp only [tk_eq, ext_tuple, List.getElem?_cons_zero, List.getElem?_cons_succ, opt_some, i64_eql]
    by_cases ch : hint = 2
    · simp only [ch, decide_true, ifB_true]
      refine S.f80 hE s4.get n3 (by omega) a e (by omega) hen fun H5 s5 => ?_
      have q1 := reverseRange_holds d3 a e hae (by omega)
      have b1 := i64_dec e (by omega) (by omega)
      have b2 : binInt .sub (vi pv) (vi a) = some (vi ((pv - a : Nat) : Int)) := i64_sub_nat pv a hp1 (by omega)
      have b3 : binInt .sub (vi ((e - 1 : Nat) : Int)) (vi ((pv - a : Nat) : Int)) = some (vi ((e - 1 - (pv - a) : Nat) : Int)) := i64_sub_nat (e - 1) (pv - a) (by omega) (by omega)
      simp only [b1, b2, b3, tk_eq, opt_some]
      exact j2 _ H5 lim wb wp _ 1 (s4.trans s5) (by rw [q1.1]; exact n3) (permIn_trans _ _ _ _ _ p3 q1) hlim (by omega) (by omega)
    · simp only [ch, decide_false, ifB_false]
      exact j2 d3 H4 lim wb wp pv hint s4 n3 p3 hlim hp1 hp2
  cases wb with
  | true =>
    have := j1 d1 H1 limit true wp s1 n1 (permIn_refl _ _ _) hlim
    generalize hW : e - a = W at *
    simp only [F.f78_l1, nth_0, nth_1, nth_2, nth_3, nth_4, nth_5, a1, c12', c0', i64_leq, i64_eql, decide_false, un_not_z, Bool.not_true, tk_eq, opt_some, ifB_false]
    exact this
  | false =>
    have b1 := i64_dec limit (by omega) (by omega)
    have go := fun d' H' p' s' => j1 d' H' (limit - 1) false wp s' (by rw [(p' : PermIn a e d1 d').1]; exact n1) p' (by omega)
    generalize hW : e - a = W at *
    simp only [F.f78_l1, nth_0, nth_1, nth_2, nth_3, nth_4, nth_5, a1, c12', c0', i64_leq, i64_eql, decide_false, un_not_z, Bool.not_false, tk_eq, opt_some, ifB_false, ifB_true]
    refine S.f57 hE s1.get n1 hsz a e (by omega) hen fun d' H' p' s' => ?_
    simp only [b1, tk_eq, opt_some]
    exact go d' H' p' (s1.trans s')
theorem S.f55 (hE : Fold E) (hS : SWO lt16) (hg : H.get b = arrO u16 d tail f) (hn : d.size = n) (hsz : n < 2 ^ 31)
    (hQ : ∀ d' H', PermIn 0 n d d' → SortedIn lt16 0 n d' → SortTo H b u16 tail f d' H' → Q (.tuple #[]) H') : E.call (E.fid i.f55) [slc b 0 n c] H Q := by
  apply hE.f55
  have e1 : (BitVec.ofNat 64 n).toNat = n := by rw [BitVec.toNat_ofNat, Nat.mod_eq_of_lt (by omega)]
  have hc : convInt .u64 (vi (n : Int)) = some (u64 (BitVec.ofNat 64 n)) := by rw [i64_to_u64, BitVec.ofInt_natCast]
  simp only [F.f55, lenSlc_slc_z, hc, tk_eq, opt_some]
  refine S.f26 hE _ (by rw [e1]; omega) ?_
  rw [e1]
  have hl : bitsLen n ≤ 31 := by rw [bitsLen_le_iff]; exact hsz
  exact S.f78 hE hS n hg hn hsz 0 n (Nat.zero_le _) (Nat.le_refl _) _ (by omega) (.inl rfl) (by omega) hQ
theorem S.slices_Sort_inode_Number_nil (hE : Fold E) (a : Option Addr) (hQ : Q (.tuple #[]) H) : E.call (E.fid i.f55) [.slice a 0 0] H Q := by
  apply hE.f55
  have hc : convInt .u64 (vi 0) = some (u64 0#64) := by rw [i64_to_u64]; rfl
  have hd : binInt .sub (vi 0) (vi 0) = some (vi 0) := i64_sub (by decide) (by decide)
  simp [F.f55, hc]
  refine S.f26 hE _ (by decide) ?_
  apply hE.f78
  simp only [F.f78]
  refine LoopL.step fun X _ => ?_
  simp [F.f78_l1, hd]
  apply hE.f63
  have ha : binInt .add (vi 0) (vi 1) = some (vi 1) := i64_add (by decide) (by decide)
  simp [F.f63, ha]
  refine LoopL.step fun X _ => ?_
  simp [F.f63_l1]
  exact hQ
end
end Go.AM
end
