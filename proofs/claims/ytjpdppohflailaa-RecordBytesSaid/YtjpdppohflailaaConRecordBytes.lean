/- CONTRACTS ON THE PRINTED FUNCTIONS: RecordBytes. -/
import Derived.Test.YtjpdppohflailaaF
import Derived.Test.YtjpdppohflailaaAmStr
import Derived.Test.YtjpdppohflailaaAmTyped
import Derived.Test.YtjpdppohflailaaConRecordPure
import Derived.Test.YtjpdppohflailaaConRecord
import Derived.Test.YtjpdppohflailaaConInsn3
set_option linter.all false
namespace Go.AM
variable {E : Sy} {H : AH} {Q : Value → AH → Prop}

theorem splice_snoc (c l : List Value) (o : Nat) (v : Value) (h : o + l.length < c.length) : (splice c o l).set (o + l.length) v = splice c o (l ++ [v]) := by
  simp only [splice, List.append_assoc]
  rw [List.set_append_right _ _ (by simp; omega)]
  rw [List.set_append_right _ _ (by simp; omega)]
  simp only [List.length_take, Nat.min_eq_left (by omega : o ≤ c.length)]
  rw [show o + l.length - o - l.length = 0 by omega]
  rw [List.drop_eq_getElem_cons h]
  rw [List.set_cons_zero]
  simp [List.length_append, Nat.add_assoc]
/-- A number's bytes are laid into a slice. -/
theorem S.record_put (hE : Fold E) (b o n c : Nat) (x : BitVec 64) (k : Nat) (hk : k ≤ 8) (hkn : k ≤ n) {cs : List Value} {f : Option Nat} (hb : H.get b = .cells cs f) (ho : o + k ≤ cs.length)
    (hQ : Q (.tuple #[]) (H.put b (.cells (splice cs o ((bytesN x k).map u8)) f))) : E.call (E.fid i.record_put) [slc b o n c, u64 x, vi k] H Q := by
  apply hE.record_put
  unfold F.record_put
  have hlt := AH.lt_cells hb
  refine LoopL.count k (fun i s H' => H' = H.put b (.cells (splice cs o ((bytesN x i).map u8)) f) ∧ s = [slc b o n c, u64 x, vi k, vi i]) ?_ ⟨?_, rfl⟩
  · rintro i _ _ X hi hX ⟨rfl, rfl⟩
    simp [F.record_put_l1]
    refine ifB_split (fun h => ?_) (fun h => ?_)
    · have hik : i < k := by omega
      rw [i64_mul (by omega) (by omega)]
      have e8 : (8 : Int) * (i : Int) = ((8 * i : Nat) : Int) := by omega
      simp only [opt_some, e8, u64_shr, u64_to_u8]
      rw [ixSlc_slc 1 b o n c i (by omega)]
      simp [AH.get_put, hlt, splice_length (show o + (List.map u8 (bytesN x i)).length ≤ cs.length by simp [bytesN]; omega), show o + i < cs.length by omega]
      rw [i64_inc (by omega)]
      refine hX hik _ _ ⟨?_, rfl⟩
      have := splice_snoc cs ((bytesN x i).map u8) o (u8 (byteAt x i)) (by simp [bytesN]; omega)
      have e : (bytesN x (i + 1)) = bytesN x i ++ [byteAt x i] := by simp [bytesN, List.range_succ]
      rw [e, List.map_append, List.map_cons, List.map_nil, ← this]
      simp [bytesN, byteAt]
    · have : i = k := by omega
      subst this; exact hQ
  · simp [bytesN, splice]
    rw [← hb]
    exact (AH.put_get H hlt).symm
theorem S.record_take (hE : Fold E) (v : Value) (l : List (BitVec 8)) (k : Nat) (hk : k ≤ l.length) (hk8 : k ≤ 8) (hV : Vals H v (l.map u8)) (hQ : Q (u64 (takeW (l.take k))) H) :
    E.call (E.fid i.record_take) [v, vi k] H Q := by
  apply hE.record_take
  obtain ⟨v', e1, hV'⟩ := Vals.slice hV (lo := none) (hi := some (vi k)) (i := 0) (j := k) (.inr ⟨rfl, rfl⟩) (.inl rfl) (by omega) (by simpa using hk)
  have e2 : ((l.map u8).take k).drop 0 = (l.take k).map u8 := by simp
  rw [e2] at hV'
  have e3 := hV'.lenSlc
  have hlen : (l.take k).length = k := by simp [hk]
  simp [F.record_take, e1, e3, Nat.min_eq_left hk]
  refine LoopL.count k (fun i s H' => H' = H ∧ s = [u64 (takeW ((l.take k).take i)), v', vi k, vi i]) ?_ ⟨rfl, by simp [takeW]⟩
  rintro i _ _ X hi hX ⟨rfl, rfl⟩
  simp only [F.record_take_l1, nth_0, nth_1, nth_2, nth_3]
  simp
  refine ifB_split (fun h => ?_) (fun h => ?_)
  · have hik : i < k := by omega
    obtain ⟨b, o, f1, f2⟩ := Vals.elem hV' (i := i) (by simp; omega)
    simp only [List.getElem_map] at f2
    simp only [f1, f2, opt_some, load1_ptr, u8_to_u64]
    rw [i64_mul (by omega) (by omega)]
    have e8 : (8 : Int) * (i : Int) = ((8 * i : Nat) : Int) := by omega
    simp only [opt_some, e8, u64_shl, u64_or]
    rw [i64_inc (by omega)]
    refine hX hik _ _ ⟨rfl, ?_⟩
    rw [List.take_succ_eq_append_getElem (by omega : i < (l.take k).length), takeW_snoc]
    have e9 : ((l.take k).take i).length = i := by simp; omega
    rw [e9]
  · have : i = k := by omega
    subst this
    rw [List.take_take, Nat.min_self]; exact hQ
structure RecD where
  number : BitVec 32
  arch : BitVec 32
  at_ : BitVec 64
  args : List (BitVec 64)
def RecD.ok (r : RecD) : Prop := r.args.length = 6
def RecD.cells (r : RecD) : List Value := u32 r.number :: u32 r.arch :: u64 r.at_ :: r.args.map u64
abbrev RecD.v (r : RecD) : Value := .agg r.cells.toArray
/-- A record's sixteen words. -/
def RecD.words (r : RecD) : List (BitVec 32) := r.number :: r.arch :: lo32 r.at_ :: hi32 r.at_ :: r.args.flatMap fun a => [lo32 a, hi32 a]
def RecD.bytes (r : RecD) : List (BitVec 8) := r.words.flatMap bytes4

theorem RecD.ok_cases {r : RecD} (h : r.ok) : ∃ n a t x0 x1 x2 x3 x4 x5, r = ⟨n, a, t, [x0, x1, x2, x3, x4, x5]⟩ := by
  obtain ⟨n, a, t, l⟩ := r
  match l, h with
  | [x0, x1, x2, x3, x4, x5], _ => exact ⟨n, a, t, x0, x1, x2, x3, x4, x5, rfl⟩
theorem slArr_from (n b o i : Nat) (j : Int) (hj : j = (i : Int)) (hi : i ≤ n) : slArr n 1 (ptr b o) (some (vi j)) none none = some (.slice (some (if n = i then ⟨b, o, none⟩ else (⟨b, o, none⟩ : Addr).add (i * 1))) (n - i) (n - i)) := by
  subst hj
  have e0 : bnd (none : Option Value) n n = some n := rfl
  have e1 : bnd (some (vi (i : Int))) 0 n = some i := by simp only [bnd]; rw [if_pos (by omega)]; simp
  simp only [slArr, Option.isSome_none, Bool.false_and, Bool.false_eq_true, if_false, e0, e1, Option.bind_some]
theorem slArr_lt (n b o i : Nat) (j : Int) (hj : j = (i : Int)) (hi : i < n) : slArr n 1 (ptr b o) (some (vi j)) none none = some (slc b (o + i) (n - i) (n - i)) := by
  rw [slArr_from n b o i j hj (by omega), if_neg (by omega)]
  simp only [Addr.add, Nat.mul_one]
  by_cases h : i = 0
  · simp [h]
  · simp [h]
/-- What is laid behind what is done. -/
theorem splice_done (done bs rest : List Value) (o : Nat) (ho : o = done.length) (h : bs.length ≤ rest.length) : splice (done ++ rest) o bs = done ++ bs ++ rest.drop bs.length := by
  subst ho
  simp only [splice, List.take_left, List.drop_append]
  rw [List.drop_eq_nil_of_le (by omega)]
  simp [Nat.add_sub_cancel_left]
def BS (H H' : AH) (c0 : List Value) (done : List (BitVec 8)) : Prop :=
  Ext H H' ∧ H'.next = H.next + 3 ∧ H'.get H.next = .cells c0 none ∧ H'.get (H.next + 1) = .cells (zs 64 (u8 0#8)) none ∧
  H'.get (H.next + 2) = .cells (done.map u8 ++ zs (64 - done.length) (u8 0#8)) none ∧ done.length ≤ 64
theorem BS.put {H H' : AH} {c0 : List Value} {done : List (BitVec 8)} (h : BS H H' c0 done) (bs : List (BitVec 8)) (hb : done.length + bs.length ≤ 64) :
    BS H (H'.put (H.next + 2) (.cells (splice (done.map u8 ++ zs (64 - done.length) (u8 0#8)) done.length (bs.map u8)) none)) c0 (done ++ bs) := by
  obtain ⟨h1, h2, h3, h4, h5, h6⟩ := h
  refine ⟨h1.put (by omega) _, h2, ?_, ?_, ?_, by simp; omega⟩
  · rw [AH.get_put_ne _ _ (by omega)]; exact h3
  · rw [AH.get_put_ne _ _ (by omega)]; exact h4
  · rw [AH.get_put_self _ _ (by omega), splice_done _ _ _ _ (by simp) (by simp; omega)]
    simp only [List.map_append, zs_drop, List.length_map, List.length_append]
    rw [Nat.sub_sub]
theorem S.put_BS (hE : Fold E) {H H' : AH} {c0 : List Value} {done : List (BitVec 8)} (h : BS H H' c0 done) (n c : Nat) (x : BitVec 64) (k : Nat) (hk : k ≤ 8) (hn : k ≤ n) (hd : done.length + k ≤ 64) (o : Nat) (ho : o = done.length)
    (hQ : ∀ H'', BS H H'' c0 (done ++ bytesN x k) → Q (.tuple #[]) H'') : E.call (E.fid i.record_put) [slc (H.next + 2) o n c, u64 x, vi k] H' Q := by
  subst ho
  refine S.record_put hE (H.next + 2) done.length n c x k hk hn h.2.2.2.2.1 (by simp; omega) (hQ _ ?_)
  exact h.put (bytesN x k) (by simp [bytesN]; omega)
theorem S.record_Record_Bytes (hE : Fold E) (r : RecD) (hr : r.ok) (hQ : ∀ H', Ext H H' → Q (bytesV r.bytes) H') : E.call (E.fid i.record_Record_Bytes) [r.v] H Q := by
  obtain ⟨n, a, t, x0, x1, x2, x3, x4, x5, rfl⟩ := RecD.ok_cases hr
  apply hE.record_Record_Bytes
  unfold F.record_Record_Bytes
  simp only [boxO_agg, mk_some, allocW_eq, mkPtr_eq, AH.next_new]
  generalize hH3 : (((H.new _).new _).new _) = H3
  have h0 : BS H H3 (RecD.cells ⟨n, a, t, [x0, x1, x2, x3, x4, x5]⟩) [] := by
    subst hH3
    exact ⟨(((Ext.refl H).new _).new _).new _, rfl, by simp [AH.get_new, Nat.add_assoc], by simp [AH.get_new, Nat.add_assoc], by simp [AH.get_new, Nat.add_assoc], by simp⟩
  clear hH3
  have hc : ∀ {H' : AH} {d : List (BitVec 8)}, BS H H' (RecD.cells ⟨n, a, t, [x0, x1, x2, x3, x4, x5]⟩) d → H'.get H.next = .cells [u32 n, u32 a, u64 t, u64 x0, u64 x1, u64 x2, u64 x3, u64 x4, u64 x5] none := fun h => h.2.2.1
  rw [slArr_lt 64 (H.next + 1 + 1) 0 0 0 rfl (by omega)]
  simp [hc h0]
  refine S.put_BS hE h0 64 64 (n.setWidth 64) 4 (by omega) (by omega) (by simp) 0 (by simp) fun H4 h4 => ?_
  rw [slArr_lt 64 (H.next + 1 + 1) 0 4 4 rfl (by omega)]
  simp [hc h4]
  refine S.put_BS hE h4 60 60 (a.setWidth 64) 4 (by omega) (by omega) (by simp [bytesN]) 4 (by simp [bytesN]) fun H5 h5 => ?_
  rw [slArr_lt 64 (H.next + 1 + 1) 0 8 8 rfl (by omega)]
  simp [hc h5]
  refine S.put_BS hE h5 56 56 t 8 (by omega) (by omega) (by simp [bytesN]) 8 (by simp [bytesN]) fun H6 h6 => ?_
  simp [hc h6]
  generalize hd0 : [] ++ bytesN (n.setWidth 64) 4 ++ bytesN (a.setWidth 64) 4 ++ bytesN t 8 = d0 at h6
  have hl0 : d0.length = 16 := by rw [← hd0]; simp [bytesN]
  refine LoopL.count 6 (fun i s H' => BS H H' (RecD.cells ⟨n, a, t, [x0, x1, x2, x3, x4, x5]⟩) (d0 ++ ([x0, x1, x2, x3, x4, x5].take i).flatMap (bytesN · 8)) ∧ s = [ptr (H.next + 1) 0, ptr (H.next + 1 + 1) 0, .agg #[u64 x0, u64 x1, u64 x2, u64 x3, u64 x4, u64 x5], vi i]) ?_ ⟨by simpa using h6, rfl⟩
  rintro i _ H' X hi hX ⟨hB, rfl⟩
  simp [F.record_Record_Bytes_l1]
  refine ifB_split (fun h => ?_) (fun h => ?_)
  · have hi6 : i < 6 := by omega
    have hagg : ixAgg1 6 1 (.agg #[u64 x0, u64 x1, u64 x2, u64 x3, u64 x4, u64 x5]) (vi i) = some (u64 ([x0, x1, x2, x3, x4, x5][i]'(by simpa using hi6))) := by
      simp only [ixAgg1]
      rw [if_pos (by omega)]
      simp only [part1_agg, Int.toNat_natCast, Nat.mul_one]
      have : i = 0 ∨ i = 1 ∨ i = 2 ∨ i = 3 ∨ i = 4 ∨ i = 5 := by omega
      rcases this with rfl | rfl | rfl | rfl | rfl | rfl <;> rfl
    rw [hagg, opt_some, i64_mul (by omega) (by omega), opt_some, i64_add (by omega) (by omega), opt_some]
    rw [slArr_lt 64 (H.next + 1 + 1) 0 (16 + 8 * i) _ (by omega) (by omega)]
    simp only [opt_some]
    have hlen : (d0 ++ ([x0, x1, x2, x3, x4, x5].take i).flatMap (bytesN · 8)).length = 16 + 8 * i := by
      have : i = 0 ∨ i = 1 ∨ i = 2 ∨ i = 3 ∨ i = 4 ∨ i = 5 := by omega
      rcases this with rfl | rfl | rfl | rfl | rfl | rfl <;> simp [hl0, bytesN]
    refine S.put_BS hE hB (64 - (16 + 8 * i)) (64 - (16 + 8 * i)) _ 8 (by omega) (by omega) (by omega) _ (by omega) fun H7 h7 => ?_
    rw [i64_inc (by omega)]
    refine hX hi6 _ _ ⟨?_, rfl⟩
    rw [List.take_succ_eq_append_getElem (by simpa using hi6), List.flatMap_append, ← List.append_assoc]
    simpa using h7
  · have : i = 6 := by omega
    subst this
    obtain ⟨q1, q2, q3, q4, q5, q6⟩ := hB
    have hd : d0 ++ ([x0, x1, x2, x3, x4, x5].take 6).flatMap (bytesN · 8) = RecD.bytes ⟨n, a, t, [x0, x1, x2, x3, x4, x5]⟩ := by
      rw [← hd0]
      simp [RecD.bytes, RecD.words, bytesN_4, bytesN_8]
    rw [hd] at q5 q6
    have hl : (RecD.bytes ⟨n, a, t, [x0, x1, x2, x3, x4, x5]⟩).length = 64 := rfl
    generalize RecD.bytes ⟨n, a, t, [x0, x1, x2, x3, x4, x5]⟩ = d at *
    rw [hl] at q5
    simp only [Nat.sub_self, zs_zero, List.append_nil] at q5
    have hp : ∀ x ∈ d, plain1 (u8 x) = true := fun x _ => rfl
    simp [q5, q4, hl, List.take_of_length_le, splice, AH.get_put, q2]
    exact hQ _ (q1.put (by omega) _)
end Go.AM
