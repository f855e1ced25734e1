/- CONTRACTS ON THE PRINTED FUNCTIONS: RecordOf. -/
import Derived.Test.YtjpdppohflailaaF
import Derived.Test.YtjpdppohflailaaAmStr
import Derived.Test.YtjpdppohflailaaAmTyped
import Derived.Test.YtjpdppohflailaaConRecordBytes
set_option linter.all false
namespace Go.AM
variable {E : Sy} {H : AH} {Q : Value → AH → Prop}
theorem Vals.sub {H : AH} {b o n c : Nat} {cs : List Value} {f : Option Nat} (hg : H.get b = .cells cs f) (hf : f = none ∨ f = some 1) (ho : o + n ≤ cs.length) (hn : n ≤ c) : Vals H (slc b o n c) ((cs.drop o).take n) := by
  have hl : ((cs.drop o).take n).length = n := by simp; omega
  refine ⟨fun r hr => by simp only [List.mem_map] at hr; obtain ⟨x, _, rfl⟩ := hr; rfl, .inr ⟨b, o, c, by rw [List.length_map, hl], by rw [List.length_map, hl]; exact hn, ?_, ?_⟩⟩
  · rw [hg]; rcases hf with rfl | rfl <;> simp [fits]
  · rw [hg, flatten_single, List.length_map, hl, Nat.mul_one, row_cells, if_pos ho]
def recOf (l : List (BitVec 8)) : RecD :=
  ⟨(takeW (l.take 4)).setWidth 32, (takeW ((l.drop 4).take 4)).setWidth 32, takeW ((l.drop 8).take 8), (List.range 6).map fun i => takeW ((l.drop (16 + 8 * i)).take 8)⟩
theorem recOf_ok (l : List (BitVec 8)) : (recOf l).ok := by simp [RecD.ok, recOf]
theorem S.take_at (hE : Fold E) (b o n c k : Nat) (l : List (BitVec 8)) {f : Option Nat} (hg : H.get b = .cells (l.map u8) f) (hf : f = none ∨ f = some 1) (ho : o + n ≤ l.length) (hn : n ≤ c) (hk : k ≤ n) (hk8 : k ≤ 8)
    (hQ : Q (u64 (takeW ((l.drop o).take k))) H) : E.call (E.fid i.record_take) [slc b o n c, vi k] H Q := by
  have hV := Vals.sub hg hf (o := o) (n := n) (c := c) (by simpa using ho) hn
  have e : ((l.map u8).drop o).take n = ((l.drop o).take n).map u8 := by simp
  rw [e] at hV
  refine S.record_take hE _ _ k (by simp; omega) hk8 hV ?_
  rwa [List.take_take, Nat.min_eq_left hk]
theorem set_snoc (done rest : List Value) (x v : Value) : (done ++ x :: rest).set done.length v = (done ++ [v]) ++ rest := by
  rw [List.set_append_right _ _ (by omega)]; simp
theorem S.record_Of (hE : Fold E) (l : List (BitVec 8)) (hl : l.length = 64) (hQ : ∀ H', Ext H H' → Q (recOf l).v H') : E.call (E.fid i.record_Of) [bytesV l] H Q := by
  apply hE.record_Of
  unfold F.record_Of
  simp only [boxO_agg, mk_some, allocW_eq, mkPtr_eq, AH.next_new]
  rw [slArr_lt 64 H.next 0 0 0 rfl (by omega), opt_some, slArr_lt 64 H.next 0 4 4 rfl (by omega), opt_some, slArr_lt 64 H.next 0 8 8 rfl (by omega), opt_some]
  generalize hz : ([(.int .u32 0), (.int .u32 0), (.int .u64 0), (.int .u64 0), (.int .u64 0), (.int .u64 0), (.int .u64 0), (.int .u64 0), (.int .u64 0)] : List Value) = z9
  generalize hH3 : (((H.new _).new _).new _) = H3
  have hb : H3.get H.next = .cells (l.map u8) none := by subst hH3; simp [AH.get_new, Nat.add_assoc]
  have hr : H3.get (H.next + 1) = .cells z9 none := by subst hH3; simp [AH.get_new, Nat.add_assoc]
  have hv : H3.get (H.next + 2) = .cells z9 none := by subst hH3; simp [AH.get_new, Nat.add_assoc]
  have hx : Ext H H3 := by subst hH3; exact (((Ext.refl H).new _).new _).new _
  have hn : H3.next = H.next + 3 := by subst hH3; rfl
  clear hH3
  refine S.take_at hE H.next 0 _ _ 4 l hb (.inl rfl) (by omega) (by omega) (by omega) (by omega) ⟨rfl, ?_⟩
  simp
  refine S.take_at hE H.next 4 _ _ 4 l hb (.inl rfl) (by omega) (by omega) (by omega) (by omega) ⟨rfl, ?_⟩
  simp
  refine S.take_at hE H.next 8 _ _ 8 l hb (.inl rfl) (by omega) (by omega) (by omega) (by omega) ⟨rfl, ?_⟩
  subst hz
  simp [splice, hv, Nat.add_assoc]
  generalize hH4 : H3.put (H.next + 2) _ = H4
  let done : Nat → List Value := fun i => [u32 ((takeW (l.take 4)).setWidth 32), u32 ((takeW ((l.drop 4).take 4)).setWidth 32), u64 (takeW ((l.drop 8).take 8))] ++ (List.range i).map fun j => u64 (takeW ((l.drop (16 + 8 * j)).take 8))
  have hlen : ∀ i, (done i).length = 3 + i := by intro i; simp [done]; omega
  refine LoopL.count 6 (fun i s H' => s = [ptr H.next 0, ptr (H.next + 1) 0, ptr (H.next + 2) 0, vi i] ∧ Ext H H' ∧ H'.next = H.next + 3 ∧ H'.get H.next = .cells (l.map u8) none ∧ H'.get (H.next + 1) = .cells [u32 0#32, u32 0#32, u64 0#64, u64 0#64, u64 0#64, u64 0#64, u64 0#64, u64 0#64, u64 0#64] none ∧
      H'.get (H.next + 2) = .cells (done i ++ zs (6 - i) (u64 0#64)) none) ?_ ?_
  · rintro i _ H' X hi hX ⟨rfl, h1, h2, h3, h4, h5⟩
    simp [F.record_Of_l1]
    refine ifB_split (fun h => ?_) (fun h => ?_)
    · have hi6 : i < 6 := by omega
      rw [i64_mul (by omega) (by omega), opt_some, i64_add (by omega) (by omega), opt_some, slArr_lt 64 H.next 0 (16 + 8 * i) _ (by omega) (by omega), opt_some]
      refine S.take_at hE H.next (0 + (16 + 8 * i)) _ _ 8 l h3 (.inl rfl) (by omega) (by omega) (by omega) (by omega) ?_
      rw [ixArr_nat 6 1 _ _ i hi6, opt_some, store1_ptr, h5]
      simp only [plain1_u64, if_true, List.length_append, hlen, zs_length]
      rw [if_pos (by omega), opt_some, i64_inc (by omega), opt_some]
      refine hX hi6 _ _ ⟨rfl, h1.put (by omega) _, h2, ?_, ?_, ?_⟩
      · rw [AH.get_put_ne _ _ (by omega)]; exact h3
      · rw [AH.get_put_ne _ _ (by omega)]; exact h4
      · rw [AH.get_put_self _ _ (by omega)]
        have e1 : zs (6 - i) (u64 0#64) = u64 0#64 :: zs (6 - (i + 1)) (u64 0#64) := by
          rw [show 6 - i = (6 - (i + 1)) + 1 by omega]; rfl
        have e2 : 3 + i * 1 = (done i).length := by rw [hlen]; omega
        rw [e1, e2, set_snoc]
        congr 2
        simp [done, List.range_succ]
    · have : i = 6 := by omega
      subst this
      have e3 : done 6 = (recOf l).cells := by simp [done, recOf, RecD.cells, List.range_succ]
      have e4 : (recOf l).cells.length = 9 := rfl
      have e5 : ((recOf l).cells).all plain1 = true := by simp [recOf, RecD.cells]
      rw [e3, Nat.sub_self, zs_zero, List.append_nil] at h5
      simp only [load1_ptr, loadN_ptr, h5, row_cells, Nat.zero_add, List.drop_zero]
      rw [if_pos (by omega)]
      simp only [Option.map_some, opt_some, storeN_ptr, h4]
      rw [List.take_of_length_le (by omega)]
      simp only [List.size_toArray, e4, List.toList_toArray]
      rw [if_pos ⟨trivial, by simp, e5⟩, opt_some]
      have h6 : H'.next > H.next + 1 := by omega
      simp only [AH.get_put_self _ _ h6, row_cells, splice]
      simp only [List.take_zero, List.nil_append, Nat.zero_add, e4]
      simp
      rw [if_pos (by omega)]
      simp
      rw [List.take_of_length_le (by omega)]
      exact hQ _ (h1.put (by omega) _)
  · subst hH4
    refine ⟨rfl, hx.put (by omega) _, hn, ?_, ?_, ?_⟩
    · rw [AH.get_put_ne _ _ (by omega)]; exact hb
    · rw [AH.get_put_ne _ _ (by omega)]; simpa using hr
    · rw [AH.get_put_self _ _ (by omega)]; rfl
end Go.AM
