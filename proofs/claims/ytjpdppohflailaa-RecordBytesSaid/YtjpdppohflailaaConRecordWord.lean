/- CONTRACTS ON THE PRINTED FUNCTIONS: RecordWord. -/
import Derived.Test.YtjpdppohflailaaF
import Derived.Test.YtjpdppohflailaaAmStr
import Derived.Test.YtjpdppohflailaaAmTyped
import Derived.Test.YtjpdppohflailaaConRecordRound
set_option linter.all false
namespace Go.AM
variable {E : Sy} {H : AH} {Q : Value → AH → Prop}
def rword (r : RecD) (a : BitVec 32) : BitVec 32 × Bool := if a.toNat % 4 = 0 ∧ a.toNat ≤ 60 then (r.words.getD (a.toNat / 4) 0, true) else (0, false)
theorem S.record_Record_Word (hE : Fold E) (r : RecD) (hr : r.ok) (a : BitVec 32) (hQ : ∀ H', Ext H H' → Q (.tuple #[u32 (rword r a).1, vb (rword r a).2]) H') : E.call (E.fid i.record_Record_Word) [r.v, u32 a] H Q := by
  apply hE.record_Record_Word
  simp [F.record_Record_Word]
  have hm : (a % 4#32 = 0#32) ↔ a.toNat % 4 = 0 := by
    rw [← BitVec.toNat_inj]; simp
  by_cases h1 : a.toNat % 4 = 0
  · simp only [hm.2 h1]
    simp
    by_cases h2 : 60 < a.toNat
    · have h3 : ¬ a.toNat ≤ 60 := by omega
      simp [h2]
      have := hQ (H.new (AObj.cells r.cells none)) (by simp)
      simpa [rword, h1, h3] using this
    · have h3 : a.toNat ≤ 60 := by omega
      simp [h2]
      have hl9 : r.cells.length = 9 := by
        obtain ⟨n, a, t, x0, x1, x2, x3, x4, x5, rfl⟩ := RecD.ok_cases hr
        rfl
      rw [if_pos (by omega), List.take_of_length_le (by omega)]
      simp only [Option.map_some, opt_some]
      refine S.record_Record_Bytes hE r hr fun H4 h4 => ?_
      have hb := bytes_len r hr
      simp [hb, splice]
      generalize hH5 : H4.new _ = H5
      have hg : H5.get H4.next = .cells (r.bytes.map u8) none := by subst hH5; simp
      have hx : Ext H H5 := by subst hH5; exact (((Ext.refl H).new _).trans h4).new _
      clear hH5
      rw [show slArr 64 1 (ptr H4.next 0) (some (u32 a)) none none = slArr 64 1 (ptr H4.next 0) (some (vi (a.toNat : Int))) none none from rfl]
      rw [slArr_lt 64 H4.next 0 a.toNat _ rfl (by omega), opt_some]
      refine S.take_at hE H4.next (0 + a.toNat) _ _ 4 r.bytes hg (.inl rfl) (by omega) (by omega) (by omega) (by omega) ?_
      have hw := bytes_word r (a.toNat / 4) (by rw [words_len r hr]; omega)
      have e4 : 0 + a.toNat = 4 * (a.toNat / 4) := by omega
      rw [e4, hw]
      simp [takeW_bytes4]
      have := hQ H5 hx
      simp only [rword, h1, h3, and_self, if_true] at this
      rw [List.getD_eq_getElem?_getD, List.getElem?_eq_getElem (by rw [words_len r hr]; omega)] at this
      exact this
  · have : ¬ (a % 4#32 = 0#32) := fun e => h1 (hm.1 e)
    simp [this]
    have := hQ (H.new (AObj.cells r.cells none)) (by simp)
    simpa [rword, h1] using this
def clampArg (n : Int) : Nat := (if 5 < (if 0 > n then 0 else n) then 5 else (if 0 > n then 0 else n)).toNat
theorem clampArg_lt (n : Int) : clampArg n < 6 := by unfold clampArg; split <;> split <;> omega
theorem clampArg_eq (n : Int) : (if 5 < (if 0 > n then 0 else n) then 5 else (if 0 > n then 0 else n)) = (clampArg n : Int) := by unfold clampArg; split <;> split <;> omega
theorem S.record_Half (hE : Fold E) (n : Int) (b : Bool) (hQ : Q (u32 (BitVec.ofNat 32 (16 + 8 * clampArg n + (if b then 4 else 0)))) H) : E.call (E.fid i.record_Half) [vi n, vb b] H Q := by
  apply hE.record_Half
  have hc := clampArg_lt n
  simp only [F.record_Half, i64_max, opt_some, i64_min, clampArg_eq]
  rw [i64_mul (by omega) (by omega), opt_some, i64_add (by omega) (by omega), opt_some]
  have e : (16 : Int) + 8 * (clampArg n : Int) = ((16 + 8 * clampArg n : Nat) : Int) := by omega
  simp only [e, i64_to_u32, opt_some, BitVec.ofInt_natCast]
  cases b with
  | false => simpa using hQ
  | true =>
    simp
    have : BitVec.ofNat 32 (16 + 8 * clampArg n) + 4#32 = BitVec.ofNat 32 (16 + 8 * clampArg n + 4) := by
      rw [← BitVec.ofNat_add]
    rw [this]; simpa using hQ
theorem words_arg (r : RecD) (hr : r.ok) (k : Nat) (hk : k < 6) (hb : Nat) (hh : hb < 2) : r.words.getD (4 + 2 * k + hb) 0 = if hb = 0 then lo32 (r.args.getD k 0) else hi32 (r.args.getD k 0) := by
  obtain ⟨n, a, t, x0, x1, x2, x3, x4, x5, rfl⟩ := RecD.ok_cases hr
  have h1 : k = 0 ∨ k = 1 ∨ k = 2 ∨ k = 3 ∨ k = 4 ∨ k = 5 := by omega
  have h2 : hb = 0 ∨ hb = 1 := by omega
  rcases h1 with rfl | rfl | rfl | rfl | rfl | rfl <;> rcases h2 with rfl | rfl <;> rfl
theorem rword_arg (r : RecD) (hr : r.ok) (k : Nat) (hk : k < 6) (b : Bool) : rword r (BitVec.ofNat 32 (16 + 8 * k + (if b then 4 else 0))) = (if b then hi32 (r.args.getD k 0) else lo32 (r.args.getD k 0), true) := by
  have h1 := words_arg r hr k hk (if b then 1 else 0) (by split <;> omega)
  unfold rword
  have e : (BitVec.ofNat 32 (16 + 8 * k + (if b then 4 else 0))).toNat = 16 + 8 * k + (if b then 4 else 0) := by
    rw [BitVec.toNat_ofNat]; apply Nat.mod_eq_of_lt; split <;> omega
  rw [e, if_pos (by constructor <;> split <;> omega)]
  have e2 : (16 + 8 * k + (if b then 4 else 0)) / 4 = 4 + 2 * k + (if b then 1 else 0) := by split <;> omega
  rw [e2, h1]
  cases b <;> rfl
theorem S.RecordHalves_ (hE : Fold E) (r : RecD) (hr : r.ok) (n : Int) (hA : ∀ {H Q}, Q (vb true) H → E.call (E.fid i.pinfoldlaw04_Awake) [] H Q) (hQ : ∀ H', Q (vb true) H') : E.call (E.fid i.pinfoldlaw04_RecordHalves) [r.v, vi n] H Q := by
  apply hE.pinfoldlaw04_RecordHalves
  unfold F.pinfoldlaw04_RecordHalves
  simp only [boxO_agg, mk_some, mkPtr_eq]
  apply hA
  have hc := clampArg_lt n
  have hl9 : r.cells.length = 9 := by
    obtain ⟨n, a, t, x0, x1, x2, x3, x4, x5, rfl⟩ := RecD.ok_cases hr
    rfl
  generalize hH1 : H.new _ = H1
  have hg : H1.get H.next = .cells r.cells none := by subst hH1; simp
  clear hH1
  have hld : ∀ {H' : AH}, H'.get H.next = .cells r.cells none → loadN 9 (ptr H.next 0) H' = some r.v := by
    intro H' h
    rw [loadN_ptr, h, row_cells, if_pos (by omega)]
    simp [List.take_of_length_le (by omega : r.cells.length ≤ 9)]
  simp only [un_not, opt_some, Bool.not_true, ifB_false, i64_max, i64_min, clampArg_eq, hld hg]
  refine S.record_Half hE n false ⟨hld hg, ?_⟩
  refine S.record_Record_Word hE r hr _ fun H4 h4 => ?_
  rw [rword_arg r hr _ hc]
  have hg4 := h4.cells hg
  simp only [ext_tuple, hld hg4]
  simp
  refine S.record_Half hE n true ⟨by rw [hg4, row_cells, if_pos (by omega)]; simp [List.take_of_length_le (by omega : r.cells.length ≤ 9)], ?_⟩
  refine S.record_Record_Word hE r hr _ fun H6 h6 => ?_
  rw [rword_arg r hr _ hc]
  have hg6 := h6.cells hg4
  have ha : r.cells[3 + clampArg n]? = some (u64 (r.args.getD (clampArg n) 0)) := by
    obtain ⟨n', a, t, x0, x1, x2, x3, x4, x5, rfl⟩ := RecD.ok_cases hr
    generalize clampArg n = k at hc
    have h1 : k = 0 ∨ k = 1 ∨ k = 2 ∨ k = 3 ∨ k = 4 ∨ k = 5 := by omega
    rcases h1 with rfl | rfl | rfl | rfl | rfl | rfl <;> rfl
  simp only [ext_tuple]
  simp [ixArr_nat 6 1 _ _ _ hc, hg6, ha]
  have hj := join64 (r.args.getD (clampArg n) 0)
  simp at hj
  simp [hj]
  exact hQ _
end Go.AM
