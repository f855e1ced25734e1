/- CONTRACTS ON THE PRINTED FUNCTIONS: LawRecordActions. -/
import Derived.Test.YtjpdppohflailaaF
import Derived.Test.YtjpdppohflailaaAmStr
import Derived.Test.YtjpdppohflailaaAmTyped
import Derived.Test.YtjpdppohflailaaConRecord
import Derived.Test.YtjpdppohflailaaConLawRecordOrder
import Derived.Test.YtjpdppohflailaaConInsn
set_option linter.all false
namespace Go.AM
variable {E : Sy} {H : AH} {Q : Value → AH → Prop}
theorem kind_nat (a : BitVec 32) : (a &&& 4294901760#32).toNat = a.toNat / 65536 * 65536 := by
  rw [BitVec.toNat_and]
  exact land_high a.toNat 16 32 a.isLt
theorem kind_iff (a : BitVec 32) (k : Nat) (hk : k < 65536) : (a &&& 4294901760#32 = BitVec.ofNat 32 (k * 65536)) ↔ a / 65536#32 = BitVec.ofNat 32 k := by
  rw [← BitVec.toNat_inj, ← BitVec.toNat_inj, kind_nat]
  simp only [BitVec.toNat_udiv, BitVec.toNat_ofNat]
  rw [Nat.mod_eq_of_lt (by omega : k * 65536 < 2 ^ 32), Nat.mod_eq_of_lt (by omega : k < 2 ^ 32), show (65536 % 2 ^ 32 : Nat) = 65536 from rfl]
  omega
theorem akind_r (a : BitVec 32) : akind a = if a / 65536#32 = 5#32 then 327680#32 else if a / 65536#32 = 32764#32 then 2147221504#32 else if a / 65536#32 = 32767#32 then 2147418112#32 else 2147483648#32 := by
  unfold akind
  have h1 := kind_iff a 5 (by omega)
  have h2 := kind_iff a 32764 (by omega)
  have h3 := kind_iff a 32767 (by omega)
  simp only [Nat.reduceMul] at h1 h2 h3
  simp only [h1, h2, h3]
theorem rstrength_eq (a : BitVec 32) : rstrength a = astrength a := by
  unfold astrength rstrength
  rw [akind_r]
  split
  · simp
  split
  · simp
  split <;> simp
def akinds : List (BitVec 32) := [2147418112#32, 2147221504#32, 327680#32, 2147483648#32]
theorem rstrength_cases (a : BitVec 32) : (∃ t : Nat, ∃ h : t < 4, rstrength a = t ∧ akind a = akinds[t]'h) ∧ (rstrength a = 2 ↔ akind a = 327680#32) := by
  unfold rstrength
  rw [akind_r]
  split
  · exact ⟨⟨2, by omega, rfl, rfl⟩, by simp⟩
  split
  · exact ⟨⟨1, by omega, rfl, rfl⟩, by simp⟩
  split
  · exact ⟨⟨0, by omega, rfl, rfl⟩, by simp⟩
  · exact ⟨⟨3, by omega, rfl, rfl⟩, by simp⟩

theorem S.RecordActions_l2 (hE : Fold E) (X0 : List Value → AH → Prop) (e : Int) (v9 v10 t28 t29 : Value) (l : List (BitVec 32)) (x : BitVec 32) (i : Nat) (hi : i < 7) (hV : Vals H v9 (l.map u32)) (hl : l.length = 7)
    (hX0 : X0 [vi e, v9, v10, t28, t29, vi ((i + 1 : Nat) : Int)] H) :
    LoopL (fun l H X1 => F.pinfoldlaw04_RecordActions_l2 E Q X0 (nth l 0) (nth l 1) (nth l 2) (nth l 3) (nth l 4) (nth l 5) (nth l 6) (nth l 7) (nth l 8) (nth l 9) H X1) [vi e, v9, v10, u32 x, t28, t29, vi i, v9, vi l.length, vi 0] H := by
  refine LoopL.count 7 (fun j s H' => H' = H ∧ s = [vi e, v9, v10, u32 x, t28, t29, vi i, v9, vi l.length, vi j]) ?_ ⟨rfl, rfl⟩
  rintro j _ _ X hj hX ⟨rfl, rfl⟩
  simp [F.pinfoldlaw04_RecordActions_l2, hl]
  refine ifB_split (fun h => ?_) (fun h => ?_)
  · have hj7 : j < 7 := by omega
    obtain ⟨b, o, f1, f2⟩ := Vals.elem hV (i := j) (by simp; omega)
    simp at f2
    simp [f1, f2]
    apply S.record_Stronger hE
    apply S.pinfoldref03_Stronger hE
    have : (if rstrength x < rstrength (l[j]'(by omega)) then (l[j]'(by omega)) else x) = astronger x (l[j]'(by omega)) := by
      rw [rstrength_eq, rstrength_eq]; rfl
    simp [this]
    rw [i64_inc (by omega)]
    exact hX hj7 _ _ ⟨rfl, by rw [hl]; rfl⟩
  · rw [i64_inc (by omega)]
    exact hX0
theorem S.RecordActions_j1 (hE : Fold E) (X0 : List Value → AH → Prop) (e : Int) (v9 v10 t28 t29 : Value) (l : List (BitVec 32)) (x : BitVec 32) (i : Nat) (hi : i < 7) (hV : Vals H v9 (l.map u32)) (hl : l.length = 7) (hK : Vals H v10 (akinds.map u32))
    (w : Int) (hw : w = anumber x) (hX0 : X0 [vi e, v9, v10, t28, t29, vi ((i + 1 : Nat) : Int)] H) :
    F.pinfoldlaw04_RecordActions_j1 E Q X0 (vi e) v9 v10 (u32 x) (vi (rstrength x)) (vi w) t28 t29 (vi i) H := by
  obtain ⟨⟨t, ht, e1, e2⟩, _⟩ := rstrength_cases x
  rw [e1]
  obtain ⟨b, o, f1, f2⟩ := Vals.elem hK (i := t) (by simpa [akinds] using ht)
  rw [List.getElem_map] at f2
  have f2 : (H.get b).cell o = some (u32 (akind x)) := by rw [e2]; exact f2
  simp [F.pinfoldlaw04_RecordActions_j1, f1, f2]
  apply S.record_Action_Kind hE
  simp [f1, f2]
  apply S.record_Action_Number hE
  have hlen := hV.lenSlc
  simp [hw, hlen]
  exact S.RecordActions_l2 hE X0 e v9 v10 t28 t29 l x i hi hV hl hX0
theorem S.RecordActions_ (hE : Fold E) (a b : BitVec 32) (e : Int) (k : BitVec 8) (hQ : ∀ H', Q (vb true) H') :
    E.call (E.fid i.pinfoldlaw04_RecordActions) [u32 a, u32 b, vi e, u8 k] H Q := by
  apply hE.pinfoldlaw04_RecordActions
  unfold F.pinfoldlaw04_RecordActions
  apply S.pinfoldlaw04_Awake hE
  simp
  apply S.record_Fail hE
  simp [splice]
  generalize hH1 : (H.new _) = H1
  generalize hH2 : (H1.new _) = H2
  have hV : Vals H2 (slc H.next 0 7 7) ([a, b, 2147483648#32, 2147221504#32, 2147418112#32, afail e, 327680#32 ||| BitVec.setWidth 32 k].map u32) := Vals.made (f := none) (by subst hH2; subst hH1; simp [AH.get_new]) (.inl rfl) rfl
  have hn : H1.next = H.next + 1 := by subst hH1; rfl
  have hK : Vals H2 (slc (H.next + 1) 0 4 4) (akinds.map u32) := Vals.made (f := none) (by subst hH2; rw [← hn]; simp [akinds]) (.inl rfl) rfl
  have hl : [a, b, 2147483648#32, 2147221504#32, 2147418112#32, afail e, 327680#32 ||| BitVec.setWidth 32 k].length = 7 := rfl
  generalize [a, b, 2147483648#32, 2147221504#32, 2147418112#32, afail e, 327680#32 ||| BitVec.setWidth 32 k] = l at *
  generalize slc H.next 0 7 7 = v9 at *
  generalize slc (H.next + 1) 0 4 4 = v10 at *
  refine LoopL.count 7 (fun i s H' => H' = H2 ∧ s = [vi e, v9, v10, v9, vi 7, vi i]) ?_ ⟨rfl, rfl⟩
  clear hH1 hH2 hn
  rintro i _ _ X hi hX ⟨rfl, rfl⟩
  simp [F.pinfoldlaw04_RecordActions_l1]
  refine ifB_split (fun h => ?_) (fun h => ?_)
  · have hi7 : i < 7 := by omega
    obtain ⟨b, o, f1, f2⟩ := Vals.elem hV (i := i) (by simp; omega)
    rw [List.getElem_map] at f2
    generalize l[i]'(by omega) = x at *
    simp [f1, f2]
    apply S.pinfoldref03_Strength hE
    have h2 := (rstrength_cases x).2
    have hX' := hX hi7 [vi e, v9, v10, v9, vi 7, vi ((i + 1 : Nat) : Int)] _ ⟨rfl, rfl⟩
    simp
    refine ifB_split (fun h => ?_) (fun h => ?_)
    · exact S.RecordActions_j1 hE X e v9 v10 v9 (vi 7) l x i hi7 hV hl hK _ (by simp [anumber, h2.1 h]) hX'
    · exact S.RecordActions_j1 hE X e v9 v10 v9 (vi 7) l x i hi7 hV hl hK 0 (by
        have : akind x ≠ 327680#32 := fun e => h (h2.2 e)
        simp [anumber, this]) hX'
  · apply S.record_Fail hE
    simp [afail]
    exact hQ _
theorem S.law_RecordActions (hE : Fold E) (args : List Value) (ha : ArgsSV H [.int .u32, .int .u32, .int .i64, .int .u8] args) (hQ : ∀ H', Q (vb true) H') : E.call (E.fid i.pinfoldlaw04_RecordActions) args H Q := by
  obtain ⟨v1, _, rfl, h1, ha⟩ := ha.cons_inv
  obtain ⟨v2, _, rfl, h2, ha⟩ := ha.cons_inv
  obtain ⟨v3, _, rfl, h3, ha⟩ := ha.cons_inv
  obtain ⟨v4, _, rfl, h4, ha⟩ := ha.cons_inv
  obtain rfl := ha.nil_inv
  obtain ⟨x1, rfl⟩ := h1.u32
  obtain ⟨x2, rfl⟩ := h2.u32
  obtain ⟨x3, rfl, _⟩ := h3.i64
  obtain ⟨x4, rfl⟩ := h4.u8
  exact S.RecordActions_ hE x1 x2 x3 x4 hQ
end Go.AM
