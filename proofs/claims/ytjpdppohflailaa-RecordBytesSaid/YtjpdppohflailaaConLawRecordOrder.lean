/- CONTRACTS ON THE PRINTED FUNCTIONS: LawRecordOrder. -/
import Derived.Test.YtjpdppohflailaaF
import Derived.Test.YtjpdppohflailaaAmStr
import Derived.Test.YtjpdppohflailaaAmTyped
import Derived.Test.YtjpdppohflailaaConRecord
set_option linter.all false
namespace Go.AM
variable {E : Sy} {H : AH} {Q : Value → AH → Prop}

theorem astronger_assoc (a b c : BitVec 32) : astronger (astronger a b) c = astronger a (astronger b c) := by
  unfold astronger
  by_cases h1 : astrength a < astrength b
  · by_cases h2 : astrength b < astrength c
    · have : astrength a < astrength c := by omega
      simp [h1, h2, this]
    · simp [h1, h2]
  · by_cases h2 : astrength b < astrength c
    · simp [h1, h2]
    · have : ¬ astrength a < astrength c := by omega
      simp [h1, h2, this]
def afold : List (BitVec 32) → BitVec 32
  | [] => 0
  | x :: l => l.foldl astronger x
theorem foldl_astronger (a b : BitVec 32) : ∀ l : List (BitVec 32), l.foldl astronger (astronger a b) = astronger a (l.foldl astronger b)
  | [] => rfl
  | c :: l => by simp only [List.foldl_cons]; rw [astronger_assoc, foldl_astronger]
theorem afold_append (x : BitVec 32) (l m : List (BitVec 32)) (hm : m ≠ []) : afold (x :: l ++ m) = astronger (afold (x :: l)) (afold m) := by
  cases m with
  | nil => exact absurd rfl hm
  | cons y m => simp only [afold, List.cons_append, List.foldl_append, List.foldl_cons]; rw [foldl_astronger]
/-- All are at most as strong as the fold; those ahead of where the fold first stands are weaker. -/
theorem foldl_max (x : BitVec 32) : ∀ (l : List (BitVec 32)) (y : BitVec 32), y = x ∨ y ∈ l → astrength y ≤ astrength (l.foldl astronger x)
  | [], y, h => by
    rcases h with rfl | h
    · exact Int.le_refl _
    · simp at h
  | z :: l, y, h => by
    simp only [List.foldl_cons]
    have hx := foldl_max (astronger x z) l (astronger x z) (.inl rfl)
    rcases h with rfl | h
    · have : astrength y ≤ astrength (astronger y z) := by unfold astronger; split <;> omega
      omega
    · rcases List.mem_cons.1 h with rfl | h
      · have : astrength y ≤ astrength (astronger x y) := by unfold astronger; split <;> omega
        omega
      · exact foldl_max _ l y (.inr h)
theorem afold_max {l : List (BitVec 32)} {y : BitVec 32} (h : y ∈ l) : astrength y ≤ astrength (afold l) := by
  cases l with
  | nil => simp at h
  | cons x l => exact foldl_max x l y (List.mem_cons.1 h)
theorem foldl_first (x : BitVec 32) : ∀ (l : List (BitVec 32)), l.foldl astronger x = x ∨ ∃ k, ∃ h : k < l.length, l[k] = l.foldl astronger x ∧ astrength x < astrength l[k] ∧ ∀ j (hj : j < k), astrength (l[j]'(by omega)) < astrength l[k]
  | [] => .inl rfl
  | z :: l => by
    simp only [List.foldl_cons]
    by_cases hz : astrength x < astrength z
    · have e : astronger x z = z := by simp [astronger, hz]
      rw [e]
      rcases foldl_first z l with h | ⟨k, hk, h1, h2, h3⟩
      · exact .inr ⟨0, by simp, by simp [h], by simpa using hz, fun j hj => by omega⟩
      · refine .inr ⟨k + 1, by simp; omega, by simpa using h1, by simp; omega, fun j hj => ?_⟩
        cases j with
        | zero => simpa using h2
        | succ j => simpa using h3 j (by omega)
    · have e : astronger x z = x := by simp [astronger, hz]
      rw [e]
      rcases foldl_first x l with h | ⟨k, hk, h1, h2, h3⟩
      · exact .inl h
      · refine .inr ⟨k + 1, by simp; omega, by simpa using h1, by simpa using h2, fun j hj => ?_⟩
        cases j with
        | zero => simp; omega
        | succ j => simpa using h3 j (by omega)
/-- What stands ahead of the first that is the fold is weaker. -/
theorem afold_first {l : List (BitVec 32)} {i : Nat} (hi : i < l.length) (hn : ∀ j (hj : j < i), l[j]'(by omega) ≠ afold l) (hni : l[i] ≠ afold l) : astrength l[i] < astrength (afold l) := by
  cases l with
  | nil => simp at hi
  | cons x l =>
    simp only [afold] at *
    rcases foldl_first x l with h | ⟨k, hk, h1, h2, h3⟩
    · exfalso
      cases i with
      | zero => exact hni (by simpa using h.symm)
      | succ i => exact hn 0 (by omega) (by simpa using h.symm)
    · rw [← h1]
      cases i with
      | zero => simpa using h2
      | succ i =>
        have hik : i < k := by
          apply Classical.byContradiction
          intro hge
          by_cases e : i = k
          · subst e; exact hni (by simpa using h1)
          · exact hn (k + 1) (by omega) (by simpa using h1)
        simpa using h3 i hik
theorem kind_strength {a b : BitVec 32} (h : akind a = akind b) : astrength a = astrength b := by unfold astrength; rw [h]

theorem S.RecordOrder_fold (hE : Fold E) (v : Value) (l : List (BitVec 32)) (hl : l ≠ []) (hb : l.length < 2 ^ 62) (hV : Vals H v (l.map u32)) (hQ : Q (u32 (afold l)) H) : E.call (E.fid i.pinfoldlaw04_RecordOrder_1) [v] H Q := by
  apply hE.pinfoldlaw04_RecordOrder_1
  have hpos := List.length_pos_iff.2 hl
  obtain ⟨b, o, e1, e2⟩ := Vals.elem hV (i := 0) (by simpa using hpos)
  obtain ⟨v', e3, hV'⟩ := Vals.slice hV (lo := some (vi 1)) (hi := none) (i := 1) (j := l.length) (.inl rfl) (.inr ⟨rfl, by simp⟩) (by omega) (by simp)
  have hV' : Vals H v' ((l.drop 1).map u32) := by
    have e : ((l.map u32).take l.length).drop 1 = (l.drop 1).map u32 := by rw [List.take_of_length_le (by simp)]; simp
    rwa [e] at hV'
  have e4 := hV'.lenSlc
  obtain ⟨x, l', rfl⟩ : ∃ x l', l = x :: l' := by cases l with | nil => exact absurd rfl hl | cons x l' => exact ⟨x, l', rfl⟩
  simp at e1 e2 hV' e4
  simp [F.pinfoldlaw04_RecordOrder_1, e1, e2, e3, e4]
  refine LoopL.count l'.length (fun i l H' => H' = H ∧ l = [u32 ((l'.take i).foldl astronger x), v', vi l'.length, vi i]) ?_ ⟨rfl, by simp⟩
  rintro i _ _ X hi hX ⟨rfl, rfl⟩
  simp [F.pinfoldlaw04_RecordOrder_1_l1]
  refine ifB_split (fun h => ?_) (fun h => ?_)
  · have hil : i < l'.length := by omega
    obtain ⟨b, o, f1, f2⟩ := Vals.elem hV' (i := i) (by simpa using hil)
    simp at f2
    simp [f1, f2]
    apply S.record_Stronger hE
    rw [i64_inc (by simp at hb; omega)]
    refine hX hil _ _ ⟨rfl, ?_⟩
    rw [List.take_succ_eq_append_getElem hil, List.foldl_append]
    simp
  · have : i = l'.length := by omega
    subst this
    simpa [afold] using hQ

theorem S.pinfoldlaw04_Awake (hE : Fold E) (hQ : Q (vb true) H) : E.call (E.fid i.pinfoldlaw04_Awake) [] H Q := by
  apply hE.pinfoldlaw04_Awake
  unfold F.pinfoldlaw04_Awake
  refine S.record_Fail hE 13 ?_
  simp
  apply S.record_Stronger hE
  have : astronger 2147221504#32 (afail 13) = 327693#32 := by decide
  simp [this]
  exact hQ

theorem S.RecordOrder_j1 (hE : Fold E) (v : Value) (l : List (BitVec 32)) (hl : l ≠ []) (hb : l.length ≤ 40) (cut : BitVec 8) (hV : Vals H v (l.map u32)) (hQ : ∀ H', Q (vb true) H') :
    F.pinfoldlaw04_RecordOrder_j1 E Q v (u8 cut) (.func (.func (E.fid i.pinfoldlaw04_RecordOrder_1)) #[] #[]) (u32 (afold l)) H := by
  have hlen := hV.lenSlc
  have hpos := List.length_pos_iff.2 hl
  simp [F.pinfoldlaw04_RecordOrder_j1, hlen]
  rw [binInt_rem _ _ _ (by omega), ← Int.ofNat_tmod]
  simp
  refine ifB_split (fun h => hQ _) (fun h => ?_)
  have hk : cut.toNat % l.length < l.length := Nat.mod_lt _ hpos
  generalize hk' : cut.toNat % l.length = k at *
  have ek : ((cut.toNat : Int) % (l.length : Int)) = (k : Int) := by rw [← hk']; simp
  simp only [ek] at h ⊢
  have hk0 : k ≠ 0 := by omega
  obtain ⟨v1, e1, hV1⟩ := Vals.slice hV (lo := none) (hi := some (vi k)) (i := 0) (j := k) (.inr ⟨rfl, rfl⟩) (.inl rfl) (by omega) (by simp; omega)
  obtain ⟨v2, e2, hV2⟩ := Vals.slice hV (lo := some (vi k)) (hi := none) (i := k) (j := l.length) (.inl rfl) (.inr ⟨rfl, by simp⟩) (by omega) (by simp)
  have q1 : ((l.map u32).take k).drop 0 = (l.take k).map u32 := by simp
  have q2 : ((l.map u32).take l.length).drop k = (l.drop k).map u32 := by rw [List.take_of_length_le (by simp)]; simp
  rw [q1] at hV1
  rw [q2] at hV2
  simp [e1, e2]
  have n1 : l.take k ≠ [] := by intro e; have := congrArg List.length e; rw [List.length_take] at this; simp only [List.length_nil] at this; omega
  have n2 : l.drop k ≠ [] := by intro e; have := congrArg List.length e; rw [List.length_drop] at this; simp only [List.length_nil] at this; omega
  refine S.RecordOrder_fold hE v1 (l.take k) n1 (by simp; omega) hV1 ?_
  simp [e2]
  refine S.RecordOrder_fold hE v2 (l.drop k) n2 (by simp; omega) hV2 ?_
  apply S.record_Stronger hE
  have : astronger (afold (l.take k)) (afold (l.drop k)) = afold l := by
    have e := List.take_append_drop k l
    cases ht : l.take k with
    | nil => exact absurd ht n1
    | cons x t =>
      rw [← afold_append x t _ n2, ← ht, e]
  simp [this]
  exact hQ _
theorem S.RecordOrder_ (hE : Fold E) (v : Value) (l : List (BitVec 32)) (cut : BitVec 8) (hV : Vals H v (l.map u32)) (hQ : ∀ H', Q (vb true) H') :
    E.call (E.fid i.pinfoldlaw04_RecordOrder) [v, u8 cut] H Q := by
  apply hE.pinfoldlaw04_RecordOrder
  unfold F.pinfoldlaw04_RecordOrder
  apply S.pinfoldlaw04_Awake hE
  have hlen := hV.lenSlc
  simp [hlen]
  by_cases h1 : 40 < l.length
  · have : (40 : Int) < (l.length : Int) := by omega
    simp [this]
    exact hQ _
  have h1' : ¬ (40 : Int) < (l.length : Int) := by omega
  simp [h1', hlen]
  refine ifB_split (fun h => hQ _) (fun h => ?_)
  have hl : l ≠ [] := by intro e; subst e; simp at h
  refine S.RecordOrder_fold hE v l hl (by omega) hV ?_
  refine LoopL.count l.length (fun i s H' => H' = H ∧ s = [v, u8 cut, .func (.func (E.fid AM.i.pinfoldlaw04_RecordOrder_1)) #[] #[], u32 (afold l), v, vi l.length, vi i] ∧ ∀ j (hj : j < i) (hjl : j < l.length), l[j] ≠ afold l) ?_ ⟨rfl, rfl, fun j hj => by omega⟩
  rintro i _ _ X hi hX ⟨rfl, rfl, hn⟩
  simp [F.pinfoldlaw04_RecordOrder_l1]
  refine ifB_split (fun h => ?_) (fun h => S.RecordOrder_j1 hE v l hl (by omega) cut hV hQ)
  have hil : i < l.length := by omega
  obtain ⟨b, o, f1, f2⟩ := Vals.elem hV (i := i) (by simpa using hil)
  simp at f2
  simp [f1, f2]
  apply S.record_Stronger hE
  have hm : astronger (afold l) l[i] = afold l := by
    have := afold_max (l := l) (List.getElem_mem hil)
    unfold astronger
    rw [if_neg (by omega)]
  simp [hm]
  refine ifB_split (fun h => S.RecordOrder_j1 hE v l hl (by omega) cut hV hQ) (fun hne => ?_)
  simp [f1, f2]
  apply S.record_Action_Kind hE
  apply S.record_Action_Kind hE
  have hst := afold_first hil (fun j hj => hn j hj (by omega)) hne
  have hkd : akind l[i] ≠ akind (afold l) := fun e => by have := kind_strength e; omega
  simp [hkd]
  rw [i64_inc (by omega)]
  refine hX hil _ _ ⟨rfl, rfl, fun j hj hjl => ?_⟩
  by_cases e : j = i
  · subst e; exact hne
  · exact hn j (by omega) hjl
theorem S.law_RecordOrder (hE : Fold E) (args : List Value) (ha : ArgsSV H [.slice 1 (.int .u32), .int .u8] args) (hQ : ∀ H', Q (vb true) H') : E.call (E.fid i.pinfoldlaw04_RecordOrder) args H Q := by
  obtain ⟨v1, _, rfl, h1, ha⟩ := ha.cons_inv
  obtain ⟨v2, _, rfl, h2, ha⟩ := ha.cons_inv
  obtain rfl := ha.nil_inv
  obtain ⟨x2, rfl⟩ := h2.u8
  obtain ⟨l, hV⟩ := h1.u32s
  exact S.RecordOrder_ hE v1 l x2 hV hQ
end Go.AM
