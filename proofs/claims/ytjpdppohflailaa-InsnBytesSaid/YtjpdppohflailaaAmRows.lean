/- THE ABSTRACT MACHINE: slices read as rows of cells; slices that grow by append. -/
import Derived.Test.YtjpdppohflailaaAmBuild
set_option linter.all false
namespace Go.AM

theorem rowF_length (f : Nat → Option Value) : ∀ (n i : Nat) (l : List Value), rowF f i n = some l → l.length = n
  | 0, i, l, h => by simp [rowF] at h; subst h; rfl
  | n + 1, i, l, h => by
    simp only [rowF] at h
    cases hf : f i with
    | none => simp [hf] at h
    | some v =>
      simp only [hf, Option.bind_some] at h
      cases hr : rowF f (i + 1) n with
      | none => simp [hr] at h
      | some k => simp [hr] at h; subst h; simp [rowF_length f n _ _ hr]
theorem rowF_get (f : Nat → Option Value) : ∀ (n i : Nat) (l : List Value), rowF f i n = some l → ∀ j, j < n → f (i + j) = l[j]?
  | 0, i, l, h, j, hj => by omega
  | n + 1, i, l, h, j, hj => by
    simp only [rowF] at h
    cases hf : f i with
    | none => simp [hf] at h
    | some v =>
      simp only [hf, Option.bind_some] at h
      cases hr : rowF f (i + 1) n with
      | none => simp [hr] at h
      | some k =>
        simp [hr] at h; subst h
        cases j with
        | zero => simpa using hf
        | succ j => rw [List.getElem?_cons_succ, ← rowF_get f n (i + 1) k hr j (by omega)]; congr 1; omega
theorem rowF_some (f : Nat → Option Value) : ∀ (n i : Nat) (l : List Value), l.length = n → (∀ j, j < n → f (i + j) = l[j]?) → rowF f i n = some l
  | 0, i, l, h, _ => by have := List.eq_nil_of_length_eq_zero h; subst this; rfl
  | n + 1, i, [], h, _ => by simp at h
  | n + 1, i, v :: l, h, hf => by
    have h0 := hf 0 (by omega)
    simp at h0
    simp only [rowF, h0, Option.bind_some]
    rw [rowF_some f n (i + 1) l (by simpa using h) (fun j hj => by have := hf (j + 1) (by omega); rw [List.getElem?_cons_succ] at this; rw [← this]; congr 1; omega)]
    rfl

theorem row_length {o : AObj} {i n : Nat} {l : List Value} (h : o.row i n = some l) : l.length = n := by
  cases o with
  | cells c f => simp only [row_cells] at h; split at h <;> simp at h; subst h; simp; omega
  | ro f => exact rowF_length f n i l h
  | _ => simp [AObj.row] at h
theorem row_at {o : AObj} {i n : Nat} {l : List Value} (h : o.row i n = some l) {j : Nat} (hj : j < n) : o.cell (i + j) = l[j]? := by
  cases o with
  | cells c f =>
    simp only [row_cells] at h; split at h <;> simp at h; subst h
    simp [AObj.cell, hj]
  | ro f => exact rowF_get f n i l h j hj
  | _ => simp [AObj.row] at h
theorem row_part {o : AObj} {i n : Nat} {l : List Value} (h : o.row i n = some l) {j m : Nat} (hj : j + m ≤ n) : o.row (i + j) m = some ((l.drop j).take m) := by
  cases o with
  | cells c f =>
    simp only [row_cells] at h ⊢; split at h <;> simp at h; subst h
    rw [if_pos (by omega)]
    congr 1
    rw [List.drop_take, List.drop_drop, List.take_take, Nat.min_eq_left (by omega)]
  | ro f =>
    have hl := rowF_length f n i l h
    refine rowF_some f m (i + j) _ (by simp; omega) fun k hk => ?_
    rw [Nat.add_assoc, rowF_get f n i l h (j + k) (by omega)]
    simp [List.getElem?_take, hk]
  | _ => simp [AObj.row] at h
theorem row_notdead {o : AObj} {i n : Nat} {l : List Value} (h : o.row i n = some l) : o ≠ .dead := by
  rintro rfl; simp [AObj.row] at h

theorem flatten_part {α : Type} {sz : Nat} : ∀ (rows : List (List α)), (∀ r ∈ rows, r.length = sz) → ∀ i (h : i < rows.length), ((rows.flatten).drop (i * sz)).take sz = rows[i]
  | [], _, i, h => by simp at h
  | r :: rows, hl, 0, h => by
    have := hl r (by simp)
    simp [← this]
  | r :: rows, hl, i + 1, h => by
    have h1 := hl r (by simp)
    have ih := flatten_part rows (fun x hx => hl x (by simp [hx])) i (by simpa using h)
    simp only [List.flatten_cons, List.getElem_cons_succ]
    rw [← ih, Nat.succ_mul, List.drop_append, List.drop_eq_nil_of_le (by omega), h1]
    simp
theorem flatten_length {α : Type} {sz : Nat} (rows : List (List α)) (hl : ∀ r ∈ rows, r.length = sz) : rows.flatten.length = rows.length * sz := by
  induction rows with
  | nil => simp
  | cons r rows ih => simp [hl r (by simp), ih (fun x hx => hl x (by simp [hx])), Nat.succ_mul, Nat.add_comm]
theorem flatten_drop {α : Type} {sz : Nat} : ∀ (rows : List (List α)), (∀ r ∈ rows, r.length = sz) → ∀ i, (rows.flatten).drop (i * sz) = (rows.drop i).flatten
  | [], _, i => by simp
  | r :: rows, hl, 0 => by simp
  | r :: rows, hl, i + 1 => by
    have h1 := hl r (by simp)
    have ih := flatten_drop rows (fun x hx => hl x (by simp [hx])) i
    simp only [List.flatten_cons, List.drop_succ_cons]
    rw [← ih, Nat.succ_mul, List.drop_append, List.drop_eq_nil_of_le (by omega), h1]
    simp
theorem flatten_take {α : Type} {sz : Nat} : ∀ (rows : List (List α)), (∀ r ∈ rows, r.length = sz) → ∀ i, (rows.flatten).take (i * sz) = (rows.take i).flatten
  | [], _, i => by simp
  | r :: rows, hl, 0 => by simp
  | r :: rows, hl, i + 1 => by
    have h1 := hl r (by simp)
    have ih := flatten_take rows (fun x hx => hl x (by simp [hx])) i
    simp only [List.flatten_cons, List.take_succ_cons]
    rw [← ih, Nat.succ_mul, List.take_append, List.take_of_length_le (by omega), h1]
    simp

/-- What a slice holds, element for element. -/
structure Rows (H : AH) (sz : Nat) (v : Value) (rows : List (List Value)) : Prop where
  len : ∀ r ∈ rows, r.length = sz
  at_ : (rows = [] ∧ ∃ a, v = .slice a 0 0) ∨ ∃ b o c, v = slc b o rows.length c ∧ rows.length ≤ c ∧ fits sz (H.get b) = true ∧ (H.get b).row o (rows.length * sz) = some rows.flatten

section
variable {H H' : AH} {sz : Nat} {v : Value} {rows : List (List Value)}
theorem Rows.mono (h : Rows H sz v rows) (e : Ext H H') : Rows H' sz v rows := by
  refine ⟨h.len, ?_⟩
  rcases h.at_ with h | ⟨b, o, c, h1, h2, h3, h4⟩
  · exact .inl h
  · have := e.get (AH.lt_of_get (row_notdead h4))
    exact .inr ⟨b, o, c, h1, h2, by rw [this]; exact h3, by rw [this]; exact h4⟩
theorem Rows.lenSlc (h : Rows H sz v rows) : AM.lenSlc v = some (vi rows.length) := by
  rcases h.at_ with ⟨rfl, c, rfl⟩ | ⟨b, o, c, rfl, _⟩ <;> rfl
theorem Rows.ix (h : Rows H sz v rows) {i : Nat} (hi : i < rows.length) : ∃ b o, ixSlc sz v (vi i) = some (ptr b o) ∧ (H.get b).row o sz = some rows[i] := by
  rcases h.at_ with ⟨rfl, c, rfl⟩ | ⟨b, o, c, rfl, h2, h3, h4⟩
  · simp at hi
  · refine ⟨b, o + i * sz, ixSlc_slc sz b o _ c i hi, ?_⟩
    have hle : i * sz + sz ≤ rows.length * sz := by rw [← Nat.succ_mul]; exact Nat.mul_le_mul_right _ hi
    rw [row_part h4 hle, flatten_part rows h.len i hi]
/-- An element, loaded whole. -/
theorem Rows.elem (h : Rows H sz v rows) {i : Nat} (hi : i < rows.length) : ∃ b o, ixSlc sz v (vi i) = some (ptr b o) ∧ loadN sz (ptr b o) H = some (.agg rows[i].toArray) := by
  obtain ⟨b, o, h1, h2⟩ := h.ix hi
  exact ⟨b, o, h1, by rw [loadN_ptr, h2]; rfl⟩
theorem Rows.nil (H : AH) (sz : Nat) (a : Option Addr) : Rows H sz (.slice a 0 0) [] := ⟨by simp, .inl ⟨rfl, a, rfl⟩⟩
/-- A part of a slice: the value alone. -/
def sliceV (sz : Nat) (v : Value) (i j : Nat) : Value :=
  match v with
  | .slice none _ c => .slice none (j - i) (c - i)
  | .slice (some a) _ c => .slice (some (if c = i then a else a.add (i * sz))) (j - i) (c - i)
  | v => v
theorem Rows.slice' (h : Rows H sz v rows) {lo hi : Option Value} {i j : Nat} (hlo : lo = some (vi i) ∨ lo = none ∧ i = 0) (hhi : hi = some (vi j) ∨ hi = none ∧ j = rows.length) (hij : i ≤ j) (hj : j ≤ rows.length) :
    slSlc sz v lo hi none H = some (sliceV sz v i j) ∧ Rows H sz (sliceV sz v i j) ((rows.take j).drop i) := by
  have hb : ∀ (n c : Nat), rows.length = n → n ≤ c → (bnd hi n c) = some j ∧ bnd lo 0 j = some i := by
    intro n c hn hc
    constructor
    · rcases hhi with rfl | ⟨rfl, rfl⟩
      · simp only [bnd]; rw [if_pos (by omega)]; simp
      · simp only [bnd, hn]
    · rcases hlo with rfl | ⟨rfl, rfl⟩
      · simp only [bnd]; rw [if_pos (by omega)]; simp
      · simp only [bnd]
  have hlen : ∀ r ∈ (rows.take j).drop i, r.length = sz := fun r hr => h.len r (List.mem_of_mem_take (List.mem_of_mem_drop hr))
  rcases h.at_ with ⟨rfl, c, rfl⟩ | ⟨b, o, c, rfl, h2, h3, h4⟩
  · simp at hj; subst hj
    have : i = 0 := by omega
    subst this
    obtain ⟨e1, e2⟩ := hb 0 0 rfl (by omega)
    have e0 : bnd (none : Option Value) 0 0 = some 0 := rfl
    cases c with
    | none => exact ⟨by simp [slSlc, e0, e1, e2, sliceV], by simpa [sliceV] using Rows.nil _ _ none⟩
    | some a => exact ⟨by simp [slSlc, e0, e1, e2, sliceV], by simpa [sliceV] using Rows.nil _ _ (some a)⟩
  · obtain ⟨e1, e2⟩ := hb rows.length c rfl h2
    have hl : ((rows.take j).drop i).length = j - i := by simp; omega
    simp only [sliceV]
    refine ⟨?_, hlen, .inr ?_⟩
    · have e0 : bnd (none : Option Value) c c = some c := rfl
      simp only [slSlc, Option.isSome_none, Bool.false_and, h3, Bool.or_true, Bool.not_true, Bool.or_self, Bool.false_eq_true, if_false, e0, Option.bind_some, e1, e2]
      rw [if_pos (by omega)]
    · have hrow : ∀ o', o' = o + i * sz → (H.get b).row o' ((j - i) * sz) = some ((rows.take j).drop i).flatten := by
        rintro o' rfl
        have hle : i * sz + (j - i) * sz ≤ rows.length * sz := by rw [← Nat.add_mul]; exact Nat.mul_le_mul_right _ (by omega)
        rw [row_part h4 hle, flatten_drop rows h.len]
        congr 1
        rw [flatten_take (rows.drop i) (fun r hr => h.len r (List.mem_of_mem_drop hr))]
        congr 1
        rw [List.drop_take]
      rw [hl]
      by_cases hci : c = i
      · have hij0 : j - i = 0 := by omega
        refine ⟨b, o, c - i, by rw [if_pos hci], by omega, h3, ?_⟩
        have : ((rows.take j).drop i) = [] := List.eq_nil_of_length_eq_zero (by rw [hl, hij0])
        rw [this, hij0]
        have := row_part h4 (j := 0) (m := 0) (by omega)
        simpa using this
      · refine ⟨b, o + i * sz, c - i, ?_, by omega, h3, hrow _ rfl⟩
        rw [if_neg hci]
        simp only [Addr.add]
        by_cases hz : i * sz = 0
        · simp [hz]
        · simp [hz]
theorem Rows.slice (h : Rows H sz v rows) {lo hi : Option Value} {i j : Nat} (hlo : lo = some (vi i) ∨ lo = none ∧ i = 0) (hhi : hi = some (vi j) ∨ hi = none ∧ j = rows.length) (hij : i ≤ j) (hj : j ≤ rows.length) :
    ∃ v', slSlc sz v lo hi none H = some v' ∧ Rows H sz v' ((rows.take j).drop i) := ⟨_, (h.slice' hlo hhi hij hj).1, (h.slice' hlo hhi hij hj).2⟩
theorem Rows.made {H : AH} {b sz n : Nat} {f : Option Nat} (hg : H.get b = .cells rows.flatten f) (hf : f = none ∨ f = some sz) (hn : rows.length = n) (hl : ∀ r ∈ rows, r.length = sz) : Rows H sz (slc b 0 n n) rows := by
  subst hn
  refine ⟨hl, .inr ⟨b, 0, rows.length, rfl, Nat.le_refl _, ?_, ?_⟩⟩
  · rw [hg]; rcases hf with rfl | rfl <;> simp [fits]
  · rw [hg]; simp only [row_cells]
    rw [if_pos (by rw [flatten_length rows hl]; omega)]
    simp only [List.drop_zero, ← flatten_length rows hl, List.take_length]
end

/-! ### slices of single cells -/
abbrev Vals (H : AH) (v : Value) (l : List Value) : Prop := Rows H 1 v (l.map fun x => [x])
theorem flatten_single (l : List Value) : (l.map fun x => [x]).flatten = l := by
  induction l with
  | nil => rfl
  | cons x l ih => simp [ih]
section
variable {H : AH} {v : Value} {l : List Value}
theorem Vals.lenSlc (h : Vals H v l) : AM.lenSlc v = some (vi l.length) := by simpa using Rows.lenSlc h
theorem Vals.mono {H' : AH} (h : Vals H v l) (e : Ext H H') : Vals H' v l := Rows.mono h e
theorem Vals.elem (h : Vals H v l) {i : Nat} (hi : i < l.length) : ∃ b o, ixSlc 1 v (vi i) = some (ptr b o) ∧ (H.get b).cell o = some l[i] := by
  obtain ⟨b, o, h1, h2⟩ := Rows.ix h (i := i) (by simpa using hi)
  refine ⟨b, o, h1, ?_⟩
  have := row_at h2 (j := 0) (by omega)
  simpa using this
theorem Vals.made {H : AH} {b n : Nat} {f : Option Nat} (hg : H.get b = .cells l f) (hf : f = none ∨ f = some 1) (hn : l.length = n) : Vals H (slc b 0 n n) l :=
  Rows.made (by rw [flatten_single]; exact hg) hf (by simpa using hn) (by simp)
theorem Vals.slice (h : Vals H v l) {lo hi : Option Value} {i j : Nat} (hlo : lo = some (vi i) ∨ lo = none ∧ i = 0) (hhi : hi = some (vi j) ∨ hi = none ∧ j = l.length) (hij : i ≤ j) (hj : j ≤ l.length) :
    ∃ v', slSlc 1 v lo hi none H = some v' ∧ Vals H v' ((l.take j).drop i) := by
  have := Rows.slice h (lo := lo) (hi := hi) (i := i) (j := j) hlo (by simpa using hhi) hij (by simpa using hj)
  simpa [Vals, List.map_drop, List.map_take] using this
end

theorem Vals.slice' {H : AH} {v : Value} {l : List Value} (h : Vals H v l) {lo hi : Option Value} {i j : Nat} (hlo : lo = some (vi i) ∨ lo = none ∧ i = 0) (hhi : hi = some (vi j) ∨ hi = none ∧ j = l.length) (hij : i ≤ j) (hj : j ≤ l.length) :
    slSlc 1 v lo hi none H = some (sliceV 1 v i j) ∧ Vals H (sliceV 1 v i j) ((l.take j).drop i) := by
  have := Rows.slice' h (lo := lo) (hi := hi) (i := i) (j := j) hlo (by simpa using hhi) hij (by simpa using hj)
  simpa [Vals, List.map_drop, List.map_take] using this

/-! ### slices that grow -/
def blk : Value → Option Nat
  | .slice (some a) _ _ => some a.block
  | _ => none
/-- A slice that this call has made: the head of a block that none beside it is known to look into. -/
def Own (H0 H : AH) (sz : Nat) (v : Value) (rows : List (List Value)) : Prop :=
  (∀ r ∈ rows, r.length = sz ∧ r.all plain1 = true) ∧ ((rows = [] ∧ v = nilS) ∨ ∃ b f c cs, H0.next ≤ b ∧ v = slc b 0 rows.length c ∧ H.get b = .cells cs f ∧ rows.length ≤ c ∧ cs.length = c * sz ∧ cs.take (rows.length * sz) = rows.flatten ∧
    (f = none ∨ f = some sz ∧ c = rows.length))
section
variable {H0 H H' : AH} {sz : Nat} {v : Value} {rows : List (List Value)}
theorem Own.nil (H0 H : AH) (sz : Nat) : Own H0 H sz nilS [] := ⟨by simp, .inl ⟨rfl, rfl⟩⟩
/-- A slice made whole. -/
theorem Own.made {b n : Nat} {f : Option Nat} (hb : H0.next ≤ b) (hg : H.get b = .cells rows.flatten f) (hf : f = none ∨ f = some sz) (hn : rows.length = n) (hr : ∀ r ∈ rows, r.length = sz ∧ r.all plain1 = true) : Own H0 H sz (slc b 0 n n) rows := by
  subst hn
  have hfl := flatten_length rows fun r h => (hr r h).1
  exact ⟨hr, .inr ⟨b, f, rows.length, rows.flatten, hb, rfl, hg, Nat.le_refl _, hfl, by rw [← hfl, List.take_length], hf.imp id fun h => ⟨h, rfl⟩⟩⟩
/-- An empty slice with room. -/
theorem Own.room {b c : Nat} {cs : List Value} (hb : H0.next ≤ b) (hg : H.get b = .cells cs none) (hc : cs.length = c * sz) : Own H0 H sz (slc b 0 0 c) [] :=
  ⟨by simp, .inr ⟨b, none, c, cs, hb, rfl, hg, Nat.zero_le _, hc, by simp, .inl rfl⟩⟩
theorem Own.toRows (h : Own H0 H sz v rows) : Rows H sz v rows := by
  rcases h.2 with ⟨rfl, rfl⟩ | ⟨b, f, c, cs, h1, rfl, h3, h4, h5, h6, h7⟩
  · exact Rows.nil _ _ none
  · refine ⟨fun r hr => (h.1 r hr).1, .inr ⟨b, 0, c, rfl, h4, ?_, ?_⟩⟩
    · rw [h3]; rcases h7 with rfl | ⟨rfl, _⟩ <;> simp [fits]
    · have : rows.length * sz ≤ c * sz := Nat.mul_le_mul_right _ h4
      rw [h3, row_cells, if_pos (by omega), List.drop_zero, h6]
theorem Own.keep (h : Own H0 H sz v rows) (e : ∀ b, blk v = some b → b < H.next → H'.get b = H.get b) : Own H0 H' sz v rows := by
  refine ⟨h.1, ?_⟩
  rcases h.2 with h | ⟨b, f, c, cs, h1, rfl, h3, h4⟩
  · exact .inl h
  · exact .inr ⟨b, f, c, cs, h1, rfl, by rw [e b rfl (AH.lt_cells h3)]; exact h3, h4⟩
theorem Own.mono (h : Own H0 H sz v rows) (e : Ext H H') : Own H0 H' sz v rows := h.keep fun b _ hb => e.get hb
theorem Own.blk_ge (h : Own H0 H sz v rows) {b : Nat} (hb : blk v = some b) : H0.next ≤ b := by
  rcases h.2 with ⟨_, rfl⟩ | ⟨b', f, c, cs, h1, rfl, _⟩
  · simp [blk] at hb
  · simp [blk] at hb; omega
theorem Own.blk_lt (h : Own H0 H sz v rows) {b : Nat} (hb : blk v = some b) : b < H.next := by
  rcases h.2 with ⟨_, rfl⟩ | ⟨b', f, c, cs, h1, rfl, h3, _⟩
  · simp [blk] at hb
  · simp [blk] at hb; subst hb; exact AH.lt_cells h3
theorem firstRow_rows (h : Rows H sz v rows) : srcRow sz rows.length v H = some rows.flatten := by
  rcases h.at_ with ⟨rfl, c, rfl⟩ | ⟨b, o, c, rfl, _, _, h4⟩
  · cases c <;> simp [srcRow, firstRow]
  · unfold srcRow
    split
    · rename_i h5 _
      have : rows = [] := List.eq_nil_of_length_eq_zero h5
      simp [this]
    · simp [firstRow, h4]
theorem lenO_rows (h : Rows H sz v rows) : lenO v = some rows.length := by
  rcases h.at_ with ⟨rfl, c, rfl⟩ | ⟨b, o, c, rfl, _⟩ <;> rfl
theorem all_flatten {p : Value → Bool} {rows : List (List Value)} (h : ∀ r ∈ rows, r.all p = true) : rows.flatten.all p = true := by
  simp only [List.all_eq_true, List.mem_flatten] at h ⊢
  rintro x ⟨r, hr, hx⟩
  exact h r hr x hx
/-- What an append does to a slice that this call has made: the new slice; what else of the heap stays. -/
def Grew (H0 H H' : AH) (v v' : Value) : Prop :=
  Ext H0 H' ∧ H.next ≤ H'.next ∧ (∀ b, b < H.next → blk v ≠ some b → H'.get b = H.get b) ∧ (∀ b, blk v' = some b → blk v = some b ∨ H.next ≤ b)
theorem Own.app (h : Own H0 H sz v rows) (h0 : Ext H0 H) {bytes : Nat} {x : Value} {new : List (List Value)} (hx : Rows H sz x new) (hp : ∀ r ∈ new, r.all plain1 = true)
    (hs : sz ≠ 0) (hb : bytes ≠ 0) (h1 : (rows.length + new.length) * bytes ≤ 2 ^ 46) (h2 : rows.length + new.length < 2 ^ 62) :
    ∃ v' H', app sz bytes v x H = some (v', H') ∧ Own H0 H' sz v' (rows ++ new) ∧ Grew H0 H H' v v' := by
  have hrows := h.toRows
  have hall : ∀ r ∈ rows ++ new, r.length = sz ∧ r.all plain1 = true := by
    intro r hr
    rcases List.mem_append.1 hr with hr | hr
    · exact h.1 r hr
    · exact ⟨hx.len r hr, hp r hr⟩
  have hpn : new.flatten.all plain1 = true := all_flatten hp
  have hpo : rows.flatten.all plain1 = true := all_flatten fun r hr => (h.1 r hr).2
  have hfn := flatten_length new hx.len
  have hfo := flatten_length rows fun r hr => (h.1 r hr).1
  have hnew : srcRow sz new.length x H = some new.flatten := firstRow_rows hx
  rcases h.2 with ⟨rfl, rfl⟩ | ⟨b, f, c, cs, g1, rfl, g3, g4, g5, g6, g7⟩
  · by_cases hn : new = []
    · subst hn
      refine ⟨nilS, H, ?_, ⟨by simp, .inl ⟨rfl, rfl⟩⟩, h0, Nat.le_refl _, fun _ _ _ => rfl, fun b hb => .inl hb⟩
      have e := lenO_rows hx
      simp at e hnew
      simp [AM.app, e, hnew]
    · have hpos : 0 < new.length := List.length_pos_iff.2 hn
      refine ⟨slc H.next 0 new.length new.length, H.new (.cells new.flatten (some sz)), ?_, Own.made h0.1 (AH.get_new_self _ _) (.inr rfl) (by simp) (by simpa using hall), h0.new _, Nat.le_succ _, fun b hb _ => AH.get_new_lt _ _ hb, fun b hb => .inr (by simp [blk] at hb; omega)⟩
      simp only [AM.app, lenO_rows hx, hnew, Option.bind_some, hpn, Bool.not_true, Bool.false_eq_true, if_false]
      simp at h1 h2
      rw [if_neg (by omega), if_neg (by simp; omega)]
      simp [firstRow]
  · have hlt := AH.lt_cells g3
    have hmul : (rows.length + new.length) * sz = rows.length * sz + new.length * sz := Nat.add_mul _ _ _
    by_cases hcap : rows.length + new.length ≤ c
    · -- within what is there
      have hle : (rows.length + new.length) * sz ≤ c * sz := Nat.mul_le_mul_right _ hcap
      refine ⟨slc b 0 (rows.length + new.length) c, H.put b (.cells (splice cs (rows.length * sz) new.flatten) f), ?_, ⟨hall, .inr ⟨b, f, c, _, g1, by simp, AH.get_put_self _ _ hlt, by simpa using hcap, ?_, ?_, ?_⟩⟩, h0.put g1 _, Nat.le_refl _, ?_, fun b' hb' => .inl (by simpa [blk] using hb')⟩
      · simp only [AM.app, lenO_rows hx, hnew, Option.bind_some, hpn, Bool.not_true, Bool.false_eq_true, if_false]
        rw [if_pos hcap]
        simp only [Option.isSome_none, Bool.false_eq_true, if_false, g3]
        rw [if_pos (by omega), Nat.zero_add]
      · rw [splice_length (by omega)]; exact g5
      · simp only [List.length_append, List.flatten_append, hmul, splice]
        rw [List.take_append_of_le_length (by rw [List.length_append, List.length_take, hfn]; omega), List.take_of_length_le (by rw [List.length_append, List.length_take, hfn]; omega), g6]
      · rcases g7 with rfl | ⟨rfl, rfl⟩
        · exact .inl rfl
        · have : new.length = 0 := by omega
          exact .inr ⟨rfl, by rw [List.length_append]; omega⟩
      · intro b' _ hb'
        exact AH.get_put_ne _ _ (by intro e; subst e; simp [blk] at hb')
    · have hold : firstRow sz rows.length (slc b 0 rows.length c) H = some rows.flatten := by
        have : rows.length * sz ≤ c * sz := Nat.mul_le_mul_right _ g4
        simp only [firstRow, Option.isSome_none, Bool.false_eq_true, if_false, g3, row_cells]
        rw [if_pos (by omega), List.drop_zero, g6]
      have hfin : ∀ H1 : AH, H1.next = H.next → app sz bytes (slc b 0 rows.length c) x H = some (mkSlc (rows.length + new.length) (rows.length + new.length) H.next, H1.new (.cells (rows.flatten ++ new.flatten) (some sz))) →
          Ext H0 H1 → (∀ b', b' < H.next → b ≠ b' → H1.get b' = H.get b') →
          ∃ v' H', app sz bytes (slc b 0 rows.length c) x H = some (v', H') ∧ Own H0 H' sz v' (rows ++ new) ∧ Grew H0 H H' (slc b 0 rows.length c) v' := by
        intro H1 e1 e2 e3 e4
        refine ⟨_, _, e2, Own.made h0.1 (by rw [← e1, AH.get_new_self, List.flatten_append]) (.inr rfl) (by simp) hall, e3.new _, by rw [AH.next_new, e1]; exact Nat.le_succ _, ?_, fun b' hb' => .inr (by simp [blk] at hb'; omega)⟩
        intro b' h1 h2
        rw [AH.get_new_lt _ _ (by rw [e1]; exact h1)]
        exact e4 b' h1 (by intro e; subst e; simp [blk] at h2)
      have pre : app sz bytes (slc b 0 rows.length c) x H = (match f with
          | none => some (mkSlc (rows.length + new.length) (rows.length + new.length) H.next, H.new (.cells (rows.flatten ++ new.flatten) (some sz)))
          | some e => if e = sz then some (mkSlc (rows.length + new.length) (rows.length + new.length) H.next, (H.put b .dead).new (.cells (rows.flatten ++ new.flatten) (some sz))) else none) := by
        simp only [AM.app, lenO_rows hx, hnew, Option.bind_some, hpn, Bool.not_true, Bool.false_eq_true, if_false]
        rw [if_neg hcap, if_neg (by omega), hold]
        simp only [Option.bind_some, hpo, Bool.not_true, Bool.false_eq_true, if_false, g3]
        cases f <;> rfl
      rcases g7 with rfl | ⟨rfl, _⟩
      · exact hfin H rfl pre h0 fun _ _ _ => rfl
      · refine hfin (H.put b .dead) rfl (by rw [pre]; simp) (h0.put g1 _) fun b' h1 h2 => AH.get_put_ne _ _ (Ne.symm h2)
end
end Go.AM
