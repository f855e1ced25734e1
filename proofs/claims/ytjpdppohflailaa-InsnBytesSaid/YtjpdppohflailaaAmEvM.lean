/- THE ABSTRACT MACHINE: operations that change memory. -/
import Derived.Test.YtjpdppohflailaaAmEvA
set_option linter.all false
namespace Go.AM
open Go.RowKit (Below)

theorem splice_length {c vs : List Value} {k : Nat} (h : k + vs.length ≤ c.length) : (splice c k vs).length = c.length := by
  simp [splice]; omega
theorem splice_get {c vs : List Value} {k : Nat} (h : k + vs.length ≤ c.length) (i : Nat) : (splice c k vs)[i]? = if i < k then c[i]? else if i < k + vs.length then vs[i - k]? else c[i]? := by
  unfold splice
  by_cases h1 : i < k
  · rw [if_pos h1, List.append_assoc, List.getElem?_append_left (by simp; omega), List.getElem?_take, if_pos h1]
  · rw [if_neg h1]
    have hl : (c.take k).length = k := by simp; omega
    by_cases h2 : i < k + vs.length
    · rw [if_pos h2, List.getElem?_append_left (by simp; omega), List.getElem?_append_right (by omega), hl]
    · rw [if_neg h2, List.getElem?_append_right (by simp; omega), List.getElem?_drop]
      congr 1
      simp; omega
theorem splice_cons {c vs : List Value} {v : Value} {k : Nat} (h : k + vs.length + 1 ≤ c.length) : splice (c.set k v) (k + 1) vs = splice c k (v :: vs) := by
  apply List.ext_getElem?
  intro i
  rw [splice_get (by simp; omega), splice_get (by simp; omega)]
  simp only [List.length_cons]
  by_cases h1 : i < k
  · rw [if_pos (by omega), if_pos h1, List.getElem?_set, if_neg (by omega)]
  · by_cases h2 : i = k
    · subst h2
      rw [if_pos (by omega), if_neg h1, if_pos (by omega)]
      rw [List.getElem?_set, if_pos rfl, if_pos (by omega)]
      simp
    · by_cases h3 : i < k + 1 + vs.length
      · rw [if_neg (by omega), if_pos h3, if_neg h1, if_pos (by omega)]
        rw [show i - k = (i - (k + 1)) + 1 from by omega, List.getElem?_cons_succ]
      · rw [if_neg (by omega), if_neg h3, if_neg h1, if_neg (by omega), List.getElem?_set, if_neg (by omega)]
theorem splice_nil (c : List Value) (k : Nat) : splice c k [] = c := by simp [splice]

def World.setBlk (w : World) (b : Nat) (o : Obj) : World := { w with heap := w.heap.setIfInBounds b o }

section
variable {P : Program} {ρ : Inj} {T : Env} {a : Act} {v : Value} {w0 w : World} {H : AH}

theorem setCell_blk {C : Array Value} {e : Nat} {fr : Nat × Nat} {b : Nat} (h : w.heap[b]? = some (.cells C e fr)) (i : Nat) (x : Value) :
    w.setCell ⟨b, i, none⟩ x = World.setBlk w b (.cells (C.setIfInBounds i x) e fr) := by
  unfold World.setCell World.setBlk
  congr 1
  apply Array.ext_getElem?
  intro j
  rw [Array.getElem?_modify, Array.getElem?_setIfInBounds]
  have hb : b < w.heap.size := (Array.getElem?_eq_some_iff.1 h).1
  by_cases hj : b = j
  · subst hj
    rw [if_pos rfl, if_pos rfl, if_pos hb, h]; rfl
  · simp [hj]

theorem setBlk_get (b : Nat) (o : Obj) (h : b < w.heap.size) : (World.setBlk w b o).heap[b]? = some o := by
  simp [World.setBlk, h]
theorem setBlk_setBlk (b : Nat) (o o' : Obj) : World.setBlk (World.setBlk w b o) b o' = World.setBlk w b o' := by
  unfold World.setBlk
  congr 1
  apply Array.ext_getElem?
  intro j
  simp only [Array.getElem?_setIfInBounds, Array.size_setIfInBounds]
  split <;> simp_all
theorem setBlk_same {b : Nat} {o : Obj} (h : w.heap[b]? = some o) : World.setBlk w b o = w := by
  unfold World.setBlk
  have : w.heap.setIfInBounds b o = w.heap := by
    apply Array.ext_getElem?
    intro j
    rw [Array.getElem?_setIfInBounds]
    have hb : b < w.heap.size := (Array.getElem?_eq_some_iff.1 h).1
    split
    · rename_i e; subst e; simp [h]
    · rfl
  rw [this]

theorem run_storeCells' {b o e : Nat} {fr : Nat × Nat} : ∀ (vs : List Value) (i : Nat) (C : Array Value) (w : World), w.heap[b]? = some (.cells C e fr) → o + i + vs.length ≤ C.size → (∀ j, j < C.size → ¬ (fr.1 ≤ j ∧ j < fr.2)) →
    (∀ x ∈ vs, x.oneCell' = true) → (storeCells ⟨b, o, none⟩ vs i).run P w = .ok () (World.setBlk w b (.cells ⟨splice C.toList (o + i) vs⟩ e fr))
  | [], i, C, w, hb, _, _, _ => by
    rw [splice_nil]
    show Result.ok () w = _
    congr 1
    exact (setBlk_same hb).symm
  | x :: vs, i, C, w, hb, hl, hf, h1 => by
    simp only [List.length_cons] at hl
    have hadd : (⟨b, o, none⟩ : Addr).add i = ⟨b, o + i, none⟩ := by
      unfold Addr.add; split
      · simp [*]
      · rfl
    have hlt : o + i < C.size := by omega
    have hc : w.cell? ⟨b, o + i, none⟩ = some C[o + i] := by rw [cell_row hb]; exact Array.getElem?_eq_getElem hlt
    have hfz : w.frozen? ⟨b, o + i, none⟩ = false := by
      obtain ⟨f1, f2⟩ := fr
      simp only [World.frozen?, hb]
      have := hf (o + i) hlt
      simp only [not_and] at this
      simp; intro h; exact Nat.le_of_not_lt (this h)
    have hst : (store ((⟨b, o, none⟩ : Addr).add i) x).run P w = .ok () (World.setBlk w b (.cells (C.setIfInBounds (o + i) x) e fr)) := by
      rw [hadd, run_store P w _ x .plain (h1 x (by simp)), hc]
      simp only [hfz, Bool.false_eq_true, if_false]
      rw [setCell_blk hb]
    have hblt : b < w.heap.size := (Array.getElem?_eq_some_iff.1 hb).1
    have ih := run_storeCells' (b := b) (o := o) (e := e) (fr := fr) vs (i + 1) (C.setIfInBounds (o + i) x) (World.setBlk w b (.cells (C.setIfInBounds (o + i) x) e fr)) (setBlk_get _ _ hblt) (by simp; omega)
      (fun j hj => hf j (by simpa using hj)) (fun y hy => h1 y (by simp [hy]))
    simp only [storeCells, Sem.run_bind, hst, Result.andThen_ok, ih, setBlk_setBlk]
    congr 4
    have e1 : (C.setIfInBounds (o + i) x).toList = C.toList.set (o + i) x := by simp
    rw [e1, ← Nat.add_assoc, splice_cons (by simpa using (by omega : o + i + vs.length + 1 ≤ C.size))]

/-- A run of cells is written, on both sides. -/
theorem R.stored (hR : R P ρ w0 H w) {A A' : Addr} (r : ARel ρ A A') (hs : A.spot = none) {c vs vs' : List Value} {fx : Option Nat} (hg : H.get A.block = .cells c fx) (k : Nat) (hl : A.off + k + vs.length ≤ c.length) (hv : LRel ρ vs vs') (h1 : vs.all plain1 = true) :
    ∃ w', R P ρ w0 (H.put A.block (.cells (splice c (A.off + k) vs) fx)) w' ∧ (storeCells (A'.add k) vs').run P w = .ok () w' := by
  rcases r with ⟨hb, rfl⟩ | ⟨hb, _, l, hlc, rfl⟩
  · have := hR.ro _ hb
    rw [hg] at this; exact this.elim
  · obtain ⟨_, _, hbl, hbw, ho⟩ := hR.own _ _ hlc
    rw [hg] at ho
    obtain ⟨hfx, C, e, fr, hC, hsz, hle, hfr, hcell⟩ := ho
    have hadd : (⟨l.block, l.shift + A.off, none⟩ : Addr).add k = ⟨l.block, l.shift + A.off + k, none⟩ := by
      unfold Addr.add; split
      · simp [*]
      · rfl
    have hone : ∀ x ∈ vs', x.oneCell' = true := by
      intro x hx
      obtain ⟨i, hi⟩ := List.getElem?_of_mem hx
      have hi2 : i < vs.length := by
        rw [hv.1]
        rcases Nat.lt_or_ge i vs'.length with g | g
        · exact g
        · rw [List.getElem?_eq_none g] at hi; simp at hi
      exact (hv.2 i _ x (List.getElem?_eq_getElem hi2) hi).plain1 (List.all_eq_true.1 h1 _ (List.getElem_mem hi2))
    have hrun := run_storeCells' (P := P) (b := l.block) (o := l.shift + A.off + k) (e := e) (fr := fr) vs' 0 C w hC (by rw [← hv.1]; omega) (fun j hj => hfr j (by omega)) hone
    rw [Nat.add_zero] at hrun
    refine ⟨_, hR.wrote hlc (by rw [hg]; simp) (.cells (splice c (A.off + k) vs) fx) (.cells ⟨splice C.toList (l.shift + A.off + k) vs'⟩ e fr) ?_, by rw [hadd]; exact hrun⟩
    have hlv := hv.1
    refine ⟨hfx, _, e, fr, rfl, ?_, ?_, hfr, ?_⟩
    · show (splice C.toList (l.shift + A.off + k) vs').length = _
      rw [splice_length (by simp; omega)]; simpa using hsz
    · rw [splice_length (by omega)]; exact hle
    · intro i x hx
      rw [splice_get (by omega)] at hx
      have harr : ∀ (l : List Value) (j : Nat), (⟨l⟩ : Array Value)[j]? = l[j]? := fun l j => by rw [← Array.getElem?_toList]
      rw [harr, splice_get (by simp; omega)]
      by_cases g1 : i < A.off + k
      · rw [if_pos g1] at hx
        rw [if_pos (by omega)]
        obtain ⟨y, hy, hr⟩ := hcell i x hx
        exact ⟨y, by simpa using hy, hr⟩
      · rw [if_neg g1] at hx
        rw [if_neg (by omega)]
        by_cases g2 : i < A.off + k + vs.length
        · rw [if_pos g2] at hx
          rw [if_pos (by omega)]
          obtain ⟨y, hy, hr⟩ := hv.get hx
          exact ⟨y, by rw [← hy]; congr 1; omega, hr⟩
        · rw [if_neg g2] at hx
          rw [if_neg (by omega)]
          obtain ⟨y, hy, hr⟩ := hcell i x hx
          exact ⟨y, by simpa using hy, hr⟩

theorem splice_one {c : List Value} {k : Nat} {x : Value} (h : k < c.length) : splice c k [x] = c.set k x := by
  apply List.ext_getElem?
  intro i
  rw [splice_get (by simp; omega), List.getElem?_set]
  simp only [List.length_singleton]
  by_cases h1 : i < k
  · rw [if_pos h1, if_neg (by omega)]
  · by_cases h2 : i = k
    · subst h2; rw [if_neg h1, if_pos (by omega), if_pos rfl, if_pos h]; simp
    · rw [if_neg h1, if_neg (by omega), if_neg (by omega)]

theorem store1_sound (hR : R P ρ w0 H w) {t : Nat} {p p' x x' : Value} {H' : AH} (ht : sizeO P t = some 1) (h : store1 p x H = some H') (hp : VRel ρ p p') (hx : VRel ρ x x') : ∃ w', R P ρ w0 H' w' ∧ (Instr.storeAt t p' x').run P w = .ok () w' := by
  unfold store1 at h
  split at h
  · rename_i A
    split at h
    · simp at h
    · rename_i hs
      simp only [Bool.or_eq_true, Bool.not_eq_true', not_or, Bool.not_eq_true, Bool.not_eq_false] at hs
      obtain ⟨hs, hp1⟩ := hs
      have hs : A.spot = none := by simpa using hs
      split at h
      · rename_i c fx hg
        rw [Option.ite_none_right_eq_some] at h
        obtain ⟨hlt, h⟩ := h
        simp only [Option.some.injEq] at h; subst h
        have hcx : x'.cells = #[x'] := by
          have := hx.plain1 hp1
          cases x' <;> first | rfl | simp [Value.oneCell'] at this
        cases hp with
        | ptr _ A' r =>
          obtain ⟨w', h1, h2⟩ := hR.stored r hs hg 0 (vs := [x]) (vs' := [x']) (by simp; omega) (LRel.cons hx LRel.nil) (by simp [hp1])
          rw [Nat.add_zero, splice_one hlt] at h1
          rw [add_zero] at h2
          refine ⟨w', h1, ?_⟩
          simp [Instr.storeAt, Instr.sureAddr, storeVar, hcx, run_sizeOf' ht, h2]
      · simp at h
  · simp at h

theorem storeN_sound (hR : R P ρ w0 H w) {t n : Nat} {p p' x x' : Value} {H' : AH} (ht : sizeO P t = some n) (h : storeN n p x H = some H') (hp : VRel ρ p p') (hx : VRel ρ x x') : ∃ w', R P ρ w0 H' w' ∧ (Instr.storeAt t p' x').run P w = .ok () w' := by
  unfold storeN at h
  split at h
  · rename_i A cs
    split at h
    · simp at h
    · rename_i hs
      have hs : A.spot = none := by simpa using hs
      split at h
      · rename_i c fx hg
        rw [Option.ite_none_right_eq_some] at h
        obtain ⟨⟨hn, hlt, hpl⟩, h⟩ := h
        simp only [Option.some.injEq] at h; subst h
        obtain ⟨ds, rfl, hr⟩ := hx.agg_inv
        have hdn : ds.size = n := by have := hr.1; simp at this; omega
        cases hp with
        | ptr _ A' r =>
          obtain ⟨w', h1, h2⟩ := hR.stored r hs hg 0 (vs := cs.toList) (vs' := ds.toList) (by simp; omega) hr hpl
          rw [Nat.add_zero] at h1
          rw [add_zero] at h2
          refine ⟨w', h1, ?_⟩
          simp [Instr.storeAt, Instr.sureAddr, storeVar, Value.cells, run_sizeOf' ht, hdn, h2]
      · simp at h
  · simp at h
end
end Go.AM
