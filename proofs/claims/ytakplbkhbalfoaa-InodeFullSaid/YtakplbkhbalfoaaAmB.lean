/- THE ABSTRACT MACHINE: texts XAmEvM, XAmEvN, XAmApp, XAmEvM2, XAmCode, XAmCongr, XAmDraw, XAmDraw2, XAmDraw3, XAmDraw4, XAmSound, XAmCall, XAmTop, XAmExt. -/
import Derived.Test.YtakplbkhbalfoaaAmA
import Derived.ChangeSame
import Derived.Carry
set_option linter.all false
section
/- THE ABSTRACT MACHINE: operations that change memory. -/
namespace Go.AM
open Go.RowKit (Below)

theorem splice_length {c vs : List Value} {k : Nat} (h : k + vs.length ≤ c.length) : (splice c k vs).length = c.length := by
  simp [splice]; omega
theorem splice_get {c vs : List Value} {k : Nat} (h : k + vs.length ≤ c.length) (i : Nat) : (splice c k vs)[i]? = if i < k then c[i]? else if i < k + vs.length then vs[i - k]? else c[i]? := by
  unfold splice
  by_cases h1 : i < k
  · rw [if_pos h1, List.append_assoc, List.getElem?_append_left (by simp; omega), List.getElem?_take, if_pos h1]
  · rw [if_neg h1]
    have hl : (c.take k).length = k := by simp; omega
    by_cases h2 : i < k + vs.length
    · rw [if_pos h2, List.getElem?_append_left (by simp; omega), List.getElem?_append_right (by omega), hl]
    · rw [if_neg h2, List.getElem?_append_right (by simp; omega), List.getElem?_drop]
      congr 1
      simp; omega
theorem splice_cons {c vs : List Value} {v : Value} {k : Nat} (h : k + vs.length + 1 ≤ c.length) : splice (c.set k v) (k + 1) vs = splice c k (v :: vs) := by
  apply List.ext_getElem?
  intro i
  rw [splice_get (by simp; omega), splice_get (by simp; omega)]
  simp only [List.length_cons]
  by_cases h1 : i < k
  · rw [if_pos (by omega), if_pos h1, List.getElem?_set, if_neg (by omega)]
  · by_cases h2 : i = k
    · subst h2
      rw [if_pos (by omega), if_neg h1, if_pos (by omega)]
      rw [List.getElem?_set, if_pos rfl, if_pos (by omega)]
      simp
    · by_cases h3 : i < k + 1 + vs.length
      · rw [if_neg (by omega), if_pos h3, if_neg h1, if_pos (by omega)]
        rw [show i - k = (i - (k + 1)) + 1 from by omega, List.getElem?_cons_succ]
      · rw [if_neg (by omega), if_neg h3, if_neg h1, if_neg (by omega), List.getElem?_set, if_neg (by omega)]
theorem splice_nil (c : List Value) (k : Nat) : splice c k [] = c := by simp [splice]

def World.setBlk (w : World) (b : Nat) (o : Obj) : World := { w with heap := w.heap.setIfInBounds b o }

section
variable {P : Program} {ρ : Inj} {T : Env} {a : Act} {v : Value} {w0 w : World} {H : AH}

theorem setCell_blk {C : Array Value} {e : Nat} {fr : Nat × Nat} {b : Nat} (h : w.heap[b]? = some (.cells C e fr)) (i : Nat) (x : Value) :
    w.setCell ⟨b, i, none⟩ x = World.setBlk w b (.cells (C.setIfInBounds i x) e fr) := by
  unfold World.setCell World.setBlk
  congr 1
  apply Array.ext_getElem?
  intro j
  rw [Array.getElem?_modify, Array.getElem?_setIfInBounds]
  have hb : b < w.heap.size := (Array.getElem?_eq_some_iff.1 h).1
  by_cases hj : b = j
  · subst hj
    rw [if_pos rfl, if_pos rfl, if_pos hb, h]; rfl
  · simp [hj]

theorem setBlk_get (b : Nat) (o : Obj) (h : b < w.heap.size) : (World.setBlk w b o).heap[b]? = some o := by
  simp [World.setBlk, h]
theorem setBlk_setBlk (b : Nat) (o o' : Obj) : World.setBlk (World.setBlk w b o) b o' = World.setBlk w b o' := by
  unfold World.setBlk
  congr 1
  apply Array.ext_getElem?
  intro j
  simp only [Array.getElem?_setIfInBounds, Array.size_setIfInBounds]
  split <;> simp_all
theorem setBlk_same {b : Nat} {o : Obj} (h : w.heap[b]? = some o) : World.setBlk w b o = w := by
  unfold World.setBlk
  have : w.heap.setIfInBounds b o = w.heap := by
    apply Array.ext_getElem?
    intro j
    rw [Array.getElem?_setIfInBounds]
    have hb : b < w.heap.size := (Array.getElem?_eq_some_iff.1 h).1
    split
    · rename_i e; subst e; simp [h]
    · rfl
  rw [this]

theorem run_storeCells' {b o e : Nat} {fr : Nat × Nat} : ∀ (vs : List Value) (i : Nat) (C : Array Value) (w : World), w.heap[b]? = some (.cells C e fr) → o + i + vs.length ≤ C.size → (∀ j, j < C.size → ¬ (fr.1 ≤ j ∧ j < fr.2)) →
    (∀ x ∈ vs, x.oneCell' = true) → (storeCells ⟨b, o, none⟩ vs i).run P w = .ok () (World.setBlk w b (.cells ⟨splice C.toList (o + i) vs⟩ e fr))
  | [], i, C, w, hb, _, _, _ => by
    rw [splice_nil]
    show Result.ok () w = _
    congr 1
    exact (setBlk_same hb).symm
  | x :: vs, i, C, w, hb, hl, hf, h1 => by
    simp only [List.length_cons] at hl
    have hadd : (⟨b, o, none⟩ : Addr).add i = ⟨b, o + i, none⟩ := by
      unfold Addr.add; split
      · simp [*]
      · rfl
    have hlt : o + i < C.size := by omega
    have hc : w.cell? ⟨b, o + i, none⟩ = some C[o + i] := by rw [cell_row hb]; exact Array.getElem?_eq_getElem hlt
    have hfz : w.frozen? ⟨b, o + i, none⟩ = false := by
      obtain ⟨f1, f2⟩ := fr
      simp only [World.frozen?, hb]
      have := hf (o + i) hlt
      simp only [not_and] at this
      simp; intro h; exact Nat.le_of_not_lt (this h)
    have hst : (store ((⟨b, o, none⟩ : Addr).add i) x).run P w = .ok () (World.setBlk w b (.cells (C.setIfInBounds (o + i) x) e fr)) := by
      rw [hadd, run_store P w _ x .plain (h1 x (by simp)), hc]
      simp only [hfz, Bool.false_eq_true, if_false]
      rw [setCell_blk hb]
    have hblt : b < w.heap.size := (Array.getElem?_eq_some_iff.1 hb).1
    have ih := run_storeCells' (b := b) (o := o) (e := e) (fr := fr) vs (i + 1) (C.setIfInBounds (o + i) x) (World.setBlk w b (.cells (C.setIfInBounds (o + i) x) e fr)) (setBlk_get _ _ hblt) (by simp; omega)
      (fun j hj => hf j (by simpa using hj)) (fun y hy => h1 y (by simp [hy]))
    simp only [storeCells, Sem.run_bind, hst, Result.andThen_ok, ih, setBlk_setBlk]
    congr 4
    have e1 : (C.setIfInBounds (o + i) x).toList = C.toList.set (o + i) x := by simp
    rw [e1, ← Nat.add_assoc, splice_cons (by simpa using (by omega : o + i + vs.length + 1 ≤ C.size))]

/-- A run of cells is written, on both sides. -/
theorem R.stored (hR : R P ρ w0 H w) {A A' : Addr} (r : ARel ρ A A') (hs : A.spot = none) {c vs vs' : List Value} {fx : Option Nat} (hg : H.get A.block = .cells c fx) (k : Nat) (hl : A.off + k + vs.length ≤ c.length) (hv : LRel ρ vs vs') (h1 : vs.all plain1 = true) :
    ∃ w', R P ρ w0 (H.put A.block (.cells (splice c (A.off + k) vs) fx)) w' ∧ (storeCells (A'.add k) vs').run P w = .ok () w' := by
  rcases r with ⟨hb, rfl⟩ | ⟨hb, _, l, hlc, rfl⟩
  · have := hR.ro _ hb
    rw [hg] at this; exact this.elim
  · obtain ⟨_, _, hbl, hbw, ho⟩ := hR.own _ _ hlc
    rw [hg] at ho
    obtain ⟨hfx, C, e, fr, hC, hsz, hle, hfr, hcell⟩ := ho
    have hadd : (⟨l.block, l.shift + A.off, none⟩ : Addr).add k = ⟨l.block, l.shift + A.off + k, none⟩ := by
      unfold Addr.add; split
      · simp [*]
      · rfl
    have hone : ∀ x ∈ vs', x.oneCell' = true := by
      intro x hx
      obtain ⟨i, hi⟩ := List.getElem?_of_mem hx
      have hi2 : i < vs.length := by
        rw [hv.1]
        rcases Nat.lt_or_ge i vs'.length with g | g
        · exact g
        · rw [List.getElem?_eq_none g] at hi; simp at hi
      exact (hv.2 i _ x (List.getElem?_eq_getElem hi2) hi).plain1 (List.all_eq_true.1 h1 _ (List.getElem_mem hi2))
    have hrun := run_storeCells' (P := P) (b := l.block) (o := l.shift + A.off + k) (e := e) (fr := fr) vs' 0 C w hC (by rw [← hv.1]; omega) (fun j hj => hfr j (by omega)) hone
    rw [Nat.add_zero] at hrun
    refine ⟨_, hR.wrote hlc (by rw [hg]; simp) (.cells (splice c (A.off + k) vs) fx) (.cells ⟨splice C.toList (l.shift + A.off + k) vs'⟩ e fr) ?_, by rw [hadd]; exact hrun⟩
    have hlv := hv.1
    refine ⟨hfx, _, e, fr, rfl, ?_, ?_, hfr, ?_⟩
    · show (splice C.toList (l.shift + A.off + k) vs').length = _
      rw [splice_length (by simp; omega)]; simpa using hsz
    · rw [splice_length (by omega)]; exact hle
    · intro i x hx
      rw [splice_get (by omega)] at hx
      have harr : ∀ (l : List Value) (j : Nat), (⟨l⟩ : Array Value)[j]? = l[j]? := fun l j => by rw [← Array.getElem?_toList]
      rw [harr, splice_get (by simp; omega)]
      by_cases g1 : i < A.off + k
      · rw [if_pos g1] at hx
        rw [if_pos (by omega)]
        obtain ⟨y, hy, hr⟩ := hcell i x hx
        exact ⟨y, by simpa using hy, hr⟩
      · rw [if_neg g1] at hx
        rw [if_neg (by omega)]
        by_cases g2 : i < A.off + k + vs.length
        · rw [if_pos g2] at hx
          rw [if_pos (by omega)]
          obtain ⟨y, hy, hr⟩ := hv.get hx
          exact ⟨y, by rw [← hy]; congr 1; omega, hr⟩
        · rw [if_neg g2] at hx
          rw [if_neg (by omega)]
          obtain ⟨y, hy, hr⟩ := hcell i x hx
          exact ⟨y, by simpa using hy, hr⟩

theorem splice_one {c : List Value} {k : Nat} {x : Value} (h : k < c.length) : splice c k [x] = c.set k x := by
  apply List.ext_getElem?
  intro i
  rw [splice_get (by simp; omega), List.getElem?_set]
  simp only [List.length_singleton]
  by_cases h1 : i < k
  · rw [if_pos h1, if_neg (by omega)]
  · by_cases h2 : i = k
    · subst h2; rw [if_neg h1, if_pos (by omega), if_pos rfl, if_pos h]; simp
    · rw [if_neg h1, if_neg (by omega), if_neg (by omega)]

theorem store1_sound (hR : R P ρ w0 H w) {t : Nat} {p p' x x' : Value} {H' : AH} (ht : sizeO P t = some 1) (h : store1 p x H = some H') (hp : VRel ρ p p') (hx : VRel ρ x x') : ∃ w', R P ρ w0 H' w' ∧ (Instr.storeAt t p' x').run P w = .ok () w' := by
  unfold store1 at h
  split at h
  · rename_i A
    split at h
    · simp at h
    · rename_i hs
      simp only [Bool.or_eq_true, Bool.not_eq_true', not_or, Bool.not_eq_true, Bool.not_eq_false] at hs
      obtain ⟨hs, hp1⟩ := hs
      have hs : A.spot = none := by simpa using hs
      split at h
      · rename_i c fx hg
        rw [Option.ite_none_right_eq_some] at h
        obtain ⟨hlt, h⟩ := h
        simp only [Option.some.injEq] at h; subst h
        have hcx : x'.cells = #[x'] := by
          have := hx.plain1 hp1
          cases x' <;> first | rfl | simp [Value.oneCell'] at this
        cases hp with
        | ptr _ A' r =>
          obtain ⟨w', h1, h2⟩ := hR.stored r hs hg 0 (vs := [x]) (vs' := [x']) (by simp; omega) (LRel.cons hx LRel.nil) (by simp [hp1])
          rw [Nat.add_zero, splice_one hlt] at h1
          rw [add_zero] at h2
          refine ⟨w', h1, ?_⟩
          simp [Instr.storeAt, Instr.sureAddr, storeVar, hcx, run_sizeOf' ht, h2]
      · simp at h
  · simp at h

theorem storeN_sound (hR : R P ρ w0 H w) {t n : Nat} {p p' x x' : Value} {H' : AH} (ht : sizeO P t = some n) (h : storeN n p x H = some H') (hp : VRel ρ p p') (hx : VRel ρ x x') : ∃ w', R P ρ w0 H' w' ∧ (Instr.storeAt t p' x').run P w = .ok () w' := by
  unfold storeN at h
  split at h
  · rename_i A cs
    split at h
    · simp at h
    · rename_i hs
      have hs : A.spot = none := by simpa using hs
      split at h
      · rename_i c fx hg
        rw [Option.ite_none_right_eq_some] at h
        obtain ⟨⟨hn, hlt, hpl⟩, h⟩ := h
        simp only [Option.some.injEq] at h; subst h
        obtain ⟨ds, rfl, hr⟩ := hx.agg_inv
        have hdn : ds.size = n := by have := hr.1; simp at this; omega
        cases hp with
        | ptr _ A' r =>
          obtain ⟨w', h1, h2⟩ := hR.stored r hs hg 0 (vs := cs.toList) (vs' := ds.toList) (by simp; omega) hr hpl
          rw [Nat.add_zero] at h1
          rw [add_zero] at h2
          refine ⟨w', h1, ?_⟩
          simp [Instr.storeAt, Instr.sureAddr, storeVar, Value.cells, run_sizeOf' ht, hdn, h2]
      · simp at h
  · simp at h
end
end Go.AM
end
section
/- THE ABSTRACT MACHINE: maps and iterators written. -/
namespace Go.AM
open Go.RowKit (Below)
section
variable {P : Program} {ρ : Inj} {T : Env} {a : Act} {v : Value} {w0 w : World} {H : AH}

theorem findE_at {kd : Nat} {k : Value} : ∀ (es : List MapEntry) (i : Nat) (u : Value), findE kd k es = some (some (i, u)) → ∃ e, es[i]? = some e ∧ e.val = u ∧ sameCell kd k e.key = some true
  | [], i, u, h => by simp [findE] at h
  | e :: es, i, u, h => by
    simp only [findE, Option.bind_eq_some_iff] at h
    obtain ⟨b, hb, h⟩ := h
    cases b with
    | true =>
      simp only [Option.some.injEq, Prod.mk.injEq] at h
      obtain ⟨rfl, rfl⟩ := h
      exact ⟨e, rfl, rfl, hb⟩
    | false =>
      simp only [Option.map_eq_some_iff] at h
      obtain ⟨q, hq, h⟩ := h
      cases q with
      | none => simp at h
      | some p =>
        obtain ⟨pp, hpp, h⟩ := h
        simp only [Option.some.injEq] at hpp; subst hpp
        simp only [Prod.mk.injEq] at h
        obtain ⟨rfl, rfl⟩ := h
        obtain ⟨e', h1, h2, h3⟩ := findE_at es p.1 p.2 hq
        exact ⟨e', by simpa using h1, h2, h3⟩

theorem bytes_eq {a b : ByteArray} (h : (a == b) = true) : a = b := by
  obtain ⟨x⟩ := a
  obtain ⟨y⟩ := b
  have e : x = y := by simpa using (show (x == y) = true from h)
  rw [e]
theorem bytes_refl (a : ByteArray) : (a == a) = true := by
  obtain ⟨x⟩ := a
  show (x == x) = true
  simp
theorem sameCell_true {kd : Nat} {x y : Value} (h : sameCell kd x y = some true) : y = x ∧ flat x = true ∧ Instr.sameBits 10000 x x = true := by
  unfold sameCell at h
  split at h
  · rw [Option.ite_none_right_eq_some] at h
    obtain ⟨rfl, h⟩ := h
    simp at h; subst h
    exact ⟨rfl, rfl, by simp [Instr.sameBits]⟩
  · rename_i s s'
    simp only [Option.some.injEq] at h
    have := bytes_eq h
    subst this
    exact ⟨rfl, rfl, by simp only [Instr.sameBits]; exact bytes_refl _⟩
  · simp at h; subst h
    exact ⟨rfl, rfl, by simp [Instr.sameBits]⟩
  · simp at h

theorem ERel.modify {es es' : List MapEntry} (h : ERel ρ es es') (i : Nat) (f f' : MapEntry → MapEntry) (hf : ∀ e e', e.born = e'.born ∧ VRel ρ e.key e'.key ∧ VRel ρ e.val e'.val → (f e).born = (f' e').born ∧ VRel ρ (f e).key (f' e').key ∧ VRel ρ (f e).val (f' e').val) :
    ERel ρ (es.modify i f) (es'.modify i f') := by
  refine ⟨by simp [h.len], fun j e e' he he' => ?_⟩
  rw [List.getElem?_modify] at he he'
  by_cases hij : i = j
  · subst hij
    simp only [if_true, Option.map_eq_map, Option.map_eq_some_iff] at he he'
    obtain ⟨x, hx, rfl⟩ := he
    obtain ⟨y, hy, rfl⟩ := he'
    exact hf _ _ (h.at_ _ _ _ hx hy)
  · simp only [hij, if_false] at he he'
    simp at he he'
    exact h.at_ _ _ _ he he'
theorem ERel.push {es es' : List MapEntry} (h : ERel ρ es es') {e e' : MapEntry} (he : e.born = e'.born ∧ VRel ρ e.key e'.key ∧ VRel ρ e.val e'.val) : ERel ρ (es ++ [e]) (es' ++ [e']) := by
  refine ⟨by simp [h.len], fun j x y hx hy => ?_⟩
  by_cases hj : j < es.length
  · rw [List.getElem?_append_left hj] at hx
    rw [List.getElem?_append_left (h.len ▸ hj)] at hy
    exact h.at_ _ _ _ hx hy
  · rw [List.getElem?_append_right (by omega)] at hx
    rw [List.getElem?_append_right (by have := h.len; omega), ← h.len] at hy
    cases hk : j - es.length with
    | zero => rw [hk] at hx hy; simp at hx hy; subst hx; subst hy; exact he
    | succ n => rw [hk] at hx; simp at hx
theorem ERel.eraseIdx {es es' : List MapEntry} (h : ERel ρ es es') (i : Nat) : ERel ρ (es.eraseIdx i) (es'.eraseIdx i) := by
  refine ⟨by rw [List.length_eraseIdx, List.length_eraseIdx, h.len], fun j x y hx hy => ?_⟩
  rw [List.getElem?_eraseIdx] at hx hy
  split at hx
  · rename_i hj; rw [if_pos hj] at hy; exact h.at_ _ _ _ hx hy
  · rename_i hj; rw [if_neg hj] at hy; exact h.at_ _ _ _ hx hy

/-- What is known where a map is written: the machine's block. -/
theorem R.mapAt (hR : R P ρ w0 H w) {r : Nat} {m' : Value} {es : List MapEntry} {cl : Nat} (hm : VRel ρ (.map (some r)) m') (hg : H.get r = .map es cl true) :
    ∃ l es', ρ.loc r = some l ∧ m' = .map (some l.block) ∧ w.heap[l.block]? = some (.map es' cl) ∧ ERel ρ es es'.toList ∧
      ∀ (fs : List MapEntry) (fs' : Array MapEntry) (c2 : Nat), ERel ρ fs fs'.toList → R P ρ w0 (H.put r (.map fs c2 true)) (World.setBlk w l.block (.map fs' c2)) := by
  cases hm with
  | map _ r' hr =>
    obtain ⟨es', h1, h2, h3⟩ := hR.map hr hg
    obtain ⟨_, l, hl, rfl⟩ := h3 rfl
    exact ⟨l, es', hl, rfl, h1, h2, fun fs fs' c2 hf => hR.wrote hl (by rw [hg]; simp) _ _ ⟨fs', rfl, hf⟩⟩

theorem run_setObj' {r : Nat} {es : Array MapEntry} {cl : Nat} (o : Obj) (hb : w.heap[r]? = some (.map es cl)) : (setObj r o).run P w = .ok () (World.setBlk w r o) := by
  simp [setObj, Sem.run, hb, World.setBlk]

theorem keyStays {es : List MapEntry} {es' : Array MapEntry} (he : ERel ρ es es'.toList) {kd i : Nat} {k k' u : Value} (hk : VRel ρ k k') (hf : findE kd k es = some (some (i, u))) (w : World) :
    (Instr.keyThatStays (((es'[i]?).map (·.key)).getD k') k').run P w = .ok k' w ∧ k' = k := by
  obtain ⟨e, h1, _, h3⟩ := findE_at es i u hf
  obtain ⟨h4, h5, h6⟩ := sameCell_true h3
  have hk' := hk.flat h5
  have hi : i < es'.toList.length := by
    rw [← he.len]
    rcases Nat.lt_or_ge i es.length with g | g
    · exact g
    · rw [List.getElem?_eq_none g] at h1; simp at h1
  have h7 := (he.at_ i e _ h1 (List.getElem?_eq_getElem hi)).2.1
  rw [h4] at h7
  have h8 := h7.flat h5
  have h9 : es'[i]? = some es'.toList[i] := by rw [← Array.getElem?_toList]; exact List.getElem?_eq_getElem hi
  subst hk'
  refine ⟨?_, rfl⟩
  rw [h9]
  simp only [Option.map_some, Option.getD_some, h8]
  simp [Instr.keyThatStays, h6]

theorem setMap_sound (hR : R P ρ w0 H w) {t kt e kd : Nat} {m m' k k' x x' : Value} {H' : AH} (ht : P.underlying t = some (.map kt e)) (hkd : kindO P kt = some kd) (h : setMap kd m k x H = some H') (hm : VRel ρ m m') (hk : VRel ρ k k') (hx : VRel ρ x x') :
    ∃ w', R P ρ w0 H' w' ∧ (Instr.mapUpdate t m' k' x').run P w = .ok () w' := by
  obtain ⟨d, hd, hkd'⟩ := kindO_of hkd
  unfold setMap at h
  split at h
  · rename_i r
    split at h
    · rename_i es cl hg
      obtain ⟨l, es', hl, rfl, hb, her, hw⟩ := hR.mapAt hm hg
      simp only [Option.map_eq_some_iff] at h
      obtain ⟨q, hq, rfl⟩ := h
      obtain ⟨q', g1, g2, g3⟩ := findE_sound hkd' hk es es'.toList q 0 hq her
      have hck := fun e => isKey_of (P := P) hkd' k' trivial w e kt 9999 hd
      have hfk := run_findKey' (P := P) hd g1 w
      have hgo := run_getObj_map (P := P) w _ _ _ hb
      cases q with
      | none =>
        have := g2 rfl; subst this
        refine ⟨_, hw (es ++ [{ key := k, val := x, born := cl }]) (es'.push { key := k', val := x', born := cl }) (cl + 1) (by simpa using her.push (e := { key := k, val := x, born := cl }) (e' := { key := k', val := x', born := cl }) ⟨rfl, hk, hx⟩), ?_⟩
        simp only [Instr.mapUpdate, Sem.run_bind, run_underlying' ht, Result.andThen_ok, hgo, hck, hfk]
        exact run_setObj' _ hb
      | some p =>
        obtain ⟨i, u⟩ := p
        obtain ⟨u', a1, _, _⟩ := g3 i u rfl
        subst a1
        obtain ⟨s1, s2⟩ := keyStays (P := P) her hk hq w
        rw [Nat.zero_add] at hfk
        refine ⟨_, hw (es.modify i fun e => { e with key := k, val := x }) (es'.modify i fun e => { e with key := k', val := x' }) cl (by rw [Array.toList_modify]; exact her.modify i _ _ (fun e e' h => ⟨h.1, hk, hx⟩)), ?_⟩
        simp only [Instr.mapUpdate, Sem.run_bind, run_underlying' ht, Result.andThen_ok, hgo, hck, hfk, s1]
        exact run_setObj' _ hb
    · simp at h
  · simp at h

theorem entryM_sound (hR : R P ρ w0 H w) {t kt e kd : Nat} {z m m' k k' : Value} {H' : AH} (ht : P.underlying t = some (.map kt e)) (hkd : kindO P kt = some kd) (hz : zeroOf P e = some z) (hlz : litV z = true) (h : entryM kd z m k H = some (v, H')) (hm : VRel ρ m m') (hk : VRel ρ k k') :
    ∃ v' w', R P ρ w0 H' w' ∧ VRel ρ v v' ∧ (Instr.mapEntry t m' k').run P w = .ok v' w' := by
  obtain ⟨d, hd, hkd'⟩ := kindO_of hkd
  unfold entryM at h
  split at h
  · rename_i r
    split at h
    · rename_i es cl hg
      obtain ⟨l, es', hl, rfl, hb, her, hw⟩ := hR.mapAt hm hg
      simp only [Option.map_eq_some_iff] at h
      obtain ⟨q, hq, h⟩ := h
      obtain ⟨q', g1, g2, g3⟩ := findE_sound hkd' hk es es'.toList q 0 hq her
      have hck := fun e => isKey_of (P := P) hkd' k' trivial w e kt 9999 hd
      have hfk := run_findKey' (P := P) hd g1 w
      have hgo := run_getObj_map (P := P) w _ _ _ hb
      cases q with
      | none =>
        have := g2 rfl; subst this
        simp only [Prod.mk.injEq] at h
        obtain ⟨rfl, rfl⟩ := h
        refine ⟨_, _, hw (es ++ [{ key := k, val := z, born := cl }]) (es'.push { key := k', val := z, born := cl }) (cl + 1) (by simpa using her.push (e := { key := k, val := z, born := cl }) (e' := { key := k', val := z, born := cl }) ⟨rfl, hk, litV_rel hlz⟩), (LRel.cons (litV_rel hlz) (LRel.cons (.int _ _) LRel.nil)).tuple, ?_⟩
        simp only [Instr.mapEntry, Sem.run_bind, run_underlying' ht, Result.andThen_ok, hgo, hck, hfk, run_zero' hz, run_setObj' (P := P) _ hb]
        rfl
      | some p =>
        obtain ⟨i, u⟩ := p
        obtain ⟨u', a1, hu, hi⟩ := g3 i u rfl
        subst a1
        obtain ⟨s1, s2⟩ := keyStays (P := P) her hk hq w
        rw [Nat.zero_add] at hfk
        simp only [Prod.mk.injEq] at h
        obtain ⟨rfl, rfl⟩ := h
        have hborn : ((es'[i]?).map (fun x => (x.born : Int))).getD 0 = ((es[i]?).map (fun x => (x.born : Int))).getD 0 := by
          have hi' : i < es'.toList.length := by rw [← her.len]; exact hi
          have h9 : es'[i]? = some es'.toList[i] := by rw [← Array.getElem?_toList]; exact List.getElem?_eq_getElem hi'
          rw [h9, List.getElem?_eq_getElem hi]
          simp only [Option.map_some, Option.getD_some]
          rw [(her.at_ i _ _ (List.getElem?_eq_getElem hi) (List.getElem?_eq_getElem hi')).1]
        refine ⟨_, _, hw (es.modify i fun e => { e with key := k }) (es'.modify i fun e => { e with key := k' }) cl (by rw [Array.toList_modify]; exact her.modify i _ _ (fun e e' h => ⟨h.1, hk, h.2.2⟩)), (LRel.cons hu (LRel.cons (.int _ _) LRel.nil)).tuple, ?_⟩
        simp only [Instr.mapEntry, Sem.run_bind, run_underlying' ht, Result.andThen_ok, hgo, hck, hfk, s1, run_setObj' (P := P) _ hb, hborn]
        rfl
    · simp at h
  · simp at h

theorem delMap_sound (hR : R P ρ w0 H w) {ats : Array TypeId} {args : Array Value} {t ty kt e kd : Nat} {m m' k k' : Value} {H' : AH} (h1 : ats[0]? = some t) (h2 : args[0]? = some m') (h3 : args[1]? = some k') (ht : P.underlying t = some (.map kt e)) (hkd : kindO P kt = some kd)
    (h : delMap kd m k H = some H') (hm : VRel ρ m m') (hk : VRel ρ k k') : ∃ w', R P ρ w0 H' w' ∧ (Builtin.delete_ ats ty args).run P w = .ok (.tuple #[]) w' := by
  obtain ⟨d, hd, hkd'⟩ := kindO_of hkd
  have hck := fun e => isKey_of (P := P) hkd' k' trivial w e kt 9999 hd
  unfold delMap at h
  split at h
  · simp only [Option.some.injEq] at h; subst h
    cases hm
    refine ⟨w, hR, ?_⟩
    simp only [Builtin.delete_, h1, h2, h3, Sem.run_bind, run_underlying' ht, Result.andThen_ok, hck]
    rfl
  · rename_i r
    split at h
    · rename_i es cl hg
      obtain ⟨l, es', hl, rfl, hb, her, hw⟩ := hR.mapAt hm hg
      simp only [Option.map_eq_some_iff] at h
      obtain ⟨q, hq, rfl⟩ := h
      obtain ⟨q', g1, g2, g3⟩ := findE_sound hkd' hk es es'.toList q 0 hq her
      have hfk := run_findKey' (P := P) hd g1 w
      have hgo := run_getObj_map (P := P) w _ _ _ hb
      cases q with
      | none =>
        have := g2 rfl; subst this
        refine ⟨w, hR, ?_⟩
        have hs : World.setBlk w l.block (.map es' cl) = w := setBlk_same hb
        simp only [Builtin.delete_, h1, h2, h3, Sem.run_bind, run_underlying' ht, Result.andThen_ok, hgo, hck, hfk, run_setObj' (P := P) _ hb, hs]
        rfl
      | some p =>
        obtain ⟨i, u⟩ := p
        obtain ⟨u', a1, hu, hi⟩ := g3 i u rfl
        subst a1
        rw [Nat.zero_add] at hfk
        have hi' : i < es'.size := by have := her.len; simp at this; omega
        refine ⟨_, hw (es.eraseIdx i) (es'.eraseIdxIfInBounds i) cl (by simp only [Array.eraseIdxIfInBounds, hi', dif_pos, Array.toList_eraseIdx]; exact her.eraseIdx i), ?_⟩
        simp only [Builtin.delete_, h1, h2, h3, Sem.run_bind, run_underlying' ht, Result.andThen_ok, hgo, hck, hfk, run_setObj' (P := P) _ hb]
        rfl
    · simp at h
  · simp at h

theorem entrySt_sound (hR : R P ρ w0 H w) {t : Nat} {m m' s s' x x' : Value} {H' : AH} (h : entrySt m s x H = some H') (hm : VRel ρ m m') (hs : VRel ρ s s') (hx : VRel ρ x x') :
    ∃ w', R P ρ w0 H' w' ∧ (Instr.entryStore t m' s' x').run P w = .ok () w' := by
  unfold entrySt at h
  split at h
  · rename_i r kd born
    obtain rfl := hs.flat rfl
    split at h
    · rename_i es cl hg
      obtain ⟨l, es', hl, rfl, hb, her, hw⟩ := hR.mapAt hm hg
      simp only [Option.map_eq_some_iff] at h
      obtain ⟨i, hi, rfl⟩ := h
      have hgo := run_getObj_map (P := P) w _ _ _ hb
      have hfi : ∀ (es es' : List MapEntry), ERel ρ es es' → es.findIdx? (fun e => (e.born : Int) == born) = es'.findIdx? (fun e => (e.born : Int) == born) := by
        intro es
        induction es with
        | nil => intro es' h; have : es' = [] := by have := h.len; cases es' <;> simp_all
                 subst this; rfl
        | cons e es ih =>
          intro es' h
          cases es' with
          | nil => have := h.len; simp at this
          | cons e' es' =>
            rw [List.findIdx?_cons, List.findIdx?_cons, (h.at_ 0 e e' rfl rfl).1, ih es' h.tail]
      have hi' : es'.findIdx? (fun e => (e.born : Int) == born) = some i := by
        rw [← hi, hfi es es'.toList her]
        cases es'
        rw [List.findIdx?_toArray]
      refine ⟨_, hw (es.modify i fun e => { e with val := x }) (es'.modify i fun e => { e with val := x' }) cl (by rw [Array.toList_modify]; exact her.modify i _ _ (fun e e' h => ⟨h.1, h.2.1, hx⟩)), ?_⟩
      simp only [Instr.entryStore, Sem.run_bind, hgo, Result.andThen_ok, asInt, asIntOf, Sem.run_pure, hi']
      exact run_setObj' _ hb
    · simp at h
  · simp at h
end
end Go.AM
end
section
/- THE ABSTRACT MACHINE: append, copy; iterators. -/
namespace Go.AM
open Go.RowKit (Below)
section
variable {P : Program} {ρ : Inj} {T : Env} {a : Act} {v : Value} {w0 w : World} {H : AH}

/-- A slice's row goes on under a new abstract block, in the machine's same block. -/
theorem R.moved (r : R P ρ w0 H w) {b : Nat} {l l' : Loc} (hl : ρ.loc b = some l) (hd : H.get b ≠ .dead) (o : AObj) (obj : Obj) (hb' : l'.block = l.block)
    (ho : ORel ρ l' o (some obj)) : R P (ρ.put H.next l') w0 ((H.put b .dead).new o) (World.setBlk w l.block obj) := by
  have hn : ρ.loc H.next = none := by
    cases h : ρ.loc H.next with
    | none => rfl
    | some q => have := (r.own _ _ h).2.1; omega
  obtain ⟨hb1, hb2, hb3, hb4, _⟩ := r.own b l hl
  have hle := Inj.le_put (l := l') hn
  have get : ∀ z, ((H.put b .dead).new o).get z = if z = H.next then o else if z = b then .dead else H.get z := fun z => by
    rw [AH.get_new, AH.next_put, AH.get_put]; simp [hb2]
  refine { size := r.size, glob := r.glob, nxt := Nat.le_succ_of_le r.nxt, below := ?_, ro := ?_, own := ?_, inj := ?_ }
  · exact r.below.trans ⟨rfl, rfl, rfl, by simp [World.setBlk], fun k hk => by
      have hk : k < ρ.base := hk
      show (w.heap.setIfInBounds _ _)[k]? = _
      rw [Array.getElem?_setIfInBounds_ne (by omega)]⟩
  · intro x hx
    have hx : x < ρ.base := hx
    have h1 : x ≠ H.next := by have := r.nxt; omega
    have h2 : x ≠ b := by omega
    rw [get, if_neg h1, if_neg h2]; exact r.ro x hx
  · intro x q hq
    by_cases e : x = H.next
    · subst e
      simp only [Inj.put, if_true, Option.some.injEq] at hq; subst hq
      refine ⟨r.nxt, Nat.lt_succ_self _, by rw [hb']; exact hb3, by simp [World.setBlk]; omega, ?_⟩
      rw [get, if_pos rfl, hb', setBlk_get _ _ hb4]; exact ho.mono hle
    · simp only [Inj.put, e, if_false] at hq
      obtain ⟨h1, h2, h3, h4, h5⟩ := r.own x q hq
      refine ⟨h1, Nat.lt_succ_of_lt h2, h3, by simpa [World.setBlk] using h4, ?_⟩
      rw [get, if_neg e]
      by_cases e2 : x = b
      · rw [if_pos e2]; trivial
      · rw [if_neg e2]
        by_cases hbl : q.block = l.block
        · have : H.get x = .dead := Classical.byContradiction fun hx => e2 (r.inj x b q l hq hl hx hd hbl)
          rw [this]; trivial
        · show ORel _ _ _ (w.heap.setIfInBounds _ _)[q.block]?
          rw [Array.getElem?_setIfInBounds_ne (fun e => hbl e.symm)]; exact h5.mono hle
  · intro x y q q' hq hq' dx dy he
    rw [get] at dx dy
    by_cases ex : x = H.next
    · by_cases ey : y = H.next
      · rw [ex, ey]
      · simp only [Inj.put, ex, if_true, Option.some.injEq] at hq
        simp only [Inj.put, ey, if_false] at hq'
        rw [if_neg ey] at dy
        have hyb : y ≠ b := by intro e; rw [if_pos e] at dy; exact dy rfl
        rw [if_neg hyb] at dy
        exact absurd (r.inj y b q' l hq' hl dy hd (by rw [← he, ← hq, hb'])) hyb
    · by_cases ey : y = H.next
      · simp only [Inj.put, ey, if_true, Option.some.injEq] at hq'
        simp only [Inj.put, ex, if_false] at hq
        rw [if_neg ex] at dx
        have hxb : x ≠ b := by intro e; rw [if_pos e] at dx; exact dx rfl
        rw [if_neg hxb] at dx
        exact absurd (r.inj x b q l hq hl dx hd (by rw [he, ← hq', hb'])) hxb
      · simp only [Inj.put, ex, ey, if_false] at hq hq'
        rw [if_neg ex] at dx
        rw [if_neg ey] at dy
        have hxb : x ≠ b := by intro e; rw [if_pos e] at dx; exact dx rfl
        have hyb : y ≠ b := by intro e; rw [if_pos e] at dy; exact dy rfl
        rw [if_neg hxb] at dx
        rw [if_neg hyb] at dy
        exact r.inj x y q q' hq hq' dx dy he

theorem put_same {b : Nat} {o : AObj} (h : H.get b = o) (hd : o ≠ .dead) : H.put b o = H := by
  have hlt := AH.lt_of_get (H := H) (b := b) (by rw [h]; exact hd)
  unfold AH.put
  cases H with
  | mk n raw =>
    simp only [AH.mk.injEq, true_and]
    funext x
    split
    · rename_i e; subst e; rw [← h]; simp only [AH.get]; rw [if_pos hlt]
    · rfl

theorem lenO_sound {x x' : Value} {m : Nat} (h : lenO x = some m) (hx : VRel ρ x x') (w : World) : (Builtin.lenOf x').run P w = .ok m w := by
  unfold lenO at h
  split at h
  · simp only [Option.some.injEq] at h; subst h
    cases hx <;> rfl
  · simp only [Option.some.injEq] at h; subst h
    cases hx; rfl
  · simp at h

theorem firstRow_sound (hR : R P ρ w0 H w) {size n : Nat} {x x' : Value} {l : List Value} (h : firstRow size n x H = some l) (hx : VRel ρ x x') (hn : ∀ m, lenO x = some m → n ≤ m) :
    ∃ l', LRel ρ l l' ∧ (Builtin.firstCells size n x').run P w = .ok l'.toArray w := by
  unfold firstRow at h
  split at h
  · rw [Option.ite_none_right_eq_some] at h
    obtain ⟨_, h⟩ := h
    simp only [Option.some.injEq] at h; subst h
    cases hx
    exact ⟨[], LRel.nil, rfl⟩
  · rename_i A k c
    split at h
    · simp at h
    · rename_i hs
      have hs : A.spot = none := by simpa using hs
      cases hx with
      | slc _ A' _ _ c' r =>
        rcases r with ⟨r, _⟩ | ⟨rfl, _⟩ | ⟨rfl, _⟩
        · obtain ⟨l', h1, h2, h3⟩ := hR.row r hs h
          refine ⟨l', h1, ?_⟩
          have := run_loadCells_list (P := P) w A' l' h3
          rw [h2] at this
          exact this
        · have hn0 : n = 0 := by have := hn 0 rfl; omega
          subst hn0
          rw [Nat.zero_mul] at h
          have hl := (row_cell h).1
          have : l = [] := List.eq_nil_of_length_eq_zero hl
          subst this
          refine ⟨[], LRel.nil, ?_⟩
          show (loadCells A' (0 * size)).run P w = _
          rw [Nat.zero_mul]; rfl
        · have hn0 : n = 0 := by have := hn 0 rfl; omega
          subst hn0
          rw [Nat.zero_mul] at h
          have hl := (row_cell h).1
          have : l = [] := List.eq_nil_of_length_eq_zero hl
          subst this
          refine ⟨[], LRel.nil, ?_⟩
          show (loadCells A' (0 * size)).run P w = _
          rw [Nat.zero_mul]; rfl
  · rename_i s
    rw [Option.ite_none_right_eq_some] at h
    obtain ⟨_, h⟩ := h
    simp only [Option.some.injEq] at h; subst h
    obtain rfl := hx.flat rfl
    refine ⟨_, LRel.refl_lit (List.all_eq_true.2 fun x hx => ?_), ?_⟩
    · simp only [List.mem_map] at hx
      obtain ⟨b, _, rfl⟩ := hx
      rfl
    · show Result.ok _ w = _
      congr 1
      apply Array.ext'
      simp
  · simp at h

theorem firstRow_len {size n : Nat} {x : Value} {l : List Value} (h : firstRow size n x H = some l) (hn : ∀ m, lenO x = some m → n ≤ m) : l.length = n * size := by
  unfold firstRow at h
  split at h
  · rw [Option.ite_none_right_eq_some] at h
    obtain ⟨rfl, h⟩ := h
    simp only [Option.some.injEq] at h; subst h
    simp
  · split at h
    · simp at h
    · exact (row_cell h).1
  · rename_i s
    rw [Option.ite_none_right_eq_some] at h
    obtain ⟨rfl, h⟩ := h
    simp only [Option.some.injEq] at h; subst h
    have := hn s.size rfl
    have e : s.data.size = s.size := rfl
    simp [e]; omega
  · simp at h

theorem srcRow_sound (hR : R P ρ w0 H w) {size n : Nat} {x x' : Value} {l : List Value} (h : srcRow size n x H = some l) (hx : VRel ρ x x') (hn : ∀ m, lenO x = some m → n ≤ m) :
    ∃ l', LRel ρ l l' ∧ (Builtin.firstCells size n x').run P w = .ok l'.toArray w := by
  unfold srcRow at h
  split at h
  · simp only [Option.some.injEq] at h; subst h
    cases hx with
    | slc _ A' _ _ c' r =>
      refine ⟨[], LRel.nil, ?_⟩
      show (loadCells A' (0 * size)).run P w = _
      rw [Nat.zero_mul]; rfl
  · exact firstRow_sound hR h hx hn
theorem srcRow_len {size n : Nat} {x : Value} {l : List Value} (h : srcRow size n x H = some l) (hn : ∀ m, lenO x = some m → n ≤ m) : l.length = n * size := by
  unfold srcRow at h
  split at h
  · simp only [Option.some.injEq] at h; subst h; simp
  · exact firstRow_len h hn

theorem grow_le (newLen : Nat) : ∀ (r c : Nat), c ≤ 2 * newLen → 256 ≤ newLen → Builtin.growBy newLen r c ≤ 2 * newLen
  | 0, c, h, _ => h
  | r + 1, c, h, h2 => by
    unfold Builtin.growBy
    split
    · exact h
    · exact grow_le newLen r _ (by omega) h2
theorem nextcap_le {need cap : Nat} (h : cap < need) : Builtin.nextslicecap need cap ≤ 2 * need := by
  unfold Builtin.nextslicecap
  split
  · omega
  · split
    · omega
    · exact grow_le need 4 cap (by omega) (by omega)

theorem app_sound (hR : R P ρ w0 H w) {ats : Array TypeId} {args : Array Value} {t t2 ty e size bytes : Nat} {z s s' x x' : Value} {H' : AH} {d2 : TypeDesc} (h1 : ats[0]? = some t) (h2 : ats[1]? = some t2) (h3 : args[0]? = some s') (h4 : args[1]? = some x')
    (ht : P.underlying t = some (.slice e)) (ht2 : P.underlying t2 = some d2) (hnz : d2 = .string ∨ ∃ q, d2 = .slice q) (hsz : sizeO P e = some size) (hby : bytesO' P e = some bytes) (hz : zeroOf P e = some z) (hzs : z.cells.size = size)
    (h : app size bytes s x H = some (v, H')) (hs : VRel ρ s s') (hx : VRel ρ x x') :
    ∃ ρ' v' w', ρ.le ρ' ∧ (∀ b, b < H.next → ρ'.loc b = ρ.loc b) ∧ H.next ≤ H'.next ∧ R P ρ' w0 H' w' ∧ VRel ρ' v v' ∧ (Builtin.append_ ats ty args).run P w = .ok v' w' := by
  have hqi : (P.info? e).map (·.bytes) = some bytes := hby
  obtain ⟨ti, hti, htb⟩ := Option.map_eq_some_iff.1 hqi
  have hti' : ∀ w, (typeInfo e).run P w = .ok ti w := fun w => by simp [typeInfo, hti]
  unfold app at h
  split at h
  · rename_i base n c
    simp only [Option.bind_eq_some_iff] at h
    obtain ⟨m, hm, new, hnew, h⟩ := h
    have hlen := fun w => lenO_sound (P := P) hm hx w
    obtain ⟨new', hnr, hnrun⟩ := srcRow_sound hR hnew hx (fun k hk => by rw [hm] at hk; simp at hk; omega)
    split at h
    · simp at h
    · rename_i hpl
      have hpl : new.all plain1 = true := by simpa using hpl
      have hone : new'.length = new.length := hnr.1.symm
      have hone : new'.length = new.length := hnr.1.symm
      -- the run, in its two ways
      have runFits : ∀ (b' : Option Addr) (c' : Nat) (w' : World), s' = .slice b' n c' → n + m ≤ c' → (match b' with | none => (pure () : Sem Unit) | some a' => storeCells (a'.add (n * size)) new').run P w = .ok () w' →
          (Builtin.append_ ats ty args).run P w = .ok (.slice b' (n + m) c') w' := by
        intro b' c' w' hs' hle hst
        subst hs'
        cases b' with
        | none =>
          have hw : w' = w := by simp at hst; exact hst.symm
          subst hw
          rcases hnz with rfl | ⟨q, rfl⟩ <;>
            simp only [Builtin.append_, h1, h2, h3, h4, Sem.run_bind, run_underlying' ht, run_underlying' ht2, Result.andThen_ok, run_sizeOf' hsz, Sem.run_pure, Bool.false_eq_true, if_false, hlen, Sem.run_ite, if_pos hle, Bool.not_false, if_true, hnrun]
        | some a' =>
          have hst' : (storeCells (a'.add (n * size)) new').run P w = .ok () w' := hst
          rcases hnz with rfl | ⟨q, rfl⟩ <;>
            simp only [Builtin.append_, h1, h2, h3, h4, Sem.run_bind, run_underlying' ht, run_underlying' ht2, Result.andThen_ok, run_sizeOf' hsz, Sem.run_pure, Bool.false_eq_true, if_false, hlen, Sem.run_ite, if_pos hle, Bool.not_false, if_true, hnrun, hst']
      have runGrows : ∀ (b' : Option Addr) (c' : Nat) (old' new' : List Value), s' = .slice b' n c' → ¬ n + m ≤ c' → (n + m) * bytes ≤ 2 ^ 46 → n + m < 2 ^ 62 → bytes ≠ 0 → (Builtin.firstCells size n s').run P w.drew = .ok old'.toArray w.drew → (Builtin.firstCells size m x').run P w.drew = .ok new'.toArray w.drew →
          ∃ cap, n + m ≤ cap ∧ (Builtin.append_ ats ty args).run P w = .ok (.slice (some ⟨w.heap.size, 0, none⟩) (n + m) cap) (w.drew.alloc (.cells (old'.toArray ++ new'.toArray ++ Builtin.zeroCells z.cells (cap - (n + m))) e)) := by
        intro b' c' old' new' hs' hgt hbd hlt hb0 hold hnw
        subst hs'
        refine ⟨(Question.appendCap (n + m) c' e).cut (w.tape w.drawn (.appendCap (n + m) c' e)), by simp [Question.cut], ?_⟩
        have hch : (choose (.appendCap (n + m) c' e)).run P w = .ok ((Question.appendCap (n + m) c' e).cut (w.tape w.drawn (.appendCap (n + m) c' e))) w.drew := by
          rw [run_choose]; rfl
        generalize (Question.appendCap (n + m) c' e).cut (w.tape w.drawn (.appendCap (n + m) c' e)) = cap at *
        have g1 : ¬ ((((n + m : Nat)) : Int) > IntKind.i64.max ∧ (False ∨ ti.bytes = 0)) := by
          rintro ⟨g, _⟩
          have e : IntKind.i64.max = 9223372036854775807 := by decide
          rw [e] at g; omega
        have g2 : ¬ (Builtin.nextslicecap (n + m) c' * ti.bytes > 2 ^ 48) := by
          have := nextcap_le (need := n + m) (cap := c') (by omega)
          have h5 : Builtin.nextslicecap (n + m) c' * ti.bytes ≤ (2 * (n + m)) * ti.bytes := Nat.mul_le_mul_right _ this
          rw [Nat.mul_assoc, htb] at h5
          rw [htb]; omega
        have h0 : ti.bytes ≠ 0 := by rw [htb]; exact hb0
        rcases hnz with rfl | ⟨q, rfl⟩ <;>
          (simp only [Builtin.append_, h1, h2, h3, h4, Sem.run_bind, run_underlying' ht, run_underlying' ht2, Result.andThen_ok, run_sizeOf' hsz, Sem.run_pure, Bool.false_eq_true, if_false, hlen, Sem.run_ite, if_neg hgt, hti', Bool.not_false, if_true, g2, hch, run_askRoom, hold, hnw, run_zero' hz, h0, or_false, and_false]
           simp [newRow]
           rfl)
      have hnl := srcRow_len hnew (fun k hk => by rw [hm] at hk; simp at hk; omega)
      have hnl' : new'.length = m * size := by rw [hone]; exact hnl
      split at h
      · rename_i hle
        cases base with
        | none =>
          rw [Option.ite_none_right_eq_some] at h
          obtain ⟨hnil, h⟩ := h
          simp only [Option.some.injEq, Prod.mk.injEq] at h
          obtain ⟨rfl, rfl⟩ := h
          cases hs with
          | snil => exact ⟨ρ, _, w, ρ.le_refl, fun _ _ => rfl, Nat.le_refl _, hR, .snil _ _, runFits none c w rfl hle rfl⟩
        | some A =>
          simp only at h
          split at h
          · simp at h
          · rename_i hsp
            have hsp : A.spot = none := by simpa using hsp
            cases hs with
            | slc _ A' _ _ c' r =>
              have hcc : c ≤ c' := by
                rcases r with ⟨_, rfl | ⟨_, _, _, _, _, g, _⟩⟩ | ⟨_, rfl, _⟩ | ⟨_, rfl, _⟩
                · exact Nat.le_refl _
                · exact g
                · exact Nat.zero_le _
                · exact Nat.zero_le _
              have nothing : new = [] → (storeCells (A'.add (n * size)) new').run P w = .ok () w := by
                intro hn0
                have : new' = [] := List.eq_nil_of_length_eq_zero (by rw [hone, hn0]; rfl)
                rw [this]; rfl
              split at h
              · rename_i cs fx hg
                rw [Option.ite_none_right_eq_some] at h
                obtain ⟨hfit, h⟩ := h
                simp only [Option.some.injEq, Prod.mk.injEq] at h
                obtain ⟨rfl, rfl⟩ := h
                rcases r with ⟨ra, rc⟩ | hrest
                · obtain ⟨w1, q1, q2⟩ := hR.stored ra hsp hg (n * size) hfit hnr hpl
                  refine ⟨ρ, _, w1, ρ.le_refl, fun _ _ => rfl, Nat.le_refl _, q1, .slc _ _ _ _ _ (.inl ⟨ra, rc⟩), runFits (some A') c' w1 rfl (by omega) q2⟩
                · have hnc : n = 0 ∧ c = 0 := by rcases hrest with ⟨h1, h2, _⟩ | ⟨h1, h2, _⟩ <;> exact ⟨h1, h2⟩
                  obtain ⟨rfl, rfl⟩ := hnc
                  have hm0 : m = 0 := by omega
                  subst hm0
                  have hn0 : new = [] := List.eq_nil_of_length_eq_zero (by rw [hnl, Nat.zero_mul])
                  refine ⟨ρ, _, w, ρ.le_refl, fun _ _ => rfl, Nat.le_refl _, ?_, .slc _ _ _ _ _ (.inr hrest), runFits (some A') c' w rfl (by omega) (nothing hn0)⟩
                  rw [hn0, splice_nil, put_same hg (by simp)]; exact hR
              · rename_i f hg
                rw [Option.ite_none_right_eq_some] at h
                obtain ⟨hn0, h⟩ := h
                simp only [Option.some.injEq, Prod.mk.injEq] at h
                obtain ⟨rfl, rfl⟩ := h
                rcases r with ⟨ra, rc⟩ | ⟨_, _, hb, _, l, _, hl, _⟩ | ⟨q1, q2, q3, q4⟩
                · exact ⟨ρ, _, w, ρ.le_refl, fun _ _ => rfl, Nat.le_refl _, hR, .slc _ _ _ _ _ (.inl ⟨ra, rc⟩), runFits (some A') c' w rfl (by omega) (nothing hn0)⟩
                · have := (hR.own _ _ hl).2.2.2.2
                  rw [hg] at this; exact this.elim
                · exact ⟨ρ, _, w, ρ.le_refl, fun _ _ => rfl, Nat.le_refl _, hR, .slc _ _ _ _ _ (.inr (.inr ⟨by omega, q2, q3, q4⟩)), runFits (some A') c' w rfl (by omega) (nothing hn0)⟩
              · simp at h
      · rename_i hgt
        split at h
        · simp at h
        · rename_i hbd
          simp only [not_or, Nat.not_lt, Nat.not_le] at hbd
          obtain ⟨hb1, hb2, hb3, hb4⟩ := hbd
          simp only [Option.bind_eq_some_iff] at h
          obtain ⟨old, hold, h⟩ := h
          have hol := firstRow_len hold (fun k hk => by simp [lenO] at hk; omega)
          split at h
          · simp at h
          · -- a new block in the machine, too
            have realloc : ∀ (H0 : AH) (b' : Option Addr) (c' : Nat), R P ρ w0 H0 w → H0.next = H.next → s' = .slice b' n c' → ¬ n + m ≤ c' →
                ∃ ρ' v' w', ρ.le ρ' ∧ (∀ b, b < H.next → ρ'.loc b = ρ.loc b) ∧ H.next ≤ (H0.new (.cells (old ++ new) (some size))).next ∧ R P ρ' w0 (H0.new (.cells (old ++ new) (some size))) w' ∧ VRel ρ' (mkSlc (n + m) (n + m) H.next) v' ∧ (Builtin.append_ ats ty args).run P w = .ok v' w' := by
              intro H0 b' c' hR0 hn0 hs' hgt'
              obtain ⟨old', ho1, ho2⟩ := firstRow_sound hR.drew hold hs (fun k hk => by simp [lenO] at hk; omega)
              obtain ⟨nw, hw1, hw2⟩ := srcRow_sound hR.drew hnew hx (fun k hk => by rw [hm] at hk; simp at hk; omega)
              obtain ⟨cap, hcap, hrun⟩ := runGrows b' c' old' nw hs' hgt' hb1 hb2 hb4 ho2 hw2
              have hnone : ρ.loc H.next = none := by
                cases hq : ρ.loc H.next with
                | none => rfl
                | some q => have := (hR.own _ _ hq).2.1; omega
              have hlen1 : old'.length = n * size := by rw [← ho1.1]; exact hol
              have hlen2 : nw.length = m * size := by rw [← hw1.1]; exact hnl
              have hzc : (Builtin.zeroCells z.cells (cap - (n + m))).size = (cap - (n + m)) * size := by simp [Builtin.zeroCells, hzs]
              have hmul : n * size + m * size + (cap - (n + m)) * size = cap * size := by rw [← Nat.add_mul, ← Nat.add_mul]; congr 1; omega
              have hCs : (old'.toArray ++ nw.toArray ++ Builtin.zeroCells z.cells (cap - (n + m))).size = cap * size := by
                simp only [Array.size_append, hzc, List.size_toArray, hlen1, hlen2]; exact hmul
              have hRn := (hR0.drew).new (.cells (old ++ new) (some size))
              have hget : (H0.new (.cells (old ++ new) (some size))).get H.next = .cells (old ++ new) (some size) := by rw [← hn0]; exact AH.get_new_self _ _
              refine ⟨ρ.put H.next ⟨w.heap.size, 0, cap * size, some size⟩, _, _, Inj.le_put hnone, fun b hb => by simp only [Inj.put]; rw [if_neg (by omega)], by simp [AH.new, hn0], hRn.laid hR.nxt (by simp [AH.new, hn0]) hnone ⟨w.heap.size, 0, cap * size, some size⟩ (.cells (old'.toArray ++ nw.toArray ++ Builtin.zeroCells z.cells (cap - (n + m))) e) rfl ?_, ?_, hrun⟩
              · rw [hget]
                refine orel_cells (l := ⟨w.heap.size, 0, cap * size, some size⟩) rfl hCs (by rw [hCs]; simp only [List.length_append, hol, hnl]; omega) (fun i _ hh => by simp at hh) (fun i x hx => ?_)
                obtain ⟨y, hy, hr⟩ := (ho1.append hw1).get hx
                refine ⟨y, ?_, hr⟩
                have hi : i < (old'.toArray ++ nw.toArray).size := by
                  rcases Nat.lt_or_ge i (old' ++ nw).length with g | g
                  · simpa using g
                  · rw [List.getElem?_eq_none g] at hy; simp at hy
                rw [Array.getElem?_append_left hi, ← hy]
                simp
              · exact .slc _ _ _ _ _ (.inl ⟨.inr ⟨hR.nxt, rfl, ⟨w.heap.size, 0, cap * size, some size⟩, by simp [Inj.put], rfl⟩, .inr ⟨⟨w.heap.size, 0, cap * size, some size⟩, size, hR.nxt, by simp [Inj.put], rfl, hcap, by simp⟩⟩)
            cases base with
            | none =>
              simp only [Option.some.injEq, Prod.mk.injEq] at h
              obtain ⟨rfl, rfl⟩ := h
              have hs0 := hs
              cases hs0 with
              | snil => exact realloc H none c hR rfl rfl hgt
            | some A =>
              simp only at h
              have hs0 := hs
              cases hs0 with
              | slc _ A' _ _ c' r =>
                split at h
                · rename_i cs hg
                  simp only [Option.some.injEq, Prod.mk.injEq] at h
                  obtain ⟨rfl, rfl⟩ := h
                  refine realloc H (some A') c' hR rfl rfl ?_
                  rcases r with ⟨ra, rfl | ⟨l, e', _, hl, hfx, _⟩⟩ | ⟨_, _, _, _, l, e', hl, hfx, _⟩ | ⟨_, rfl, rfl, _⟩
                  · exact hgt
                  · have := (hR.own _ _ hl).2.2.2.2
                    rw [hg] at this
                    have := this.1
                    rw [hfx] at this; simp at this
                  · have := (hR.own _ _ hl).2.2.2.2
                    rw [hg] at this
                    have := this.1
                    rw [hfx] at this; simp at this
                  · exact hgt
                · rename_i f hg
                  simp only [Option.some.injEq, Prod.mk.injEq] at h
                  obtain ⟨rfl, rfl⟩ := h
                  refine realloc H (some A') c' hR rfl rfl ?_
                  rcases r with ⟨ra, rfl | ⟨l, e', _, hl, hfx, _⟩⟩ | ⟨_, _, _, _, l, e', hl, hfx, _⟩ | ⟨_, rfl, rfl, _⟩
                  · exact hgt
                  · have := (hR.own _ _ hl).2.2.2.2
                    rw [hg] at this; exact this.elim
                  · have := (hR.own _ _ hl).2.2.2.2
                    rw [hg] at this; exact this.elim
                  · exact hgt
                · rename_i cs e2 hg
                  rw [Option.ite_none_right_eq_some] at h
                  obtain ⟨rfl, h⟩ := h
                  simp only [Option.some.injEq, Prod.mk.injEq] at h
                  obtain ⟨rfl, rfl⟩ := h
                  have hbb : ρ.base ≤ A.block := by
                    rcases Nat.lt_or_ge A.block ρ.base with g | g
                    · have := hR.ro _ g
                      rw [hg] at this; exact this.elim
                    · exact g
                  by_cases hin : n + m ≤ c'
                  · -- in place
                    have facts : ∃ l o', ρ.loc A.block = some l ∧ A' = ⟨l.block, o', none⟩ ∧ o' + c' * e2 ≤ l.total ∧ (n = 0 ∨ ARel ρ A A') := by
                      rcases r with ⟨ra, rfl | ⟨l, e', _, hl, hfx, _, hoff⟩⟩ | ⟨h0, _, _, _, l, e', hl, hfx, hb, hsp, hoff⟩ | ⟨_, rfl, rfl, _⟩
                      · exact absurd hin hgt
                      · obtain rfl := flex_of_fits (s := e2) hR hl hfx (by rw [hg]; simp [fits])
                        refine ⟨l, A'.off, hl, ?_, hoff, .inr ra⟩
                        rcases ra with ⟨g, _⟩ | ⟨_, _, l2, hl2, rfl⟩
                        · omega
                        · rw [hl] at hl2; simp only [Option.some.injEq] at hl2; subst hl2; rfl
                      · obtain rfl := flex_of_fits (s := e2) hR hl hfx (by rw [hg]; simp [fits])
                        refine ⟨l, A'.off, hl, ?_, hoff, .inl h0⟩
                        obtain ⟨ab, ao, asp⟩ := A'
                        simp only at hb hsp
                        subst hb; subst hsp; rfl
                      · exact absurd hin hgt
                    obtain ⟨l, o', hl, rfl, hoff, harel⟩ := facts
                    obtain ⟨_, _, _, hlb, hol2⟩ := hR.own _ _ hl
                    rw [hg] at hol2
                    obtain ⟨hfx, C, te, fr, hC, hsz2, hle2, hfr, hcell⟩ := hol2
                    have hspA : A.spot = none := by
                      unfold firstRow at hold
                      simp only at hold
                      split at hold
                      · simp at hold
                      · rename_i g; simpa using g
                    -- the old elements, as the machine has them
                    have hold' : ∃ old', LRel ρ old old' ∧ ∀ j x, old'[j]? = some x → C[o' + j]? = some x := by
                      unfold firstRow at hold
                      simp only at hold
                      split at hold
                      · simp at hold
                      · rcases harel with rfl | ra
                        · rw [Nat.zero_mul] at hold
                          have : old = [] := List.eq_nil_of_length_eq_zero (row_cell hold).1
                          subst this
                          exact ⟨[], LRel.nil, fun j x hx => by simp at hx⟩
                        · obtain ⟨l', q1, q2, q3⟩ := hR.row ra hspA hold
                          refine ⟨l', q1, fun j x hx => ?_⟩
                          have := q3 j x hx
                          have hadd : (⟨l.block, o', none⟩ : Addr).add j = ⟨l.block, o' + j, none⟩ := by
                            unfold Addr.add; split
                            · simp [*]
                            · rfl
                          rw [hadd, cell_row hC] at this; exact this
                    obtain ⟨old', q1, q2⟩ := hold'
                    have hlen1 : old'.length = n * e2 := by rw [← q1.1]; exact hol
                    have hmul : n * e2 + m * e2 ≤ c' * e2 := by rw [← Nat.add_mul]; exact Nat.mul_le_mul_right _ hin
                    have honeC : ∀ x ∈ new', x.oneCell' = true := by
                      intro x hx
                      obtain ⟨i, hi⟩ := List.getElem?_of_mem hx
                      have hi2 : i < new.length := by
                        rw [hnr.1]
                        rcases Nat.lt_or_ge i new'.length with g | g
                        · exact g
                        · rw [List.getElem?_eq_none g] at hi; simp at hi
                      exact (hnr.2 i _ x (List.getElem?_eq_getElem hi2) hi).plain1 (List.all_eq_true.1 hpl _ (List.getElem_mem hi2))
                    have hadd : (⟨l.block, o', none⟩ : Addr).add (n * e2) = ⟨l.block, o' + n * e2, none⟩ := by
                      unfold Addr.add; split
                      · simp [*]
                      · rfl
                    have hst := run_storeCells' (P := P) (b := l.block) (o := o' + n * e2) (e := te) (fr := fr) new' 0 C w hC (by rw [hnl']; omega) (fun j hj => hfr j (by omega)) honeC
                    rw [Nat.add_zero] at hst
                    have hCl : C.toList.length = l.total := by simpa using hsz2
                    have hmoved := hR.moved hl (by rw [hg]; simp) (.cells (old ++ new) (some e2)) (.cells ⟨splice C.toList (o' + n * e2) new'⟩ te fr) (l' := ⟨l.block, o', l.total, some e2⟩) rfl (by
                      refine ⟨rfl, _, te, fr, rfl, ?_, ?_, hfr, ?_⟩
                      · show (splice C.toList (o' + n * e2) new').length = _
                        rw [splice_length (by rw [hCl, hnl']; omega)]; exact hCl
                      · simp only [List.length_append, hol, hnl]; omega
                      · intro i x hx
                        have harr : ∀ (l : List Value) (j : Nat), (⟨l⟩ : Array Value)[j]? = l[j]? := fun l j => by rw [← Array.getElem?_toList]
                        rw [harr, splice_get (by rw [hCl, hnl']; omega)]
                        dsimp only
                        by_cases g : i < n * e2
                        · rw [if_pos (by omega)]
                          rw [List.getElem?_append_left (by rw [hol]; exact g)] at hx
                          obtain ⟨y, hy, hr⟩ := q1.get hx
                          exact ⟨y, by rw [Array.getElem?_toList]; exact q2 i y hy, hr⟩
                        · rw [if_neg (by omega)]
                          rw [List.getElem?_append_right (by rw [hol]; omega), hol] at hx
                          obtain ⟨y, hy, hr⟩ := hnr.get hx
                          have hi : i - n * e2 < new'.length := by
                            rcases Nat.lt_or_ge (i - n * e2) new'.length with g | g
                            · exact g
                            · rw [List.getElem?_eq_none g] at hy; simp at hy
                          rw [if_pos (by omega)]
                          exact ⟨y, by rw [← hy]; congr 1; omega, hr⟩)
                    have hnone : ρ.loc H.next = none := by
                      cases hq : ρ.loc H.next with
                      | none => rfl
                      | some q => have := (hR.own _ _ hq).2.1; omega
                    refine ⟨ρ.put H.next ⟨l.block, o', l.total, some e2⟩, _, _, Inj.le_put hnone, fun b hb => by simp only [Inj.put]; rw [if_neg (by omega)], by simp [AH.new, AH.put], hmoved, ?_, runFits (some ⟨l.block, o', none⟩) c' _ rfl hin (by
                      show (storeCells ((⟨l.block, o', none⟩ : Addr).add (n * e2)) new').run P w = _
                      rw [hadd]; exact hst)⟩
                    exact .slc _ _ _ _ _ (.inl ⟨.inr ⟨hR.nxt, rfl, ⟨l.block, o', l.total, some e2⟩, by simp [Inj.put], by simp⟩, .inr ⟨⟨l.block, o', l.total, some e2⟩, e2, hR.nxt, by simp [Inj.put], rfl, hin, hoff⟩⟩)
                  · exact realloc (H.put A.block .dead) (some A') c' (hR.killed hbb) rfl rfl hin
                · simp at h
  · simp at h
end
end Go.AM
end
section
/- THE ABSTRACT MACHINE: copy, iterators; all operations that change memory, put together. -/
namespace Go.AM
open Go.RowKit (Below)
section
variable {P : Program} {ρ : Inj} {T : Env} {a : Act} {v : Value} {w0 w : World} {H : AH}

theorem copy_sound (hR : R P ρ w0 H w) {ats : Array TypeId} {args : Array Value} {t ty e size : Nat} {d d' x x' : Value} {H' : AH} (h1 : ats[0]? = some t) (h3 : args[0]? = some d') (h4 : args[1]? = some x')
    (ht : P.underlying t = some (.slice e)) (hsz : sizeO P e = some size) (h : copyM size d x H = some (v, H')) (hd : VRel ρ d d') (hx : VRel ρ x x') :
    ∃ w', H'.next = H.next ∧ R P ρ w0 H' w' ∧ VRel ρ v v ∧ (Builtin.copy_ ats ty args).run P w = .ok v w' := by
  unfold copyM at h
  split at h
  · rename_i base n c
    simp only [Option.bind_eq_some_iff] at h
    obtain ⟨m, hm, new, hnew, h⟩ := h
    have hlen := fun w => lenO_sound (P := P) hm hx w
    obtain ⟨new', hnr, hnrun⟩ := srcRow_sound hR hnew hx (fun k hk => by rw [hm] at hk; simp at hk; subst hk; exact Nat.min_le_left _ _)
    have hnl := srcRow_len hnew (fun k hk => by rw [hm] at hk; simp at hk; subst hk; exact Nat.min_le_left _ _)
    split at h
    · simp at h
    · rename_i hpl
      have hpl : new.all plain1 = true := by simpa using hpl
      cases base with
      | none =>
        simp only [Option.some.injEq, Prod.mk.injEq] at h
        obtain ⟨rfl, rfl⟩ := h
        cases hd with
        | snil =>
          refine ⟨w, rfl, hR, .int _ _, ?_⟩
          simp only [Builtin.copy_, h1, h3, h4, Sem.run_bind, run_underlying' ht, Result.andThen_ok, hlen, run_sizeOf' hsz, hnrun]
          rfl
      | some A =>
        simp only at h
        split at h
        · simp at h
        · rename_i hsp
          have hsp : A.spot = none := by simpa using hsp
          cases hd with
          | slc _ A' _ _ c' r =>
            have run : ∀ w', (storeCells A' new').run P w = .ok () w' → (Builtin.copy_ ats ty args).run P w = .ok (.int .i64 (Nat.min m n : Nat)) w' := by
              intro w' hst
              simp only [Builtin.copy_, h1, h3, h4, Sem.run_bind, run_underlying' ht, Result.andThen_ok, hlen, run_sizeOf' hsz, hnrun, hst]
              rfl
            split at h
            · rename_i cs fx hg
              rw [Option.ite_none_right_eq_some] at h
              obtain ⟨hfit, h⟩ := h
              simp only [Option.some.injEq, Prod.mk.injEq] at h
              obtain ⟨rfl, rfl⟩ := h
              rcases r with ⟨ra, rc⟩ | hrest
              · obtain ⟨w1, q1, q2⟩ := hR.stored ra hsp hg 0 (by simpa using hfit) hnr hpl
                rw [Nat.add_zero] at q1
                rw [add_zero] at q2
                exact ⟨w1, rfl, q1, .int _ _, run w1 q2⟩
              · have hnc : n = 0 := by rcases hrest with ⟨h1, _⟩ | ⟨h1, _⟩ <;> exact h1
                subst hnc
                have hn0 : new = [] := List.eq_nil_of_length_eq_zero (by rw [hnl]; simp)
                have : new' = [] := List.eq_nil_of_length_eq_zero (by rw [← hnr.1, hn0]; rfl)
                refine ⟨w, rfl, ?_, .int _ _, run w (by rw [this]; rfl)⟩
                rw [hn0, splice_nil, put_same hg (by simp)]; exact hR
            · rename_i f hg
              rw [Option.ite_none_right_eq_some] at h
              obtain ⟨hn0, h⟩ := h
              simp only [Option.some.injEq, Prod.mk.injEq] at h
              obtain ⟨rfl, rfl⟩ := h
              have : new' = [] := List.eq_nil_of_length_eq_zero (by rw [← hnr.1, hn0]; rfl)
              exact ⟨w, rfl, hR, .int _ _, run w (by rw [this]; rfl)⟩
            · simp at h
  · simp at h

theorem rangeS_sound (hR : R P ρ w0 H w) {t : Nat} {x x' : Value} {obj : AObj} {mkv : Nat → Value} (ht : P.underlying t = some .string) (h : rangeS x = some (obj, mkv)) (hx : VRel ρ x x') :
    ∃ ρ' v' w', ρ.le ρ' ∧ (∀ b, b < H.next → ρ'.loc b = ρ.loc b) ∧ R P ρ' w0 (H.new obj) w' ∧ VRel ρ' (mkv H.next) v' ∧ (Instr.range t x').run P w = .ok v' w' := by
  unfold rangeS at h
  split at h
  · rename_i s
    simp only [Option.some.injEq, Prod.mk.injEq] at h
    obtain ⟨rfl, rfl⟩ := h
    obtain rfl := hx.flat rfl
    have hnone : ρ.loc H.next = none := by
      cases hq : ρ.loc H.next with
      | none => rfl
      | some q => have := (hR.own _ _ hq).2.1; omega
    refine ⟨ρ.put H.next ⟨w.heap.size, 0, 0, none⟩, .pointer (some ⟨w.heap.size, 0, none⟩), w.alloc (.stringIter s 0), Inj.le_put hnone, fun b hb => by simp only [Inj.put]; rw [if_neg (by omega)], ?_, ?_, ?_⟩
    · refine (hR.new (.siter s 0)).laid hR.nxt (Nat.lt_succ_self _) hnone ⟨w.heap.size, 0, 0, none⟩ (.stringIter s 0) rfl ?_
      have hgn : (H.new (.siter s 0)).get H.next = .siter s 0 := AH.get_new_self _ _
      rw [hgn]
      exact ⟨rfl, rfl⟩
    · exact mkPtr_rel (l := ⟨w.heap.size, 0, 0, none⟩) hR.nxt (by simp [Inj.put]) rfl
    · simp [Instr.range, underlying, ht]
  · simp at h

theorem nextS_sound (hR : R P ρ w0 H w) {ty : Nat} {x x' : Value} {H' : AH} (h : nextS x H = some (v, H')) (hx : VRel ρ x x') :
    ∃ w', H'.next = H.next ∧ R P ρ w0 H' w' ∧ VRel ρ v v ∧ (Instr.next x' true ty).run P w = .ok v w' := by
  unfold nextS at h
  split at h
  · rename_i r
    split at h
    · rename_i s pos hg
      cases hx with
      | ptr _ A' ra =>
        rcases ra with ⟨hb, rfl⟩ | ⟨hb, _, l, hl, rfl⟩
        · have := hR.ro _ hb
          simp only at this
          rw [hg] at this; exact this.elim
        · have ho := (hR.own _ _ hl).2.2.2.2
          simp only at ho
          rw [hg] at ho
          obtain ⟨hs0, hobj⟩ := ho
          simp only [hs0, Nat.zero_add]
          have hgo : (getObj l.block).run P w = .ok (.stringIter s pos) w := by simp [getObj, Sem.run, hobj]
          split at h
          · rename_i hpos
            simp only [Option.some.injEq, Prod.mk.injEq] at h
            obtain ⟨rfl, rfl⟩ := h
            have hset : (setObj l.block (.stringIter s (pos + (Utf8.decode s pos).2))).run P w = .ok () (World.setBlk w l.block (.stringIter s (pos + (Utf8.decode s pos).2))) := by
              simp [setObj, Sem.run, hobj, World.setBlk]
            refine ⟨_, rfl, hR.wrote hl (by simp only; rw [hg]; simp) (.siter s (pos + (Utf8.decode s pos).2)) (.stringIter s (pos + (Utf8.decode s pos).2)) ⟨hs0, rfl⟩, (LRel.cons (.bool _) (LRel.cons (.int _ _) (LRel.cons (.int _ _) LRel.nil))).tuple, ?_⟩
            simp only [Instr.next, Sem.run_bind, hgo, Result.andThen_ok, hpos, if_true, hset]
            rfl
          · rename_i hpos
            simp only [Option.some.injEq, Prod.mk.injEq] at h
            obtain ⟨rfl, rfl⟩ := h
            refine ⟨w, rfl, hR, (LRel.cons (.bool _) LRel.nil).tuple, ?_⟩
            simp only [Instr.next, Sem.run_bind, hgo, Result.andThen_ok, hpos, if_false]
            rfl
    · simp at h
  · simp at h

theorem rangeM_sound (hR : R P ρ w0 H w) {t kt et : Nat} {x x' : Value} {obj : AObj} {mkv : Nat → Value} (ht : P.underlying t = some (.map kt et)) (h : rangeM x H = some (obj, mkv)) (hx : VRel ρ x x') :
    ∃ ρ' v' w', ρ.le ρ' ∧ (∀ b, b < H.next → ρ'.loc b = ρ.loc b) ∧ R P ρ' w0 (H.new obj) w' ∧ VRel ρ' (mkv H.next) v' ∧ (Instr.range t x').run P w = .ok v' w' := by
  have hnone : ρ.loc H.next = none := by
    cases hq : ρ.loc H.next with
    | none => rfl
    | some q => have := (hR.own _ _ hq).2.1; omega
  have fin : ∀ (o : AObj) (ob : Obj), ORel ρ ⟨w.heap.size, 0, 0, none⟩ o (some ob) → (Instr.range t x').run P w = .ok (.pointer (some ⟨w.heap.size, 0, none⟩)) (w.alloc ob) → obj = o → mkv = mkPtr →
      ∃ ρ' v' w', ρ.le ρ' ∧ (∀ b, b < H.next → ρ'.loc b = ρ.loc b) ∧ R P ρ' w0 (H.new obj) w' ∧ VRel ρ' (mkv H.next) v' ∧ (Instr.range t x').run P w = .ok v' w' := by
    rintro o ob ho hrun rfl rfl
    refine ⟨ρ.put H.next ⟨w.heap.size, 0, 0, none⟩, .pointer (some ⟨w.heap.size, 0, none⟩), w.alloc ob, Inj.le_put hnone, fun b hb => by simp only [Inj.put]; rw [if_neg (by omega)], ?_, ?_, hrun⟩
    · refine (hR.new obj).laid hR.nxt (Nat.lt_succ_self _) hnone ⟨w.heap.size, 0, 0, none⟩ ob rfl ?_
      rw [AH.get_new_self]
      exact ho
    · exact mkPtr_rel (l := ⟨w.heap.size, 0, 0, none⟩) hR.nxt (by simp [Inj.put]) rfl
  unfold rangeM at h
  split at h
  · simp only [Option.some.injEq, Prod.mk.injEq] at h
    obtain ⟨rfl, rfl⟩ := h
    cases hx
    exact fin (.miter none 0 [] 0) (.mapIter none 0 #[] 0) ⟨rfl, rfl⟩ (by simp [Instr.range, underlying, ht]) rfl rfl
  · rename_i r
    split at h
    · rename_i es cl rw_ hg
      simp only [Option.some.injEq, Prod.mk.injEq] at h
      obtain ⟨rfl, rfl⟩ := h
      cases hx with
      | map _ r' hr =>
        obtain ⟨es', h3, h4, _⟩ := hR.map hr hg
        have h5 := run_getObj_map (P := P) w _ _ _ h3
        exact fin (.miter (some r) cl [] cl) (.mapIter (some r') cl #[] cl) ⟨rfl, r', hr, rfl⟩ (by simp [Instr.range, underlying, ht, h5]) rfl rfl
    · simp at h
  · simp at h

theorem nextM_sound (hR : R P ρ w0 H w) {ty : Nat} {x x' : Value} {K : Value → AH → Prop} (h : nextM x H K) (hx : VRel ρ x x') :
    ∃ v v' H' w', H'.next = H.next ∧ R P ρ w0 H' w' ∧ VRel ρ v v' ∧ (Instr.next x' false ty).run P w = .ok v' w' ∧ K v H' := by
  unfold nextM at h
  split at h
  · rename_i r
    split at h
    · rename_i since seen last hg
      cases hx with
      | ptr _ A' ra =>
        rcases ra with ⟨hb, rfl⟩ | ⟨hb, _, l, hl, rfl⟩
        · have := hR.ro _ hb
          simp only at this
          rw [hg] at this; exact this.elim
        · have ho := (hR.own _ _ hl).2.2.2.2
          simp only at ho
          rw [hg] at ho
          obtain ⟨hs0, hobj⟩ := ho
          simp only [hs0, Nat.zero_add]
          have hgo : (getObj l.block).run P w = .ok (.mapIter none since seen.toArray last) w := by simp [getObj, Sem.run, hobj]
          exact ⟨_, .tuple #[.bool false], H, w, rfl, hR, (LRel.cons (.bool _) LRel.nil).tuple, by simp only [Instr.next, Sem.run_bind, hgo, Result.andThen_ok]; rfl, h⟩
    · rename_i m since seen last hg
      split at h
      · rename_i es cl rw_ hgm
        obtain ⟨hne, hstep, hend⟩ := h
        cases hx with
        | ptr _ A' ra =>
          rcases ra with ⟨hb, rfl⟩ | ⟨hb, _, l, hl, rfl⟩
          · have := hR.ro _ hb
            simp only at this
            rw [hg] at this; exact this.elim
          · have ho := (hR.own _ _ hl).2.2.2.2
            simp only at ho
            rw [hg] at ho
            obtain ⟨hs0, r', hr, hobj⟩ := ho
            obtain ⟨es', h3, h4, _⟩ := hR.map hr hgm
            simp only [hs0, Nat.zero_add]
            have hgo : (getObj l.block).run P w = .ok (.mapIter (some r') since seen.toArray last) w := by simp [getObj, Sem.run, hobj]
            have hgm' := run_getObj_map (P := P) w _ _ _ h3
            have hborn : ∀ e' ∈ es', ∃ e ∈ es, e.born = e'.born ∧ VRel ρ e.key e'.key ∧ VRel ρ e.val e'.val := by
              intro e' he'
              obtain ⟨i, hi, rfl⟩ := Array.getElem_of_mem he'
              have hl' := h4.len
              simp only [Array.length_toList] at hl'
              have hi2 : i < es.length := by omega
              exact ⟨es[i], List.getElem_mem hi2, h4.at_ i _ _ (List.getElem?_eq_getElem hi2) (by simp [hi])⟩
            have hborn2 : ∀ e ∈ es, ∃ e' ∈ es', e.born = e'.born := by
              intro e he
              obtain ⟨i, hi, rfl⟩ := List.getElem_of_mem he
              have hl' := h4.len
              simp only [Array.length_toList] at hl'
              have hi2 : i < es'.size := by omega
              exact ⟨es'[i], Array.getElem_mem hi2, (h4.at_ i _ _ (List.getElem?_eq_getElem hi) (by simp [hi2])).1⟩
            have hguard : (!seen.toArray.isEmpty && !es'.isEmpty && es'.all fun x => decide (x.born ≥ last)) = false := by
              cases hb : (!seen.toArray.isEmpty && !es'.isEmpty && es'.all fun x => decide (x.born ≥ last)) with
              | false => rfl
              | true =>
                exfalso
                simp only [Bool.and_eq_true, Bool.not_eq_true', Array.all_eq_true_iff_forall_mem, decide_eq_true_eq] at hb
                obtain ⟨⟨b1, b2⟩, b3⟩ := hb
                refine hne ⟨by rintro rfl; simp at b1, ?_, ?_⟩
                · rintro rfl
                  have := h4.len
                  simp at this
                  have : es' = #[] := Array.eq_empty_of_size_eq_zero this.symm
                  subst this; simp at b2
                · rw [List.all_eq_true]
                  intro e he
                  obtain ⟨e', he', hbe⟩ := hborn2 e he
                  have := b3 e' he'
                  simp; omega
            generalize hcand : ((if ((es'.filter fun e => !seen.toArray.contains e.born).filter fun x => decide (x.born < since)).isEmpty = true then #[none] else #[]) ++ (((es'.filter fun e => !seen.toArray.contains e.born).filter fun x => decide (x.born < since)) ++ ((es'.filter fun e => !seen.toArray.contains e.born).filter fun x => decide (x.born ≥ since))).map some : Array (Option MapEntry)) = cand
            have hsize : 0 < cand.size := by
              rw [← hcand]
              by_cases he : ((es'.filter fun e => !seen.toArray.contains e.born).filter fun x => decide (x.born < since)).isEmpty = true
              · rw [if_pos he]; simp; omega
              · rw [if_neg he]
                have : 0 < ((es'.filter fun e => !seen.toArray.contains e.born).filter fun x => decide (x.born < since)).size := by
                  rw [Array.isEmpty_iff] at he
                  exact Array.size_pos_iff.2 he
                simp only [Array.size_append, Array.size_map]
                omega
            have hch : ∃ n w1, (choose (.mapNext cand.size)).run P w = .ok n w1 ∧ n < cand.size ∧ R P ρ w0 H w1 ∧ w1.heap = w.heap := by
              by_cases hf : (Question.mapNext cand.size).forced = true
              · exact ⟨0, w, by rw [run_choose, if_pos hf], hsize, hR, rfl⟩
              · exact ⟨_, w.drew, by rw [run_choose, if_neg hf]; rfl, Nat.mod_lt _ hsize, hR.drew, rfl⟩
            obtain ⟨n, w1, hch, hlt, hdrew, hheap⟩ := hch
            have hrun : ∀ (q : Option MapEntry), cand[n]? = some q → (Instr.next (.pointer (some ⟨l.block, 0, none⟩)) false ty).run P w = ((match q with
                | some e => (do setObj l.block (.mapIter (some r') since (seen.toArray.push e.born) cl); pure (.tuple #[.bool true, e.key, e.val]) : Sem Value)
                | none => pure (.tuple #[.bool false])).run P w1) := by
              intro q hq
              simp only [Instr.next, Sem.run_bind, hgo, hgm', Result.andThen_ok, hguard, Bool.false_eq_true, if_false]
              simp only [Sem.run_pure, Sem.run_bind, Result.andThen_ok, hcand, hch, hq]
              cases q <;> rfl
            have hq : cand[n]? = some cand[n] := Array.getElem?_eq_getElem hlt
            have hmem : cand[n] ∈ cand := Array.getElem_mem hlt
            cases hc : cand[n] with
            | none =>
              rw [hc] at hq hmem
              refine ⟨_, .tuple #[.bool false], H, w1, rfl, hdrew, (LRel.cons (.bool _) LRel.nil).tuple, (hrun _ hq).trans rfl, hend fun e he hs => ?_⟩
              apply Classical.byContradiction
              intro hns
              obtain ⟨e', he', hbe⟩ := hborn2 e he
              rw [← hcand] at hmem
              by_cases hemp : ((es'.filter fun e => !seen.toArray.contains e.born).filter fun x => decide (x.born < since)).isEmpty = true
              · rw [Array.isEmpty_iff] at hemp
                have : e' ∈ ((es'.filter fun e => !seen.toArray.contains e.born).filter fun x => decide (x.born < since)) := by
                  simp only [Array.mem_filter, decide_eq_true_eq, Bool.not_eq_true']
                  refine ⟨⟨he', ?_⟩, by omega⟩
                  rw [← hbe]
                  simpa using hns
                rw [hemp] at this
                simp at this
              · rw [if_neg hemp] at hmem
                simp at hmem
            | some e' =>
              rw [hc] at hq hmem
              have he' : e' ∈ es' ∧ e'.born ∉ seen := by
                rw [← hcand] at hmem
                simp only [Array.mem_append, Array.mem_map, Array.mem_filter, Option.some.injEq, exists_eq_right, Bool.not_eq_true', decide_eq_true_eq] at hmem
                rcases hmem with hmem | (⟨⟨g1, g2⟩, _⟩ | ⟨⟨g1, g2⟩, _⟩)
                · exfalso
                  split at hmem <;> simp at hmem
                · exact ⟨g1, by simpa using g2⟩
                · exact ⟨g1, by simpa using g2⟩
              obtain ⟨e, he, hbe, hk, hv⟩ := hborn e' he'.1
              have hset : (setObj l.block (.mapIter (some r') since (seen.toArray.push e'.born) cl)).run P w1 = .ok () (World.setBlk w1 l.block (.mapIter (some r') since (seen.toArray.push e'.born) cl)) := by
                simp [setObj, Sem.run, hheap, hobj, World.setBlk]
              refine ⟨_, .tuple #[.bool true, e'.key, e'.val], H.put r (.miter (some m) since (seen ++ [e.born]) cl), _, rfl, hdrew.wrote hl (by simp only; rw [hg]; simp) (.miter (some m) since (seen ++ [e.born]) cl) (.mapIter (some r') since (seen.toArray.push e'.born) cl) ⟨hs0, r', hr, by rw [hbe]; simp⟩, (LRel.cons (.bool _) (LRel.cons hk (LRel.cons hv LRel.nil))).tuple, ?_, hstep e he (by rw [hbe]; exact he'.2)⟩
              rw [hrun _ hq]
              simp only [Sem.run_bind, hset, Result.andThen_ok]
              rfl
      · exact h.elim
    · exact h.elim
  · exact h.elim

/-- What an operation that changes memory, or a call, leaves. -/
def Post (P : Program) (ρ : Inj) (w0 : World) (n : Nat) (K : Value → AH → Prop) (v' : Value) (w' : World) : Prop :=
  ∃ ρ' v H', ρ.le ρ' ∧ (∀ b, b < n → ρ'.loc b = ρ.loc b) ∧ n ≤ H'.next ∧ R P ρ' w0 H' w' ∧ VRel ρ' v v' ∧ K v H'

def Enters (P : Program) (f : FuncId) : Prop := ∃ fn, P.funcs[f]? = some fn ∧ fn.body.isNone = false ∧ (fn.name == "runtime.NumGoroutine") = false

/-- What a call's contract says of the machine: a function that has a text; one that has none. -/
def Told (P : Program) : CallT := fun f args H K => (Enters P f ∧ ∀ ρ w0 w args', R P ρ w0 H w → LRel ρ args args'.toList →
  Calls P f args' w (fun e w' => ∃ v', e = .returned v' ∧ Post P ρ w0 H.next K v' w')) ∨
  (∀ ρ w0 w args', R P ρ w0 H w → LRel ρ args args'.toList → ∃ v' w', (callFunc f args').run P w = .ok (.value v') w' ∧ Post P ρ w0 H.next K v' w')
def CallOk (P : Program) (call : CallT) : Prop := ∀ f args H K, call f args H K → Told P f args H K

theorem run_callFunc' {f : FuncId} (h : Enters P f) (args : Array Value) (w : World) : (callFunc f args).run P w = .ok (.enter f args) w := by
  obtain ⟨fn, h1, h2, h3⟩ := h
  unfold callFunc
  simp only [Sem.run_bind, run_program, Result.andThen_ok, h1, h2, h3, Bool.false_eq_true, if_false]
  rfl

/-- What the machine's run of an operation comes to. -/
def Comes' (P : Program) (s : Sem Next) (w : World) (Q : Value → World → Prop) : Prop :=
  (∃ v' w', s.run P w = .ok (.value v') w' ∧ Q v' w') ∨ (∃ w', s.run P w = .ok .skip w' ∧ Q undef w') ∨
  (∃ f args w1, s.run P w = .ok (.enter f args) w1 ∧ Calls P f args w1 (fun e w' => ∃ v', e = .returned v' ∧ Q v' w'))

theorem post_same {K : Value → AH → Prop} {v v' : Value} {H' : AH} {w' : World} (hn : H.next ≤ H'.next) (hR : R P ρ w0 H' w') (hv : VRel ρ v v') (hk : K v H') : Post P ρ w0 H.next K v' w' :=
  ⟨ρ, v, H', ρ.le_refl, fun _ _ => rfl, hn, hR, hv, hk⟩

theorem opt2_inv {α β : Type} {o : Option (α × β)} {K : α → β → Prop} (h : opt2 o K) : ∃ x y, o = some (x, y) ∧ K x y := by
  cases o with
  | none => exact h.elim
  | some p => exact ⟨p.1, p.2, rfl, h⟩
theorem opt_inv {α : Type} {o : Option α} {K : α → Prop} (h : opt o K) : ∃ x, o = some x ∧ K x := by
  cases o with
  | none => exact h.elim
  | some p => exact ⟨p, rfl, h⟩
theorem mk_inv {o : Option (AObj × (Nat → Value))} {K : Value → AH → Prop} (h : mk o H K) : ∃ obj m, o = some (obj, m) ∧ K (m H.next) (H.new obj) := by
  cases o with
  | none => exact h.elim
  | some p => exact ⟨p.1, p.2, rfl, h⟩

theorem put_next (b : Nat) (o : AObj) : (H.put b o).next = H.next := rfl
theorem setMap_next {kd : Nat} {m k x : Value} {H' : AH} (h : setMap kd m k x H = some H') : H'.next = H.next := by
  unfold setMap at h
  split at h
  · split at h
    · simp only [Option.map_eq_some_iff] at h
      obtain ⟨q, _, rfl⟩ := h
      split <;> rfl
    · simp at h
  · simp at h
theorem entryM_next {kd : Nat} {z m k : Value} {H' : AH} (h : entryM kd z m k H = some (v, H')) : H'.next = H.next := by
  unfold entryM at h
  split at h
  · split at h
    · simp only [Option.map_eq_some_iff] at h
      obtain ⟨q, _, h⟩ := h
      cases q with
      | none => simp only [Prod.mk.injEq] at h; rw [← h.2]; rfl
      | some p => obtain ⟨i, u⟩ := p; simp only [Prod.mk.injEq] at h; rw [← h.2]; rfl
    · simp at h
  · simp at h
theorem entrySt_next {m s x : Value} {H' : AH} (h : entrySt m s x H = some H') : H'.next = H.next := by
  unfold entrySt at h
  split at h
  · split at h
    · simp only [Option.map_eq_some_iff] at h
      obtain ⟨q, _, rfl⟩ := h
      rfl
    · simp at h
  · simp at h
theorem clearS_next {z : List Value} {x : Value} {H' : AH} (h : clearS z x H = some H') : H'.next = H.next := by
  unfold clearS at h
  split at h
  · simp only [Option.some.injEq] at h; rw [← h]
  · split at h
    · simp only [Option.some.injEq] at h; rw [← h]
    · split at h
      · simp at h
      · split at h
        · rw [Option.ite_none_right_eq_some] at h
          obtain ⟨_, h⟩ := h
          simp only [Option.some.injEq] at h; rw [← h]; rfl
        · simp at h
  · simp at h
theorem clear_sound (hR : R P ρ w0 H w) {ats : Array TypeId} {args : Array Value} {t ty e : Nat} {z x x' : Value} {H' : AH} (h1 : ats[0]? = some t) (h2 : args[0]? = some x') (ht : P.underlying t = some (.slice e)) (hz : zeroOf P e = some z)
    (h : clearS z.cells.toList x H = some H') (hx : VRel ρ x x') : ∃ w', R P ρ w0 H' w' ∧ (Builtin.clear_ ats ty args).run P w = .ok (.tuple #[]) w' := by
  unfold clearS at h
  split at h
  · rename_i n c
    simp only [Option.some.injEq] at h; subst h
    cases hx with
    | snil =>
      refine ⟨w, hR, ?_⟩
      simp only [Builtin.clear_, h1, h2, Sem.run_bind, run_underlying' ht, Result.andThen_ok]
      rfl
  · rename_i a n c
    cases hx with
    | slc _ a' _ _ c' r =>
      split at h
      · simp only [Option.some.injEq] at h; subst h
        refine ⟨w, hR, ?_⟩
        simp only [Builtin.clear_, h1, h2, Sem.run_bind, run_underlying' ht, Result.andThen_ok]
        rfl
      · rename_i m
        split at h
        · simp at h
        · rename_i hs
          simp only [Bool.or_eq_true, Bool.not_eq_true', not_or, Bool.not_eq_true, Option.isSome_eq_false_iff, Option.isNone_iff_eq_none, Bool.not_eq_false] at hs
          obtain ⟨⟨hsp, hlit⟩, hpl⟩ := hs
          split at h
          · rename_i cs fx hg
            rw [Option.ite_none_right_eq_some] at h
            obtain ⟨hfit, h⟩ := h
            simp only [Option.some.injEq] at h; subst h
            have hza : z.cells.toList.toArray = z.cells := by simp
            rw [hza] at *
            have hmem : ∀ v ∈ repl ((m + 1) * z.cells.toList.length) z.cells, v ∈ z.cells.toList := by
              intro v hv
              simp only [repl, Array.toList_map, List.mem_map, Array.toList_range, List.mem_range] at hv
              obtain ⟨i, hi, rfl⟩ := hv
              have hpos : 0 < z.cells.size := by
                apply Nat.pos_of_ne_zero
                intro h0
                simp [h0] at hi
              rw [getElem!_pos z.cells _ (Nat.mod_lt _ hpos)]
              simp
            have hl : LRel ρ (repl ((m + 1) * z.cells.toList.length) z.cells) (repl ((m + 1) * z.cells.toList.length) z.cells) := by
              apply LRel.refl_lit
              rw [List.all_eq_true] at hlit ⊢
              exact fun v hv => hlit v (hmem v hv)
            have hp : (repl ((m + 1) * z.cells.toList.length) z.cells).all plain1 = true := by
              rw [List.all_eq_true] at hpl ⊢
              exact fun v hv => hpl v (hmem v hv)
            rcases r with ⟨ra, rc⟩ | hrest
            · obtain ⟨w1, q1, q2⟩ := hR.stored ra hsp hg 0 (by simpa using hfit) hl hp
              rw [Nat.add_zero] at q1
              rw [add_zero] at q2
              refine ⟨w1, q1, ?_⟩
              have e : (Builtin.zeroCells z.cells (m + 1)).toList = repl ((m + 1) * z.cells.toList.length) z.cells := by simp [Builtin.zeroCells, repl]
              simp only [Builtin.clear_, h1, h2, Sem.run_bind, run_underlying' ht, Result.andThen_ok, run_zero' hz, e, q2]
              rfl
            · rcases hrest with ⟨h1, _⟩ | ⟨h1, _⟩ <;> simp at h1
          · simp at h
  · simp at h
theorem delMap_next {kd : Nat} {m k : Value} {H' : AH} (h : delMap kd m k H = some H') : H'.next = H.next := by
  unfold delMap at h
  split at h
  · simp only [Option.some.injEq] at h; rw [← h]
  · split at h
    · simp only [Option.map_eq_some_iff] at h
      obtain ⟨q, _, rfl⟩ := h
      split <;> rfl
    · simp at h
  · simp at h
theorem store1_next {p x : Value} {H' : AH} (h : store1 p x H = some H') : H'.next = H.next := by
  unfold store1 at h
  split at h
  · split at h
    · simp at h
    · split at h
      · rw [Option.ite_none_right_eq_some] at h
        obtain ⟨_, h⟩ := h
        simp only [Option.some.injEq] at h; rw [← h]; rfl
      · simp at h
  · simp at h
theorem storeN_next {n : Nat} {p x : Value} {H' : AH} (h : storeN n p x H = some H') : H'.next = H.next := by
  unfold storeN at h
  split at h
  · split at h
    · simp at h
    · split at h
      · rw [Option.ite_none_right_eq_some] at h
        obtain ⟨_, h⟩ := h
        simp only [Option.some.injEq] at h; rw [← h]; rfl
      · simp at h
  · simp at h

theorem callV_sound {call : CallT} (hcall : CallOk P call) (hR : R P ρ w0 H w) {f f' : Value} {args : List Value} {args' : Array Value} {K : Value → AH → Prop} (h : callV call f args H K) (hf : VRel ρ f f') (ha : LRel ρ args args'.toList) :
    ∃ d, (Deferred.ofValue f' args').run P w = .ok d w ∧ ((∃ g as, (invoke d.target d.args).run P w = .ok (.enter g as) w ∧ Calls P g as w (fun e w' => ∃ v', e = .returned v' ∧ Post P ρ w0 H.next K v' w')) ∨
      (∃ v' w', (invoke d.target d.args).run P w = .ok (.value v') w' ∧ Post P ρ w0 H.next K v' w')) := by
  unfold callV at h
  split at h
  · rename_i g first cap
    cases hf with
    | func _ f1 f1' c1 c1' e1 r1 e2 r2 =>
      have hrel : LRel ρ (f1 ++ args ++ c1) ((⟨f1'⟩ ++ args' ++ ⟨c1'⟩ : Array Value).toList) := by
        simp only [Array.toList_append]
        exact (LRel.append (LRel.append ⟨e1, r1⟩ ha) ⟨e2, r2⟩)
      refine ⟨_, rfl, ?_⟩
      rcases hcall _ _ _ _ h with ⟨he, hc⟩ | hx
      · refine .inl ⟨g, ⟨f1'⟩ ++ args' ++ ⟨c1'⟩, ?_, hc ρ w0 w _ hR hrel⟩
        show (callFunc g (⟨f1'⟩ ++ args' ++ ⟨c1'⟩)).run P w = _
        exact run_callFunc' he _ w
      · obtain ⟨v', w', h1, h2⟩ := hx ρ w0 w _ hR hrel
        exact .inr ⟨v', w', h1, h2⟩
  · exact h.elim

theorem evM_sound {call : CallT} (hcall : CallOk P call) (hR : R P ρ w0 H w) (hT : TRel ρ T a) {o : Oper} (hok : ∀ x ∈ o.op.operands.toList, opOk P x = true) (hty : opTyOk P o.op = true) {K : Value → AH → Prop} (h : evM P call T o.op H K) :
    Comes' P (execOp a.eval o) w (Post P ρ w0 H.next K) := by
  have hg := hR.glob
  have val : ∀ {s : Sem Value}, execOp a.eval o = (do pure (.value (← s)) : Sem Next) → (∃ v' w', s.run P w = .ok v' w' ∧ Post P ρ w0 H.next K v' w') → Comes' P (execOp a.eval o) w (Post P ρ w0 H.next K) := by
    rintro s hs ⟨v', w', h1, h2⟩
    exact .inl ⟨v', w', by rw [hs]; simp [h1], h2⟩
  have unit : ∀ {s : Sem Unit}, execOp a.eval o = (do s; pure .skip : Sem Next) → (∃ w', s.run P w = .ok () w' ∧ Post P ρ w0 H.next K undef w') → Comes' P (execOp a.eval o) w (Post P ρ w0 H.next K) := by
    rintro s hs ⟨w', h1, h2⟩
    exact .inr (.inl ⟨w', by rw [hs]; simp [h1], h2⟩)
  cases hop : o.op with
  | store t p x =>
    rw [hop] at h hok
    simp only [evM] at h
    have hp := ev_rel hg hT (hok p (by simp [Op.operands]))
    have hx := ev_rel hg hT (hok x (by simp [Op.operands]))
    split at h
    · rename_i n h1 h2
      obtain ⟨H', hs, hk⟩ := opt_inv h
      obtain ⟨w', r1, r2⟩ := storeN_sound hR h2 hs hp hx
      exact unit (by simp only [execOp, hop]) ⟨w', r2, post_same (by rw [storeN_next hs]; exact Nat.le_refl _) r1 (.any _) hk⟩
    · rename_i h1 h2
      obtain ⟨H', hs, hk⟩ := opt_inv h
      obtain ⟨w', r1, r2⟩ := store1_sound hR h2 hs hp hx
      exact unit (by simp only [execOp, hop]) ⟨w', r2, post_same (by rw [store1_next hs]; exact Nat.le_refl _) r1 (.any _) hk⟩
    · exact h.elim
  | mapUpdate t m k x =>
    rw [hop] at h hok
    simp only [evM] at h
    have hm := ev_rel hg hT (hok m (by simp [Op.operands]))
    have hk := ev_rel hg hT (hok k (by simp [Op.operands]))
    have hx := ev_rel hg hT (hok x (by simp [Op.operands]))
    split at h
    · rename_i kt e ht
      split at h
      · rename_i kd hkd
        obtain ⟨H', hs, hk'⟩ := opt_inv h
        obtain ⟨w', r1, r2⟩ := setMap_sound hR ht hkd hs hm hk hx
        exact unit (by simp only [execOp, hop]) ⟨w', r2, post_same (by rw [setMap_next hs]; exact Nat.le_refl _) r1 (.any _) hk'⟩
      · exact h.elim
    · exact h.elim
  | insert t m k x =>
    rw [hop] at h hok
    simp only [evM] at h
    have hm := ev_rel hg hT (hok m (by simp [Op.operands]))
    have hk := ev_rel hg hT (hok k (by simp [Op.operands]))
    have hx := ev_rel hg hT (hok x (by simp [Op.operands]))
    split at h
    · rename_i kt e ht
      split at h
      · rename_i kd hkd
        obtain ⟨H', hs, hk'⟩ := opt_inv h
        obtain ⟨w', r1, r2⟩ := setMap_sound hR ht hkd hs hm hk hx
        exact unit (by simp only [execOp, hop]) ⟨w', r2, post_same (by rw [setMap_next hs]; exact Nat.le_refl _) r1 (.any _) hk'⟩
      · exact h.elim
    · exact h.elim
  | mapEntry t m k =>
    rw [hop] at h hok hty
    simp only [evM] at h
    have hm := ev_rel hg hT (hok m (by simp [Op.operands]))
    have hk := ev_rel hg hT (hok k (by simp [Op.operands]))
    split at h
    · rename_i kt e ht
      split at h
      · rename_i kd z hkd hz
        obtain ⟨v, H', hs, hk'⟩ := opt2_inv h
        have hlz : litV z = true := by simp [opTyOk, ht, hz] at hty; exact hty.2
        obtain ⟨v', w', r1, r2, r3⟩ := entryM_sound hR ht hkd hz hlz hs hm hk
        exact val (by simp only [execOp, hop]) ⟨v', w', r3, post_same (by rw [entryM_next hs]; exact Nat.le_refl _) r1 r2 hk'⟩
      · exact h.elim
    · exact h.elim
  | entryStore t m s x =>
    rw [hop] at h hok
    simp only [evM] at h
    have hm := ev_rel hg hT (hok m (by simp [Op.operands]))
    have hs' := ev_rel hg hT (hok s (by simp [Op.operands]))
    have hx := ev_rel hg hT (hok x (by simp [Op.operands]))
    obtain ⟨H', hs, hk'⟩ := opt_inv h
    obtain ⟨w', r1, r2⟩ := entrySt_sound (t := t) hR hs hm hs' hx
    exact unit (by simp only [execOp, hop]) ⟨w', r2, post_same (by rw [entrySt_next hs]; exact Nat.le_refl _) r1 (.any _) hk'⟩
  | range t x =>
    rw [hop] at h hok
    simp only [evM] at h
    have hx := ev_rel hg hT (hok x (by simp [Op.operands]))
    split at h
    · rename_i ht
      obtain ⟨obj, m, hm, hk'⟩ := mk_inv h
      obtain ⟨ρ', v', w', r1, r2, r3, r4, r5⟩ := rangeS_sound hR ht hm hx
      exact val (by simp only [execOp, hop]) ⟨v', w', r5, ρ', _, _, r1, r2, Nat.le_succ _, r3, r4, hk'⟩
    · rename_i kt et ht
      obtain ⟨obj, m, hm, hk'⟩ := mk_inv h
      obtain ⟨ρ', v', w', r1, r2, r3, r4, r5⟩ := rangeM_sound hR ht hm hx
      exact val (by simp only [execOp, hop]) ⟨v', w', r5, ρ', _, _, r1, r2, Nat.le_succ _, r3, r4, hk'⟩
    · exact h.elim
  | next it b =>
    rw [hop] at h hok
    have hx := ev_rel hg hT (hok it (by simp [Op.operands]))
    cases b with
    | true =>
      simp only [evM] at h
      obtain ⟨v, H', hs, hk'⟩ := opt2_inv h
      obtain ⟨w', r0, r1, r2, r3⟩ := nextS_sound (ty := o.type) hR hs hx
      exact val (by simp only [execOp, hop]) ⟨v, w', r3, post_same (by rw [r0]; exact Nat.le_refl _) r1 r2 hk'⟩
    | false =>
      simp only [evM] at h
      obtain ⟨v, v', H', w', r0, r1, r2, r3, hk'⟩ := nextM_sound (ty := o.type) hR h hx
      exact val (by simp only [execOp, hop]) ⟨v', w', r3, post_same (by rw [r0]; exact Nat.le_refl _) r1 r2 hk'⟩
  | call c =>
    rw [hop] at h hok hty
    simp only [evM, evCallM] at h
    have hargs := args_rel hg hT c.args.toList (fun x hx => hok x (by simp only [Op.operands, Call.operands, Array.toList_append, List.mem_append]; exact .inr hx))
    have hargs' : LRel ρ (c.args.toList.map (ev T)) (c.args.map a.eval).toList := by rw [Array.toList_map]; exact hargs
    have hat : ∀ (i : Nat) x, c.args[i]? = some x → VRel ρ (ev T x) (a.eval x) ∧ (c.args.map a.eval)[i]? = some (a.eval x) := fun i x hx =>
      ⟨ev_rel hg hT (hok x (by simp only [Op.operands, Call.operands, Array.toList_append, List.mem_append]; exact .inr (List.mem_of_getElem? (i := i) (by simpa using hx)))), by simp [hx]⟩
    split at h
    · rename_i g hc
      rcases hcall _ _ _ _ h with ⟨he, hcl⟩ | hx
      · refine .inr (.inr ⟨g, c.args.map a.eval, w, ?_, hcl ρ w0 w _ hR hargs'⟩)
        simp only [execOp, hop, resolve, hc, Act.eval, Deferred.ofValue, Sem.run_bind, Sem.run_pure, Result.andThen_ok, invoke]
        have := run_callFunc' he (c.args.map a.eval) w
        simpa using this
      · obtain ⟨v', w', h1, h2⟩ := hx ρ w0 w _ hR hargs'
        refine .inl ⟨v', w', ?_, h2⟩
        simp only [execOp, hop, resolve, hc, Act.eval, Deferred.ofValue, Sem.run_bind, Sem.run_pure, Result.andThen_ok, invoke]
        simpa using h1
    · rename_i f hnf hc
      have hf := ev_rel hg hT (hok f (by simp only [Op.operands, Call.operands, hc, Array.toList_append, List.mem_append]; exact .inl (by simp)))
      obtain ⟨d, h1, h2⟩ := callV_sound hcall hR h hf hargs'
      rcases h2 with ⟨g, as, h2, h3⟩ | ⟨v', w', h2, h3⟩
      · refine .inr (.inr ⟨g, as, w, ?_, h3⟩)
        simp only [execOp, hop, resolve, hc, Sem.run_bind, h1, Result.andThen_ok]
        exact h2
      · refine .inl ⟨v', w', ?_, h3⟩
        simp only [execOp, hop, resolve, hc, Sem.run_bind, h1, Result.andThen_ok]
        exact h2
    · rename_i hc
      have app_case : ∀ (s x : Operand) (e : Nat) (d2 : TypeDesc) (t t2 : Nat), c.args[0]? = some s → c.args[1]? = some x → c.argTypes[0]? = some t → P.underlying t = some (.slice e) → c.argTypes[1]? = some t2 → P.underlying t2 = some d2 →
          (d2 = .string ∨ ∃ q, d2 = .slice q) → (match sizeO P e, bytesO' P e, zeroOf P e with
            | some z, some b, some zv => match zv.cells.size == z with
              | true => opt2 (app z b (ev T s) (ev T x) H) K
              | false => False
            | _, _, _ => False) → Comes' P (execOp a.eval o) w (Post P ρ w0 H.next K) := by
        intro s x e d2 t t2 hs hx ht1 ht2 ht3 ht4 hd h
        split at h
        · rename_i z b zv hz hb hzv
          split at h
          · rename_i hzz
            obtain ⟨v, H', hap, hk'⟩ := opt2_inv h
            obtain ⟨ρ', v', w', r1, r2, r3, r4, r5, r6⟩ := app_sound (ty := o.type) hR ht1 ht3 (hat 0 s hs).2 (hat 1 x hx).2 ht2 ht4 hd hz hb hzv (eq_of_beq hzz) hap (hat 0 s hs).1 (hat 1 x hx).1
            exact .inl ⟨v', w', by simp [execOp, hop, resolve, hc, invoke, builtin, r6], ρ', v, H', r1, r2, r3, r4, r5, hk'⟩
          · exact h.elim
        · exact h.elim
      split at h
      · rename_i s x e q hs hx hu1 hu2
        simp only [Option.bind_eq_some_iff] at hu1 hu2
        obtain ⟨t, h1, h2⟩ := hu1
        obtain ⟨t2, h3, h4⟩ := hu2
        exact app_case s x e _ t t2 hs hx h1 h2 h3 h4 (.inr ⟨_, rfl⟩) h
      · rename_i s x e hs hx hu1 hu2
        simp only [Option.bind_eq_some_iff] at hu1 hu2
        obtain ⟨t, h1, h2⟩ := hu1
        obtain ⟨t2, h3, h4⟩ := hu2
        exact app_case s x e _ t t2 hs hx h1 h2 h3 h4 (.inl rfl) h
      · exact h.elim
    · rename_i hc
      split at h
      · rename_i d x e hd hx hu1
        simp only [Option.bind_eq_some_iff] at hu1
        obtain ⟨t, h1, h2⟩ := hu1
        split at h
        · rename_i z hz
          obtain ⟨v, H', hcp, hk'⟩ := opt2_inv h
          obtain ⟨w', r0, r1, r2, r3⟩ := copy_sound (ty := o.type) hR h1 (hat 0 d hd).2 (hat 1 x hx).2 h2 hz hcp (hat 0 d hd).1 (hat 1 x hx).1
          exact .inl ⟨v, w', by simp [execOp, hop, resolve, hc, invoke, builtin, r3], post_same (by rw [r0]; exact Nat.le_refl _) r1 r2 hk'⟩
        · exact h.elim
      · exact h.elim
    · rename_i hc
      split at h
      · rename_i m k kt e hm hk hu1
        simp only [Option.bind_eq_some_iff] at hu1
        obtain ⟨t, h1, h2⟩ := hu1
        split at h
        · rename_i kd hkd
          obtain ⟨H', hdl, hk'⟩ := opt_inv h
          obtain ⟨w', r1, r2⟩ := delMap_sound (ty := o.type) hR h1 (hat 0 m hm).2 (hat 1 k hk).2 h2 hkd hdl (hat 0 m hm).1 (hat 1 k hk).1
          exact .inl ⟨.tuple #[], w', by simp [execOp, hop, resolve, hc, invoke, builtin, r2], post_same (by rw [delMap_next hdl]; exact Nat.le_refl _) r1 (.any _) hk'⟩
        · exact h.elim
      · exact h.elim
    · rename_i hc
      split at h
      · rename_i x e hx hu1
        simp only [Option.bind_eq_some_iff] at hu1
        obtain ⟨t, h1, h2⟩ := hu1
        split at h
        · rename_i z hz
          obtain ⟨H', hcl, hk'⟩ := opt_inv h
          obtain ⟨w', r1, r2⟩ := clear_sound (ty := o.type) hR h1 (hat 0 x hx).2 h2 hz hcl (hat 0 x hx).1
          exact .inl ⟨.tuple #[], w', by simp [execOp, hop, resolve, hc, invoke, builtin, r2], post_same (by rw [clearS_next hcl]; exact Nat.le_refl _) r1 (.any _) hk'⟩
        · exact h.elim
      · exact h.elim
    · exact h.elim
  | _ => rw [hop] at h; simp [evM] at h
end
end Go.AM
end
section
/- THE ABSTRACT MACHINE: one operation, as a region carries it out; regions carried out in the text's order. -/
namespace Go.AM
open Go.RowKit (Below)
section
variable {P : Program} {ρ : Inj} {T : Env} {a : Act} {w0 w : World} {H : AH} {call : CallT}

def operOk (P : Program) (N : Nat) (o : Oper) : Bool :=
  o.op.operands.toList.all (opOk P) && opTyOk P o.op && (match o.dst with | some d => decide (d < N) | none => true)

theorem operOk_inv {N : Nat} {o : Oper} (h : operOk P N o = true) : (∀ x ∈ o.op.operands.toList, opOk P x = true) ∧ opTyOk P o.op = true ∧ ∀ d, o.dst = some d → d < N := by
  simp only [operOk, Bool.and_eq_true, List.all_eq_true] at h
  exact ⟨h.1.1, h.1.2, fun d hd => by have := h.2; rw [hd] at this; simpa using this⟩

theorem TRel.put (hT : TRel ρ T a) {d : Option Nat} {v v' : Value} (hd : ∀ x, d = some x → x < a.tmps.size) (hv : VRel ρ v v') : TRel ρ (updO T d v) (a.put d v') := by
  cases d with
  | none => exact hT
  | some d =>
    intro t
    have hlt := hd d rfl
    simp only [updO, upd, Act.put]
    by_cases e : t = d
    · subst e
      simp [hlt]; exact hv
    · simp only [e, if_false]
      have := hT t
      simpa [Array.getElem?_setIfInBounds_ne (Ne.symm e)] using this

theorem put_defers (d : Option Nat) (v : Value) : (a.put d v).defers = a.defers := by cases d <;> rfl
theorem put_size (d : Option Nat) (v : Value) : (a.put d v).tmps.size = a.tmps.size := by cases d <;> simp [Act.put]

theorem gd_want (hT : TRel ρ T a) {ops : Array Oper} {j : Nat} {b : Bool} (h : gval ops.toList T j = .bool b) : yielded ops a.tmps j = some b := by
  unfold gval at h
  unfold yielded
  rw [Array.getElem?_toList] at h
  cases ho : ops[j]? with
  | none => rw [ho] at h; simp [undef] at h
  | some o =>
    rw [ho] at h
    simp only at h
    cases hd : o.dst with
    | none => rw [hd] at h; simp [undef] at h
    | some d =>
      rw [hd] at h
      simp only at h
      have := hT d
      rw [h] at this
      have hv := this.flat rfl
      simp only [Array.getD_eq_getD_getElem?] at hv
      simp only [Option.bind_some, hd]
      cases ht : a.tmps[d]? with
      | none => rw [ht] at hv; simp [undef] at hv
      | some u => rw [ht] at hv; simp at hv; subst hv; rfl

theorem gd_skip_want (hT : TRel ρ T a) {ops : Array Oper} {j : Nat} (h : isSkip (gval ops.toList T j) = true) : yielded ops a.tmps j = none := by
  unfold gval at h
  unfold yielded
  rw [Array.getElem?_toList] at h
  cases ho : ops[j]? with
  | none => rfl
  | some o =>
    rw [ho] at h
    simp only at h
    cases hd : o.dst with
    | none => simp [hd]
    | some d =>
      rw [hd] at h
      simp only at h
      obtain ⟨x, hx⟩ := skip_tuple (hT d) h
      simp only [Array.getD_eq_getD_getElem?] at hx
      simp only [Option.bind_some, hd]
      cases ht : a.tmps[d]? with
      | none => rfl
      | some u => rw [ht] at hx; simp at hx; subst hx; rfl

theorem ifB_inv {v : Value} {A B : Prop} (h : ifB v A B) : (v = .bool true ∧ A) ∨ (v = .bool false ∧ B) := by
  unfold ifB at h
  split at h
  · exact .inl ⟨rfl, h⟩
  · exact .inr ⟨rfl, h⟩
  · exact h.elim

/-- A guard, as the machine sees it. -/
theorem guard_sound (hT : TRel ρ T a) {ops : Array Oper} {o : Oper} {j : Nat} {want : Bool} (hg : o.guard = some (j, want)) {m : (Value → AH → Prop) → Prop} {K : Value → AH → Prop}
    (h : gd (gval ops.toList T j) want m H K) : (Region.wanted o (yielded ops a.tmps) = true ∧ m K) ∨ (Region.wanted o (yielded ops a.tmps) = false ∧ K skipV H) := by
  unfold gd at h
  split at h
  · rename_i hs
    refine .inr ⟨?_, h⟩
    simp only [Region.wanted, hg, gd_skip_want hT hs]
    rfl
  have hw : ∀ b, gval ops.toList T j = .bool b → Region.wanted o (yielded ops a.tmps) = (b == want) := by
    intro b hb
    simp only [Region.wanted, hg, gd_want hT hb]
    cases b <;> cases want <;> rfl
  cases want with
  | true =>
    rcases ifB_inv h with ⟨e, hm⟩ | ⟨e, hk⟩
    · exact .inl ⟨by rw [hw _ e]; rfl, hm⟩
    · exact .inr ⟨by rw [hw _ e]; rfl, hk⟩
  | false =>
    rcases ifB_inv h with ⟨e, hk⟩ | ⟨e, hm⟩
    · exact .inr ⟨by rw [hw _ e]; rfl, hk⟩
    · exact .inl ⟨by rw [hw _ e]; rfl, hm⟩

theorem evA_post (hR : R P ρ w0 H w) (hT : TRel ρ T a) {o : Oper} (hok : ∀ x ∈ o.op.operands.toList, opOk P x = true) (hty : opTyOk P o.op = true) {K : Value → AH → Prop}
    (h : AM.mk (evA P T o.op) H K) : Comes' P (execOp a.eval o) w (Post P ρ w0 H.next K) := by
  obtain ⟨obj, m, hm, hk⟩ := mk_inv h
  have hnone : ρ.loc H.next = none := by
    cases hq : ρ.loc H.next with
    | none => rfl
    | some q => have := (hR.own _ _ hq).2.1; omega
  obtain ⟨ρ', v', w', r1, r2, r3, r4, r5⟩ := evA_sound (hR.new obj) hT hok hty hm hR.nxt (Nat.lt_succ_self _) hnone (AH.get_new_self _ _)
  exact .inl ⟨v', w', r5, ρ', _, _, r1, fun b hb => r2 b (by omega), Nat.le_succ _, r3, r4, hk⟩

theorem runOp_sound (hcall : CallOk P call) (hR : R P ρ w0 H w) (hT : TRel ρ T a) {o : Oper} (hok : ∀ x ∈ o.op.operands.toList, opOk P x = true) (hty : opTyOk P o.op = true) {K : Value → AH → Prop}
    (h : runOp P call T o.op H K) : Comes' P (execOp a.eval o) w (Post P ρ w0 H.next K) := by
  unfold runOp at h
  split at h
  · rename_i v hv
    have : ∃ x, (o.op = .move x ∨ o.op = .assign x) ∧ v = ev T x := by
      unfold moved at hv
      split at hv
      · rename_i x; simp at hv; exact ⟨_, .inl (by assumption), hv.symm⟩
      · rename_i x; simp at hv; exact ⟨_, .inr (by assumption), hv.symm⟩
      · simp at hv
    obtain ⟨x, hx, rfl⟩ := this
    have hr := ev_rel hR.glob hT (hok x (by rcases hx with e | e <;> rw [e] <;> simp [Op.operands]))
    refine .inl ⟨a.eval x, w, ?_, post_same (Nat.le_refl _) hR hr h⟩
    rcases hx with e | e <;> simp [execOp, e]
  · split at h
    · obtain ⟨v, hv, hk⟩ := opt_inv h
      obtain ⟨v', hr, hrun⟩ := evP_sound hR.glob hT hok hty hv
      exact .inl ⟨v', w, hrun w, post_same (Nat.le_refl _) hR hr hk⟩
    · obtain ⟨v, hv, hk⟩ := opt_inv h
      obtain ⟨v', hr, hrun⟩ := evR_sound hR hT hok hty hv
      exact .inl ⟨v', w, hrun, post_same (Nat.le_refl _) hR hr hk⟩
    · exact evA_post hR hT hok hty h
    · exact evM_sound hcall hR hT hok hty h

/-- The machine's state, and what of it was so ahead. -/
structure St (P : Program) (w0 : World) (ρ0 : Inj) (n0 N : Nat) (ρ : Inj) (T : Env) (H : AH) (a : Act) (w : World) : Prop where
  le : ρ0.le ρ
  hole : ∀ b, b < n0 → ρ.loc b = ρ0.loc b
  nn : n0 ≤ H.next
  r : R P ρ w0 H w
  t : TRel ρ T a
  d : a.defers = []
  s : a.tmps.size = N

/-- What an operation hands on. -/
def Nx (P : Program) (w0 : World) (ρ0 : Inj) (n0 N : Nat) (K : Env → AH → Prop) (a : Act) (w : World) : Prop :=
  ∃ ρ T H, St P w0 ρ0 n0 N ρ T H a w ∧ K T H

theorem upon_of_comes {ops : Array Oper} {o : Oper} {next : Act → World → Prop} {Q : Exit → Act → World → Prop} {QV : Value → World → Prop} (h : Comes' P (execOp a.eval o) w QV)
    (hn : ∀ v' w', QV v' w' → next (a.put o.dst v') w') : o.wp P a w next Q := by
  unfold Oper.wp
  rcases h with ⟨v', w', h1, h2⟩ | ⟨w', h1, h2⟩ | ⟨f, args, w1, h1, h2⟩
  · rw [h1]; exact hn _ _ h2
  · rw [h1]; exact hn _ _ h2
  · rw [h1]
    simp only [Oper.upon]
    refine Calls.mono h2 fun e w' he => ?_
    obtain ⟨v', rfl, hq⟩ := he
    exact hn _ _ hq

variable {ρ0 : Inj} {n0 N : Nat}
theorem St.put (h : St P w0 ρ0 n0 N ρ T H a w) {d : Option Nat} (hd : ∀ x, d = some x → x < N) {ρ' : Inj} {v v' : Value} {H' : AH} {w' : World} (hle : ρ.le ρ') (hh : ∀ b, b < H.next → ρ'.loc b = ρ.loc b)
    (hn : H.next ≤ H'.next) (hR : R P ρ' w0 H' w') (hv : VRel ρ' v v') : St P w0 ρ0 n0 N ρ' (updO T d v) H' (a.put d v') w' where
  le := Inj.le_trans h.le hle
  hole b hb := by rw [hh b (Nat.lt_of_lt_of_le hb h.nn)]; exact h.hole b hb
  nn := Nat.le_trans h.nn hn
  r := hR
  t := (h.t.mono hle).put (by rw [h.s]; exact hd) hv
  d := by rw [put_defers]; exact h.d
  s := by rw [put_size]; exact h.s

theorem stepW_sound (hcall : CallOk P call) (h : St P w0 ρ0 n0 N ρ T H a w) {ops : Array Oper} {i : Nat} {o : Oper} (hi : ops[i]? = some o) (ho : operOk P N o = true) {Q : Exit → Act → World → Prop}
    {K : Env → AH → Prop} (hk : stepW P call ops.toList o T H K) {next : Act → World → Prop} (hn : ∀ a w, Nx P w0 ρ0 n0 N K a w → next a w) : wpOp P ops Q i next a w := by
  obtain ⟨hok, hty, hd⟩ := operOk_inv ho
  unfold wpOp
  rw [hi]
  simp only
  have run : runOp P call T o.op H (fun v H' => K (updO T o.dst v) H') → o.wp P a w next Q := fun hr =>
    upon_of_comes (ops := ops) (runOp_sound hcall h.r h.t hok hty hr) (by
      rintro v' w' ⟨ρ', v, H', r1, r2, r3, r4, r5, r6⟩
      exact hn _ _ ⟨ρ', _, H', h.put hd r1 r2 r3 r4 r5, r6⟩)
  unfold stepW at hk
  split at hk
  · rename_i hg
    have : Region.wanted o (yielded ops a.tmps) = true := by simp [Region.wanted, hg]
    rw [this, if_pos rfl]
    exact .inl (run hk)
  · rename_i j want hg
    rcases guard_sound h.t hg hk with ⟨e, hm⟩ | ⟨e, hm⟩
    · rw [e, if_pos rfl]
      exact .inl (run hm)
    · rw [e]
      simp only [Bool.false_eq_true, if_false]
      exact hn _ _ ⟨ρ, _, H, h.put hd ρ.le_refl (fun _ _ => rfl) (Nat.le_refl _) h.r .skip, hm⟩

theorem evOps_sound (hcall : CallOk P call) {ops : Array Oper} (hall : ∀ o ∈ ops.toList, operOk P N o = true) {Q : Exit → Act → World → Prop} {K : Env → AH → Prop}
    (hq : ∀ a w, Nx P w0 ρ0 n0 N K a w → Q .normal a w) : ∀ (l : List Oper) (i : Nat), ops.toList.drop i = l → ∀ (ρ : Inj) (T : Env) (H : AH) (a : Act) (w : World), St P w0 ρ0 n0 N ρ T H a w → evOps P call ops.toList l T H K →
      wpOps P ops Q (List.range' i (ops.size - i)) a w := by
  intro l
  induction l with
  | nil =>
    intro i hl ρ T H a w h hk
    have : ops.size - i = 0 := by
      have := congrArg List.length hl
      simpa using this
    rw [this]
    exact hq _ _ ⟨ρ, T, H, h, hk⟩
  | cons o l ih =>
    intro i hl ρ T H a w h hk
    have hlt : i < ops.size := by
      have := congrArg List.length hl
      simp at this; omega
    have hi : ops[i]? = some o := by
      have := congrArg (·[0]?) hl
      simpa using this
    have hl' : ops.toList.drop (i + 1) = l := by
      rw [← List.drop_drop, hl]; rfl
    obtain ⟨n, hn⟩ : ∃ n, ops.size - i = n + 1 := ⟨ops.size - i - 1, by omega⟩
    rw [hn, List.range'_succ, wpOps_cons]
    have hom : o ∈ ops.toList := List.mem_of_getElem? (i := i) (by simpa using hi)
    refine stepW_sound hcall h hi (hall o hom) hk ?_
    rintro a' w' ⟨ρ', T', H', h', hk'⟩
    have := ih (i + 1) hl' ρ' T' H' a' w' h' hk'
    rwa [show ops.size - (i + 1) = n by omega] at this
end
end Go.AM
end
section
/- THE ABSTRACT MACHINE: an operation looks at its operands alone. -/
namespace Go.AM
section
variable {P : Program} {T T' : Env} {call : CallT}

theorem args_congr {l : List Operand} (h : ∀ x ∈ l, ev T x = ev T' x) : l.map (ev T) = l.map (ev T') := List.map_congr_left h

theorem call_args {c : Call} (h : ∀ x ∈ c.operands, ev T x = ev T' x) : (∀ x ∈ c.args.toList, ev T x = ev T' x) ∧ (∀ f, c.callee = .value f → ev T f = ev T' f) := by
  constructor
  · intro x hx
    exact h x (by simp only [Call.operands]; exact Array.mem_append.2 (.inr (by simpa using hx)))
  · intro f hf
    exact h f (by simp [Call.operands, hf])

theorem evCallP_congr (c : Call) (h : ∀ x ∈ c.operands, ev T x = ev T' x) : evCallP P T c = evCallP P T' c := by
  obtain ⟨ha, _⟩ := call_args h
  have hx : ∀ (i : Nat) x, c.args[i]? = some x → ev T x = ev T' x := fun i x hx => ha x (by simpa using Array.mem_of_getElem? hx)
  unfold evCallP
  rw [args_congr ha]
  cases c.callee with
  | builtin b =>
    cases b <;> try rfl
    simp only
    cases (c.argTypes[0]?).bind P.underlying with
    | none => rfl
    | some d =>
      cases h0 : c.args[0]? with
      | none => cases d <;> rfl
      | some x => have := hx 0 x h0; cases d <;> first | rfl | simp only [this]
  | _ => rfl

theorem parts_congr {ps : Array (Nat × Operand)} (hp : ∀ x ∈ (ps.toList.map fun p => p.2).toArray, ev T x = ev T' x) : (ps.toList.map fun p => (p.1, ev T p.2)) = (ps.toList.map fun p => (p.1, ev T' p.2)) :=
  List.map_congr_left fun p hm => by rw [hp p.2 (by simp; exact ⟨p.1, by simpa using hm⟩)]

theorem optmap_congr {o : Option Operand} (h : ∀ x, o = some x → ev T x = ev T' x) : o.map (ev T) = o.map (ev T') := by
  cases o with
  | none => rfl
  | some x => simp [h x rfl]

theorem moved_congr {op : Op} (h : ∀ x ∈ op.operands, ev T x = ev T' x) : moved T op = moved T' op := by
  unfold moved
  split <;> first | rfl | (rw [h _ (by simp [Op.operands])])

theorem evP_congr {op : Op} (h : ∀ x ∈ op.operands, ev T x = ev T' x) : evP P T op = evP P T' op := by
  cases op <;> simp only [Op.operands] at h <;> simp only [evP]
  case pick c x y => rw [h c (by simp), h x (by simp), h y (by simp)]
  case build t ps => rw [parts_congr h]
  case makeFunc fn first captured =>
    have h1 := args_congr (l := first.toList) (T := T) (T' := T') fun x hx => h x (by simp at hx; simp [hx])
    have h2 := args_congr (l := captured.toList) (T := T) (T' := T') fun x hx => h x (by simp at hx; simp [hx])
    cases fn <;> simp only [evP, h1, h2]
  case call c => exact evCallP_congr c h
  case slice t x lo hi mx =>
    have h0 := h x (by simp)
    rw [h0, optmap_congr (o := lo) (T := T) (T' := T') (fun y hy => h y (by subst hy; simp)), optmap_congr (o := hi) (T := T) (T' := T') (fun y hy => h y (by subst hy; simp)),
      optmap_congr (o := mx) (T := T) (T' := T') (fun y hy => h y (by subst hy; simp))]
  all_goals (first | rfl | (simp_all; done))

theorem evR_congr {op : Op} (h : ∀ x ∈ op.operands, ev T x = ev T' x) (H : AH) : evR P T op H = evR P T' op H := by
  cases op <;> simp only [Op.operands] at h <;> simp only [evR]
  case call c =>
    obtain ⟨ha, _⟩ := call_args h
    have hx : ∀ (i : Nat) x, c.args[i]? = some x → ev T x = ev T' x := fun i x hx => ha x (by simpa using Array.mem_of_getElem? hx)
    cases c.callee with
    | builtin b =>
      cases b <;> try rfl
      cases (c.argTypes[0]?).bind P.underlying with
      | none => rfl
      | some d =>
        cases h0 : c.args[0]? with
        | none => cases d <;> rfl
        | some x => have := hx 0 x h0; cases d <;> first | rfl | simp only [this]
    | _ => rfl
  case slice t x lo hi mx =>
    have h0 := h x (by simp)
    rw [h0, optmap_congr (o := lo) (T := T) (T' := T') (fun y hy => h y (by subst hy; simp)), optmap_congr (o := hi) (T := T) (T' := T') (fun y hy => h y (by subst hy; simp)),
      optmap_congr (o := mx) (T := T) (T' := T') (fun y hy => h y (by subst hy; simp))]
  all_goals (first | rfl | (simp_all; done))

theorem evA_congr {op : Op} (h : ∀ x ∈ op.operands, ev T x = ev T' x) : evA P T op = evA P T' op := by
  cases op <;> simp only [Op.operands] at h
  case buildSlice t n ps => simp only [evA]; rw [parts_congr h]
  case makeMap t r =>
    cases r with
    | none => rfl
    | some x => simp only [evA]; rw [h x (by simp)]
  all_goals simp only [evA]
  all_goals (first | rfl | (simp_all; done))

theorem evM_congr {op : Op} (h : ∀ x ∈ op.operands, ev T x = ev T' x) (H : AH) (K : Value → AH → Prop) : evM P call T op H K = evM P call T' op H K := by
  cases op <;> simp only [Op.operands] at h
  case call c =>
    simp only [evM]
    obtain ⟨ha, hf⟩ := call_args h
    have hx : ∀ (i : Nat) x, c.args[i]? = some x → ev T x = ev T' x := fun i x hx => ha x (by simpa using Array.mem_of_getElem? hx)
    unfold evCallM
    rw [args_congr ha]
    cases hc : c.callee with
    | value f => have e := hf f hc; cases f <;> simp only [e]
    | invoke r m => rfl
    | builtin b =>
      cases h0 : c.args[0]? with
      | none => cases b <;> rfl
      | some x =>
        have e0 := hx 0 x h0
        cases h1 : c.args[1]? with
        | none =>
          cases (c.argTypes[0]?).bind P.underlying with
          | none => cases b <;> rfl
          | some d => cases b <;> first | rfl | (cases d <;> first | rfl | simp only [e0])
        | some y =>
          have e1 := hx 1 y h1
          cases (c.argTypes[0]?).bind P.underlying with
          | none => cases b <;> rfl
          | some d =>
            cases (c.argTypes[1]?).bind P.underlying with
            | none => cases b <;> first | rfl | (cases d <;> first | rfl | simp only [e0, e1])
            | some d2 => cases b <;> first | rfl | (cases d <;> first | rfl | (simp only [e0, e1]; done) | (cases d2 <;> first | rfl | (simp only [e0, e1]; done)))
  case next it b => cases b <;> simp only [evM] <;> rw [h it (by simp)]
  all_goals simp only [evM]
  all_goals (first | rfl | (simp_all; done))

theorem runOp_congr {op : Op} (h : ∀ x ∈ op.operands, ev T x = ev T' x) (H : AH) (K : Value → AH → Prop) : runOp P call T op H K = runOp P call T' op H K := by
  unfold runOp
  rw [moved_congr h, evP_congr h, evR_congr h, evA_congr h, evM_congr h]

/-- A look into memory is the same behind an allocation. -/
theorem evR_new {op : Op} {H : AH} {v : Value} (o : AObj) (h : evR P T op H = some v) : evR P T op (H.new o) = some v := by
  have g : ∀ b, H.get b ≠ .dead → (H.new o).get b = H.get b := fun b hb => AH.get_new_ne _ _ (by have := AH.lt_of_get hb; omega)
  have row : ∀ b i n l, (H.get b).row i n = some l → (H.new o).get b = H.get b := fun b i n l hl => g b (by intro e; rw [e] at hl; simp [AObj.row] at hl)
  have cell : ∀ b i l, (H.get b).cell i = some l → (H.new o).get b = H.get b := fun b i l hl => g b (by intro e; rw [e] at hl; simp [AObj.cell] at hl)
  have ent : ∀ m es, entriesOf m H = some es → entriesOf m (H.new o) = some es := by
    intro m es hm
    unfold entriesOf at hm ⊢
    split at hm
    · exact hm
    · rename_i r
      split at hm
      · rename_i es' c b hg
        rw [g r (by rw [hg]; simp), hg]; exact hm
      · simp at hm
    · simp at hm
  unfold evR at h ⊢
  split at h
  · split at h
    · simp only [loadN] at h ⊢
      split at h
      · split at h
        · simp at h
        · rename_i hs
          rw [if_neg hs]
          rw [Option.map_eq_some_iff] at h
          obtain ⟨l, hl, e⟩ := h
          rw [row _ _ _ _ hl, hl, ← e]; rfl
      · simp at h
    · simp only [load1] at h ⊢
      split at h
      · split at h
        · simp at h
        · rename_i hs
          rw [if_neg hs, cell _ _ _ h]; exact h
      · simp at h
    · simp at h
  · split at h
    · split at h
      · unfold look at h ⊢
        rw [Option.bind_eq_some_iff] at h
        obtain ⟨es, he, h⟩ := h
        rw [ent _ _ he]; exact h
      · simp at h
    · simp at h
  · split at h
    · split at h
      · unfold strOf at h ⊢
        split at h
        · exact h
        · split at h
          · rename_i hz
            rw [if_pos hz]; exact h
          rename_i hz
          rw [if_neg hz]
          split at h
          · simp at h
          · rename_i hs
            rw [if_neg hs]
            rw [Option.bind_eq_some_iff] at h
            obtain ⟨l, hl, h⟩ := h
            rw [row _ _ _ _ hl, hl]; exact h
        · simp at h
      · simp at h
    · simp at h
  · split at h
    · split at h
      · unfold slSlc at h ⊢
        split at h
        · exact h
        · rename_i a n c _
          by_cases hc : c = 0
          · subst hc
            simp only [beq_self_eq_true, Bool.true_or] at h ⊢
            exact h
          have : (H.new o).get a.block = H.get a.block := g _ (by intro e; rw [e] at h; simp [fits, hc] at h)
          rw [this]; exact h
        · simp at h
      · simp at h
    · simp at h
  · split at h
    · unfold lenMap at h ⊢
      split at h
      · exact h
      · rename_i r _
        split at h
        · rename_i es' c b hg
          rw [g r (by rw [hg]; simp), hg]; exact h
        · simp at h
      · simp at h
    · simp at h
  · unfold entryR at h ⊢
    split at h
    · rename_i r _
      split at h
      · rename_i m since seen last hg
        rw [g r (by rw [hg]; simp), hg]
        simp only
        split at h
        · rename_i stamp hst
          try simp only [hst]
          split at h
          · rename_i es cl rw_ hgm
            rw [g m (by rw [hgm]; simp), hgm]; exact h
          · simp at h
        · simp at h
      · simp at h
    · simp at h
  · simp at h
end
end Go.AM
end
section
/- THE ABSTRACT MACHINE: a region that draws its order: what 'drawOk' says. -/
namespace Go.AM
open Go.RowKit (Below)
section
variable {P : Program}

theorem inRd_no {d : Option Nat} {l : List Nat} (h : inRd d l = false) (x : Nat) (hx : d = some x) : x ∉ l := by
  subst hx
  intro hm
  simp only [inRd] at h
  rw [List.contains_iff_mem.2 hm] at h
  exact Bool.noConfusion h
theorem sameDst_no {a b : Option Nat} (h : sameDst a b = false) (x : Nat) (hx : a = some x) : b ≠ some x := by
  subst hx
  rintro rfl
  simp [sameDst] at h

/-- What is known of an operation, and of what stands ahead of it in the order. -/
structure Fair (P : Program) (ops : List Oper) (l0 pre : List (Nat × Nat)) (i B : Nat) (o : Oper) : Prop where
  at_ : ops[i]? = some o
  deps : ∀ e ∈ depsOf o, ∃ p ∈ pre, p.1 = e
  mask : ∀ x, B.testBit x = true → ∃ e ∈ depsOf o, e = x ∨ (maskOf l0 e).testBit x = true
  new : ∀ p ∈ pre, p.1 ≠ i
  muts : ∀ p ∈ pre, ∀ oj, ops[p.1]? = some oj → isM P oj = true → B.testBit p.1 = true
  dst : ∀ p ∈ pre, ∀ oj, ops[p.1]? = some oj → ∀ t, oj.dst = some t → o.dst ≠ some t
  ord : ∀ p ∈ pre, ∀ oj, ops[p.1]? = some oj → B.testBit p.1 = true ∨ ((∀ t, oj.dst = some t → t ∉ reads ops o) ∧ (∀ t, o.dst = some t → t ∉ reads ops oj))
  nosel : ∀ cs b, o.op ≠ .select cs b

theorem fold_mask {l0 : List (Nat × Nat)} {x : Nat} : ∀ (l : List Nat) (s : Nat), (l.foldl (fun s e => s ||| 2 ^ e ||| maskOf l0 e) s).testBit x = true → s.testBit x = true ∨ ∃ e ∈ l, e = x ∨ (maskOf l0 e).testBit x = true := by
  intro l
  induction l with
  | nil => intro s h; exact .inl h
  | cons e l ih =>
    intro s h
    rcases ih _ h with h | ⟨e', he', h⟩
    · simp only [Nat.testBit_or, Bool.or_eq_true, Nat.testBit_two_pow, decide_eq_true_eq] at h
      rcases h with (h | h) | h
      · exact .inl h
      · exact .inr ⟨e, by simp, .inl h⟩
      · exact .inr ⟨e, by simp, .inr h⟩
    · exact .inr ⟨e', by simp [he'], h⟩

theorem drawGo_fair {ops : List Oper} {l0 : List (Nat × Nat)} : ∀ (suf pre : List (Nat × Nat)) (d : List Done) (done muts : Nat),
    (∀ p ∈ pre, ∀ oj, ops[p.1]? = some oj → (⟨p.1, oj.dst, reads ops oj⟩ : Done) ∈ d) → d.length = pre.length →
    (∀ x, done.testBit x = true ↔ ∃ p ∈ pre, p.1 = x) →
    (∀ p ∈ pre, ∀ oj, ops[p.1]? = some oj → isM P oj = true → muts.testBit p.1 = true) →
    drawGo P ops l0 suf d done muts = true →
    (∀ p1 i B s1, suf = p1 ++ (i, B) :: s1 → ∃ o, Fair P ops l0 (pre ++ p1) i B o) ∧ pre.length + suf.length = ops.length ∧ ∀ i, i < ops.length → ∃ p ∈ pre ++ suf, p.1 = i := by
  intro suf
  induction suf with
  | nil =>
    intro pre d done muts hd hl hdone hm h
    simp only [drawGo, Bool.and_eq_true, beq_iff_eq, List.all_eq_true, List.mem_range] at h
    refine ⟨fun p1 i B s1 h => by simp at h, by simp; omega, fun i hi => ?_⟩
    obtain ⟨p, hp, e⟩ := (hdone i).1 (h.2 i hi)
    exact ⟨p, by simp [hp], e⟩
  | cons q suf ih =>
    obtain ⟨i, B⟩ := q
    intro pre d done muts hd hl hdone hm h
    simp only [drawGo] at h
    cases ho : ops[i]? with
    | none => rw [ho] at h; simp at h
    | some o =>
      rw [ho] at h
      simp only [Bool.and_eq_true, Bool.not_eq_true', List.all_eq_true, Bool.or_eq_true] at h
      obtain ⟨⟨⟨⟨⟨⟨h1, h2⟩, h3⟩, h4⟩, h5⟩, h6⟩, h7⟩ := h
      have hF : Fair P ops l0 pre i B o := by
        refine ⟨ho, fun e he => (hdone e).1 (h2 e he), ?_, ?_, ?_, ?_, ?_, ?_⟩
        · intro x hx
          rw [eq_of_beq h3] at hx
          rcases fold_mask _ _ hx with h | h
          · simp at h
          · exact h
        · rintro p hp rfl
          rw [(hdone p.1).2 ⟨p, hp, rfl⟩] at h1; exact Bool.noConfusion h1
        · intro p hp oj hj hmj
          have := congrArg (·.testBit p.1) (eq_of_beq h4)
          simp only [Nat.testBit_and] at this
          rw [hm p hp oj hj hmj] at this
          simpa using this
        · intro p hp oj hj t ht
          have := (h5 _ (hd p hp oj hj)).1
          exact sameDst_no (by simpa using this) t ht
        · intro p hp oj hj
          rcases (h5 _ (hd p hp oj hj)).2 with h | h
          · exact .inl h
          · simp only [Bool.or_eq_false_iff] at h
            exact .inr ⟨inRd_no h.1, inRd_no h.2⟩
        · intro cs b e
          rw [e] at h6; exact Bool.noConfusion h6
      obtain ⟨r1, r2, r3⟩ := ih (pre ++ [(i, B)]) _ _ _ (by
          intro p hp oj hj
          rcases List.mem_append.1 hp with hp | hp
          · exact List.mem_cons_of_mem _ (hd p hp oj hj)
          · simp only [List.mem_singleton] at hp; subst hp
            rw [ho] at hj; simp only [Option.some.injEq] at hj; subst hj
            exact List.mem_cons_self) (by simp [hl]) (by
          intro x
          simp only [Nat.testBit_or, Bool.or_eq_true, Nat.testBit_two_pow, decide_eq_true_eq, hdone x]
          constructor
          · rintro (⟨p, hp, e⟩ | e)
            · exact ⟨p, by simp [hp], e⟩
            · exact ⟨(i, B), by simp, e⟩
          · rintro ⟨p, hp, e⟩
            rcases List.mem_append.1 hp with hp | hp
            · exact .inl ⟨p, hp, e⟩
            · simp only [List.mem_singleton] at hp; subst hp; exact .inr e) (by
          intro p hp oj hj hmj
          rcases List.mem_append.1 hp with hp | hp
          · split
            · rw [Nat.testBit_or, hm p hp oj hj hmj]; rfl
            · exact hm p hp oj hj hmj
          · simp only [List.mem_singleton] at hp; subst hp
            rw [ho] at hj; simp only [Option.some.injEq] at hj; subst hj
            rw [hmj]
            simp [Nat.testBit_or, Nat.testBit_two_pow]) h7
      refine ⟨?_, by simp at r2 ⊢; omega, by simpa using r3⟩
      intro p1 j B' s1 he
      cases p1 with
      | nil =>
        simp only [List.nil_append, List.cons.injEq, Prod.mk.injEq] at he
        obtain ⟨⟨rfl, rfl⟩, rfl⟩ := he
        exact ⟨o, by simpa using hF⟩
      | cons z p1 =>
        simp only [List.cons_append, List.cons.injEq] at he
        obtain ⟨rfl, he⟩ := he
        obtain ⟨o', ho'⟩ := r1 p1 j B' s1 he
        exact ⟨o', by simpa using ho'⟩

/-- What 'drawOk' says. -/
structure Draw (P : Program) (ops : List Oper) (l0 : List (Nat × Nat)) : Prop where
  fair : ∀ pre i B suf, l0 = pre ++ (i, B) :: suf → ∃ o, Fair P ops l0 pre i B o
  len : l0.length = ops.length
  all : ∀ i, i < ops.length → ∃ p ∈ l0, p.1 = i

theorem drawOk_draw {ops : List Oper} {l0 : List (Nat × Nat)} (h : drawOk P ops l0 = true) : Draw P ops l0 := by
  obtain ⟨h1, h2, h3⟩ := drawGo_fair l0 [] [] 0 0 (by simp) rfl (by simp) (by simp) h
  exact ⟨fun pre i B suf e => by simpa using h1 pre i B suf e, by simpa using h2, by simpa using h3⟩

section
variable {ops : List Oper} {l0 : List (Nat × Nat)} (D : Draw P ops l0)
include D
/-- Two places of the order with one number are one. -/
theorem Draw.one {p q : Nat × Nat} (hp : p ∈ l0) (hq : q ∈ l0) (e : p.1 = q.1) : p = q := by
  obtain ⟨s, t, hs⟩ := List.append_of_mem hp
  have hp2 := hq
  rw [hs] at hq
  rcases List.mem_append.1 hq with h | h
  · obtain ⟨o, F⟩ := D.fair s p.1 p.2 t hs
    exact absurd e.symm (F.new q h)
  · rcases List.mem_cons.1 h with h | h
    · exact h.symm
    · obtain ⟨s', t', ht⟩ := List.append_of_mem h
      obtain ⟨o, F⟩ := D.fair (s ++ p :: s') q.1 q.2 t' (by rw [hs, ht]; simp)
      exact absurd e (F.new p (by simp))
theorem Draw.mask {i B : Nat} (h : (i, B) ∈ l0) : maskOf l0 i = B := by
  have : ∀ l : List (Nat × Nat), (∀ p ∈ l, p ∈ l0) → (i, B) ∈ l → maskOf l i = B := by
    intro l
    induction l with
    | nil => intro _ h; simp at h
    | cons q l ih =>
      intro hs hm
      unfold maskOf
      split
      · rename_i e
        have := D.one (hs q (by simp)) h (eq_of_beq e)
        rw [this]
      · rename_i e
        rcases List.mem_cons.1 hm with hm | hm
        · rw [← hm] at e; simp at e
        · exact ih (fun p hp => hs p (by simp [hp])) hm
  exact this l0 (fun _ h => h) h
/-- Who writes a slot. -/
theorem Draw.writer {p q : Nat × Nat} (hp : p ∈ l0) (hq : q ∈ l0) {o o' : Oper} (ho : ops[p.1]? = some o) (ho' : ops[q.1]? = some o') {t : Nat} (ht : o.dst = some t) (ht' : o'.dst = some t) : p = q := by
  obtain ⟨s, r, hs⟩ := List.append_of_mem hp
  rw [hs] at hq
  rcases List.mem_append.1 hq with h | h
  · obtain ⟨o2, F⟩ := D.fair s p.1 p.2 r hs
    have := F.at_; rw [ho] at this; simp only [Option.some.injEq] at this; subst this
    exact absurd ht (F.dst q h o' ho' t ht')
  · rcases List.mem_cons.1 h with h | h
    · exact h.symm
    · obtain ⟨s', t', ht2⟩ := List.append_of_mem h
      obtain ⟨o2, F⟩ := D.fair (s ++ p :: s') q.1 q.2 t' (by rw [hs, ht2]; simp)
      have := F.at_; rw [ho'] at this; simp only [Option.some.injEq] at this; subst this
      exact absurd ht' (F.dst p (by simp) o ho t ht)
end

theorem mem_reads {ops : List Oper} {o : Oper} {x : Operand} {t : Nat} (hx : x ∈ o.op.operands) (e : x = .tmp t) : t ∈ reads ops o := by
  subst e
  refine List.mem_append_left _ (List.mem_flatMap.2 ⟨.tmp t, by simpa using hx, ?_⟩)
  simp [optSlot]
theorem ev_reads {ops : List Oper} {o : Oper} {T T' : Env} (h : ∀ t ∈ reads ops o, T t = T' t) : ∀ x ∈ o.op.operands, ev T x = ev T' x := by
  intro x hx
  cases x with
  | tmp t => exact h t (mem_reads hx rfl)
  | _ => rfl
theorem gval_reads {ops : List Oper} {o : Oper} {T T' : Env} (h : ∀ t ∈ reads ops o, T t = T' t) {j : Nat} {b : Bool} (hg : o.guard = some (j, b)) : gval ops T j = gval ops T' j := by
  unfold gval
  cases hj : ops[j]? with
  | none => rfl
  | some oj =>
    simp only
    cases hd : oj.dst with
    | none => rfl
    | some d => exact h d (List.mem_append_right _ (by simp [hg, hj, hd]))
end
end Go.AM
end
section
/- THE ABSTRACT MACHINE: a region that draws its order: what is so while it is carried out. -/
namespace Go.AM
open Go.RowKit (Below)
section
variable {P : Program} {w0 : World} {ρ0 : Inj} {n0 N : Nat} {call : CallT} {ops : Array Oper} {l0 : List (Nat × Nat)}

def Lst (listed : Array Bool) (i : Nat) : Prop := listed.getD i false = true

/-- An operation that the abstract run has behind it, and the machine ahead of it. -/
def Pend (P : Program) (n0 : Nat) (ops : List Oper) (H : AH) (ps : List (Nat × (AH → Prop))) (ρ : Inj) (bl : Option Nat) (i : Nat) (o : Oper) (Ti : Env) (v : Value) : Prop :=
  (bl = none ∧ v = skipV ∧ ∃ j want, o.guard = some (j, want) ∧ skips (gval ops Ti j) want) ∨
  ((∀ j want, o.guard = some (j, want) → gval ops Ti j = .bool want) ∧
    ((bl = none ∧ moved Ti o.op = some v) ∨ (bl = none ∧ evP P Ti o.op = some v) ∨
     (bl = none ∧ evR P Ti o.op H = some v ∧ ∃ c, (i, c) ∈ ps ∧ ∀ Hx, c Hx → evR P Ti o.op Hx = some v) ∨
     (∃ b obj m, bl = some b ∧ evA P Ti o.op = some (obj, m) ∧ v = m b ∧ H.get b = obj ∧ ρ.loc b = none ∧ ρ.base ≤ b ∧ n0 ≤ b ∧ b < H.next ∧ ∃ c, (i, c) ∈ ps ∧ ∀ Hx, c Hx → Hx.get b = obj)))

structure Inv (P : Program) (w0 : World) (ρ0 : Inj) (n0 N : Nat) (ops : Array Oper) (l0 pre l : List (Nat × Nat)) (ps : List (Nat × (AH → Prop))) (T0 T : Env) (H : AH) (ρ : Inj) (TS : Env) (bl : Nat → Option Nat)
    (listed : Array Bool) (a : Act) (w : World) : Prop where
  split : l0 = pre ++ l
  size : listed.size = ops.size
  later : ∀ p ∈ l, ¬ Lst listed p.1
  muts : ∀ p ∈ pre, ∀ o, ops.toList[p.1]? = some o → isM P o = true → Lst listed p.1
  closed : ∀ p ∈ l0, Lst listed p.1 → ∀ x, p.2.testBit x = true → Lst listed x
  st : St P w0 ρ0 n0 N ρ TS H a w
  ts1 : ∀ t, ∀ p ∈ pre, ∀ o, ops.toList[p.1]? = some o → o.dst = some t → ¬ Lst listed p.1 → TS t = T0 t
  ts2 : ∀ t, (∀ p ∈ pre, ∀ o, ops.toList[p.1]? = some o → o.dst = some t → Lst listed p.1) → TS t = T t
  t0 : ∀ t, (∀ p ∈ pre, ∀ o, ops.toList[p.1]? = some o → o.dst ≠ some t) → T t = T0 t
  pend : ∀ pr i B sf o, pre = pr ++ (i, B) :: sf → ¬ Lst listed i → ops.toList[i]? = some o → ∃ Ti v, (∀ d, o.dst = some d → T d = v) ∧
    (∀ t, (∀ p ∈ pr, ∀ oj, ops.toList[p.1]? = some oj → oj.dst ≠ some t) → Ti t = T0 t) ∧ (∀ t, ∀ p ∈ pr, ∀ oj, ops.toList[p.1]? = some oj → oj.dst = some t → Ti t = T t) ∧
    Pend P n0 ops.toList H ps ρ (bl i) i o Ti v
  inj : ∀ i j b, bl i = some b → bl j = some b → i = j
  fresh : ∀ i b, bl i = some b → b < H.next

section
variable (D : Draw P ops.toList l0) {pre l : List (Nat × Nat)} {ps : List (Nat × (AH → Prop))} {T0 T TS : Env} {H : AH} {ρ : Inj} {bl : Nat → Option Nat} {listed : Array Bool} {a : Act} {w : World}
  (I : Inv P w0 ρ0 n0 N ops l0 pre l ps T0 T H ρ TS bl listed a w)
include D I

/-- What is ready has all ahead of it that must be. -/
theorem Inv.ahead {pr sf : List (Nat × Nat)} {i B : Nat} {o : Oper} (hs : l0 = pr ++ (i, B) :: sf) (F : Fair P ops.toList l0 pr i B o) (hd : ∀ e ∈ depsOf o, Lst listed e) : ∀ x, B.testBit x = true → Lst listed x := by
  intro x hx
  obtain ⟨e, he, h⟩ := F.mask x hx
  rcases h with rfl | h
  · exact hd e he
  · obtain ⟨q, hq, rfl⟩ := F.deps e he
    have hq0 : q ∈ l0 := by rw [hs]; simp [hq]
    rw [D.mask (i := q.1) (B := q.2) hq0] at h
    exact I.closed q hq0 (hd _ he) x h

/-- What an operation of the front reads is what it read in the abstract run. -/
theorem Inv.reads_pend {pr sf : List (Nat × Nat)} {i B : Nat} {o : Oper} (hs : pre = pr ++ (i, B) :: sf) (F : Fair P ops.toList l0 pr i B o) (hi : ¬ Lst listed i) (hd : ∀ e ∈ depsOf o, Lst listed e)
    {Ti : Env} (h0 : ∀ t, (∀ p ∈ pr, ∀ oj, ops.toList[p.1]? = some oj → oj.dst ≠ some t) → Ti t = T0 t) (h1 : ∀ t, ∀ p ∈ pr, ∀ oj, ops.toList[p.1]? = some oj → oj.dst = some t → Ti t = T t) :
    ∀ t ∈ reads ops.toList o, Ti t = TS t := by
  intro t ht
  have hs0 : l0 = pr ++ (i, B) :: (sf ++ l) := by rw [I.split, hs]; simp
  have hB := I.ahead D hs0 F hd
  have hin : ∀ p ∈ pre, p ∈ l0 := fun p hp => by rw [I.split]; simp [hp]
  by_cases h : ∃ p ∈ pr, ∃ oj, ops.toList[p.1]? = some oj ∧ oj.dst = some t
  · obtain ⟨p, hp, oj, ho, hdt⟩ := h
    rw [h1 t p hp oj ho hdt]
    refine (I.ts2 t fun q hq o' ho' hdt' => ?_).symm
    have := D.writer (hin q hq) (hin p (by rw [hs]; simp [hp])) ho' ho hdt' hdt
    subst this
    rcases F.ord q hp oj ho with h | h
    · exact hB _ h
    · exact absurd ht (h.1 t hdt)
  · have hno : ∀ p ∈ pr, ∀ oj, ops.toList[p.1]? = some oj → oj.dst ≠ some t := fun p hp oj ho hdt => h ⟨p, hp, oj, ho, hdt⟩
    rw [h0 t hno]
    by_cases h' : ∃ p ∈ pre, ∃ oj, ops.toList[p.1]? = some oj ∧ oj.dst = some t
    · obtain ⟨p, hp, oj, ho, hdt⟩ := h'
      refine (I.ts1 t p hp oj ho hdt ?_).symm
      rw [hs] at hp
      rcases List.mem_append.1 hp with hp' | hp'
      · exact absurd hdt (hno p hp' oj ho)
      · rcases List.mem_cons.1 hp' with rfl | hp'
        · exact hi
        · obtain ⟨s, r, hr⟩ := List.append_of_mem hp'
          obtain ⟨o2, F2⟩ := D.fair (pr ++ (i, B) :: s) p.1 p.2 (r ++ l) (by rw [hs0, hr]; simp)
          have := F2.at_; rw [ho] at this; simp only [Option.some.injEq] at this; subst this
          intro hl
          rcases F2.ord (i, B) (by simp) o F.at_ with h | h
          · exact hi (I.closed p (hin p (by rw [hs]; simp [hp'])) hl _ h)
          · exact h.2 t hdt ht
    · have hno' : ∀ p ∈ pre, ∀ oj, ops.toList[p.1]? = some oj → oj.dst ≠ some t := fun p hp oj ho hdt => h' ⟨p, hp, oj, ho, hdt⟩
      rw [I.ts2 t (fun p hp oj ho hdt => absurd hdt (hno' p hp oj ho)), I.t0 t hno']

/-- What the operation at the head reads is what the abstract run has. -/
theorem Inv.reads_head {l' : List (Nat × Nat)} {i B : Nat} {o : Oper} (hl : l = (i, B) :: l') (F : Fair P ops.toList l0 pre i B o) (hd : ∀ e ∈ depsOf o, Lst listed e) : ∀ t ∈ reads ops.toList o, T t = TS t := by
  intro t ht
  have hB := I.ahead D (by rw [I.split, hl]) F hd
  refine (I.ts2 t fun q hq o' ho' hdt' => ?_).symm
  rcases F.ord q hq o' ho' with h | h
  · exact hB _ h
  · exact absurd ht (h.1 t hdt')
end

/-- An operation as a region carries it out; what comes of it. -/
def stepV (P : Program) (call : CallT) (ops : List Oper) (o : Oper) (T : Env) (H : AH) (KV : Value → AH → Prop) : Prop :=
  match o.guard with
  | none => runOp P call T o.op H KV
  | some (j, want) => gd (gval ops T j) want (runOp P call T o.op H) H KV
theorem stepW_stepV {ops : List Oper} {o : Oper} {T : Env} {H : AH} {K : Env → AH → Prop} (h : stepW P call ops o T H K) : stepV P call ops o T H (fun v H' => K (updO T o.dst v) H') := h
theorem stepV_congr {ops : List Oper} {o : Oper} {T T' : Env} {H : AH} {KV : Value → AH → Prop} (h : ∀ t ∈ reads ops o, T t = T' t) : stepV P call ops o T H KV = stepV P call ops o T' H KV := by
  unfold stepV
  split
  · rw [runOp_congr (ev_reads h)]
  · rename_i j want hg
    rw [gval_reads h hg]
    congr 1
    funext K
    rw [runOp_congr (ev_reads h)]

theorem stepV_sound (hcall : CallOk P call) {ρ : Inj} {T : Env} {H : AH} {a : Act} {w : World} (hR : R P ρ w0 H w) (hT : TRel ρ T a) {i : Nat} {o : Oper} (hi : ops[i]? = some o) (ho : operOk P N o = true) {Q : Exit → Act → World → Prop}
    {KV : Value → AH → Prop} (hk : stepV P call ops.toList o T H KV) {next : Act → World → Prop}
    (hn : ∀ v' w', Post P ρ w0 H.next KV v' w' → next (a.put o.dst v') w') : wpOp P ops Q i next a w := by
  obtain ⟨hok, hty, hd⟩ := operOk_inv ho
  unfold wpOp
  rw [hi]
  simp only
  have run : runOp P call T o.op H KV → o.wp P a w next Q := fun hr =>
    upon_of_comes (ops := ops) (runOp_sound hcall hR hT hok hty hr) hn
  unfold stepV at hk
  split at hk
  · rename_i hg
    have : Region.wanted o (yielded ops a.tmps) = true := by simp [Region.wanted, hg]
    rw [this, if_pos rfl]
    exact .inl (run hk)
  · rename_i j want hg
    rcases guard_sound hT hg hk with ⟨e, hm⟩ | ⟨e, hm⟩
    · rw [e, if_pos rfl]
      exact .inl (run hm)
    · rw [e]
      simp only [Bool.false_eq_true, if_false]
      exact hn _ _ (post_same (Nat.le_refl _) hR .skip hm)

/-- A late operation. -/
theorem pend_sound {ρ : Inj} {Ti TS : Env} {H : AH} {a : Act} {w : World} (hR : R P ρ w0 H w) (hT : TRel ρ TS a) {i : Nat} {o : Oper} (hi : ops[i]? = some o) (ho : operOk P N o = true) {Q : Exit → Act → World → Prop}
    {ps : List (Nat × (AH → Prop))} {bl : Option Nat} {v : Value} (hrd : ∀ t ∈ reads ops.toList o, Ti t = TS t) (hp : Pend P n0 ops.toList H ps ρ bl i o Ti v) {next : Act → World → Prop}
    (hn : ∀ ρ' v' w', ρ.le ρ' → (∀ y, (∀ b, bl = some b → y ≠ b) → ρ'.loc y = ρ.loc y) → (∀ b, bl = some b → n0 ≤ b) → R P ρ' w0 H w' → VRel ρ' v v' → next (a.put o.dst v') w') : wpOp P ops Q i next a w := by
  obtain ⟨hok, hty, hd⟩ := operOk_inv ho
  have hev := ev_reads hrd
  unfold wpOp
  rw [hi]
  simp only
  rcases hp with ⟨hb, rfl, j, want, hg, hgv⟩ | ⟨hg, hp⟩
  · have : Region.wanted o (yielded ops a.tmps) = false := by
      rw [gval_reads hrd hg] at hgv
      rcases hgv with hgv | hgv
      · simp only [Region.wanted, hg, gd_want hT hgv]
        cases want <;> rfl
      · simp only [Region.wanted, hg, gd_skip_want hT hgv]
        rfl
    rw [this]
    simp only [Bool.false_eq_true, if_false]
    exact hn ρ _ w ρ.le_refl (fun _ _ => rfl) (fun b h => by rw [hb] at h; simp at h) hR .skip
  · have : Region.wanted o (yielded ops a.tmps) = true := by
      cases hq : o.guard with
      | none => simp [Region.wanted, hq]
      | some g =>
        obtain ⟨j, want⟩ := g
        have hgv := hg j want hq
        rw [gval_reads hrd hq] at hgv
        simp only [Region.wanted, hq, gd_want hT hgv]
        cases want <;> rfl
    rw [this, if_pos rfl]
    refine .inl ?_
    have value : ∀ v' w', (execOp a.eval o).run P w = .ok (.value v') w' → next (a.put o.dst v') w' → o.wp P a w next Q := by
      intro v' w' h1 h2
      unfold Oper.wp
      rw [h1]; exact h2
    rcases hp with ⟨hb, hmv⟩ | ⟨hb, hpv⟩ | ⟨hb, hrv, _⟩ | ⟨b, obj, m, hb, hav, rfl, hgt, hloc, hbase, hn0, hlt, _⟩
    · rw [moved_congr hev] at hmv
      have : ∃ x, (o.op = .move x ∨ o.op = .assign x) ∧ v = ev TS x := by
        unfold moved at hmv
        split at hmv
        · simp at hmv; exact ⟨_, .inl (by assumption), hmv.symm⟩
        · simp at hmv; exact ⟨_, .inr (by assumption), hmv.symm⟩
        · simp at hmv
      obtain ⟨x, hx, rfl⟩ := this
      have hr := ev_rel hR.glob hT (hok x (by rcases hx with e | e <;> rw [e] <;> simp [Op.operands]))
      refine value (a.eval x) w (by rcases hx with e | e <;> simp [execOp, e]) (hn ρ _ w ρ.le_refl (fun _ _ => rfl) (fun b h => by rw [hb] at h; simp at h) hR hr)
    · rw [evP_congr hev] at hpv
      obtain ⟨v', hr, hrun⟩ := evP_sound hR.glob hT hok hty hpv
      exact value v' w (hrun w) (hn ρ _ w ρ.le_refl (fun _ _ => rfl) (fun b h => by rw [hb] at h; simp at h) hR hr)
    · rw [evR_congr hev] at hrv
      obtain ⟨v', hr, hrun⟩ := evR_sound hR hT hok hty hrv
      exact value v' w hrun (hn ρ _ w ρ.le_refl (fun _ _ => rfl) (fun b h => by rw [hb] at h; simp at h) hR hr)
    · rw [evA_congr hev] at hav
      obtain ⟨ρ', v', w', r1, r2, r3, r4, r5⟩ := evA_sound hR hT hok hty hav hbase hlt hloc hgt
      exact value v' w' r5 (hn ρ' _ w' r1 (fun y hy => r2 y (hy b hb)) (fun b' h => by rw [hb] at h; simp only [Option.some.injEq] at h; omega) r3 r4)
end
end Go.AM
end
section
/- THE ABSTRACT MACHINE: a region that draws its order: each step keeps what is so. -/
namespace Go.AM
open Go.RowKit (Below)
section
variable {P : Program} {w0 : World} {ρ0 : Inj} {n0 N : Nat} {call : CallT} {ops : Array Oper} {l0 : List (Nat × Nat)}
  (D : Draw P ops.toList l0) {pre l : List (Nat × Nat)} {ps : List (Nat × (AH → Prop))} {T0 T TS : Env} {H : AH} {ρ : Inj} {bl : Nat → Option Nat} {listed : Array Bool} {a : Act} {w : World}

theorem Lst.set {listed : Array Bool} {i j : Nat} (h : Lst listed j) : Lst (listed.setIfInBounds i true) j := getD_set_true h
theorem Lst.set_ne {listed : Array Bool} {i j : Nat} (h : Lst (listed.setIfInBounds i true) j) (e : j ≠ i) : Lst listed j := by
  unfold Lst at *; rwa [getD_set_ne false (Ne.symm e)] at h
theorem Lst.self {listed : Array Bool} {i : Nat} (h : i < listed.size) : Lst (listed.setIfInBounds i true) i := by
  simp [Lst, h]

theorem updO_ne {d : Option Nat} {v : Value} {t : Nat} (h : d ≠ some t) : updO T d v t = T t := by
  cases d with
  | none => rfl
  | some d => simp only [updO, upd]; rw [if_neg (by rintro rfl; exact h rfl)]
theorem updO_self {v : Value} {t : Nat} : updO T (some t) v t = v := by simp [updO, upd]

theorem Pend.rho {ops : List Oper} {ρ ρ' : Inj} {bl : Option Nat} {i : Nat} {o : Oper} {Ti : Env} {v : Value} (h : Pend P n0 ops H ps ρ bl i o Ti v) (hb : ρ'.base = ρ.base) (hl : ∀ b, bl = some b → ρ'.loc b = ρ.loc b) : Pend P n0 ops H ps ρ' bl i o Ti v := by
  rcases h with h | ⟨h1, h | h | h | ⟨b, obj, m, h2, h3, h4, h5, h6, h7, h8, h9, h10⟩⟩
  · exact .inl h
  · exact .inr ⟨h1, .inl h⟩
  · exact .inr ⟨h1, .inr (.inl h)⟩
  · exact .inr ⟨h1, .inr (.inr (.inl h))⟩
  · exact .inr ⟨h1, .inr (.inr (.inr ⟨b, obj, m, h2, h3, h4, h5, by rw [hl b h2]; exact h6, by rw [hb]; exact h7, h8, h9, h10⟩))⟩

include D in
theorem Inv.late (I : Inv P w0 ρ0 n0 N ops l0 pre l ps T0 T H ρ TS bl listed a w) {pr sf : List (Nat × Nat)} {i B : Nat} {o : Oper} (hs : pre = pr ++ (i, B) :: sf) (F : Fair P ops.toList l0 pr i B o) (hi : ¬ Lst listed i)
    (hd : ∀ e ∈ depsOf o, Lst listed e) (hdN : ∀ d, o.dst = some d → d < N) {v v' : Value} {ρ' : Inj} {w' : World} (hv : ∀ d, o.dst = some d → T d = v) (hle : ρ.le ρ') (hl : ∀ y, (∀ b, bl i = some b → y ≠ b) → ρ'.loc y = ρ.loc y)
    (hn : ∀ b, bl i = some b → n0 ≤ b) (hR : R P ρ' w0 H w') (hr : VRel ρ' v v') :
    Inv P w0 ρ0 n0 N ops l0 pre l ps T0 T H ρ' (updO TS o.dst v) bl (listed.setIfInBounds i true) (a.put o.dst v') w' := by
  have hs0 : l0 = pr ++ (i, B) :: (sf ++ l) := by rw [I.split, hs]; simp
  have hB := I.ahead D hs0 F hd
  have hin : ∀ p ∈ pre, p ∈ l0 := fun p hp => by rw [I.split]; simp [hp]
  have hip : (i, B) ∈ pre := by rw [hs]; simp
  have ho : ops.toList[i]? = some o := F.at_
  have hne : ∀ p ∈ l0, p ≠ (i, B) → p.1 ≠ i := fun p hp hne e => hne (D.one hp (hin _ hip) e)
  have hlt : i < listed.size := by
    rw [I.size]
    rcases Nat.lt_or_ge i ops.size with g | g
    · exact g
    · rw [List.getElem?_eq_none (by simpa using g)] at ho; simp at ho
  refine { split := I.split, size := by simp [I.size], later := ?_, muts := fun p hp o ho hm => (I.muts p hp o ho hm).set, closed := ?_, st := ?_, ts1 := ?_, ts2 := ?_, t0 := I.t0, pend := ?_, inj := I.inj, fresh := I.fresh }
  · intro p hp hL
    refine I.later p hp (hL.set_ne fun e => ?_)
    obtain ⟨s, r, hr'⟩ := List.append_of_mem hp
    obtain ⟨o2, F2⟩ := D.fair (pre ++ s) p.1 p.2 r (by rw [I.split, hr']; simp)
    exact F2.new (i, B) (by simp [hip]) e.symm
  · intro p hp hL x hx
    by_cases e : p = (i, B)
    · subst e; exact (hB x hx).set
    · exact (I.closed p hp (hL.set_ne (hne p hp e)) x hx).set
  · exact { le := Inj.le_trans I.st.le hle, hole := fun b hb => by rw [hl b (fun b' h => by have := hn b' h; omega)]; exact I.st.hole b hb, nn := I.st.nn, r := hR,
            t := (I.st.t.mono hle).put (by rw [I.st.s]; exact hdN) hr, d := by rw [put_defers]; exact I.st.d, s := by rw [put_size]; exact I.st.s }
  · intro t p hp o' ho' hdt hL
    have hpi : p ≠ (i, B) := by rintro rfl; exact hL (Lst.self hlt)
    have : o.dst ≠ some t := fun e => hpi (D.writer (hin p hp) (hin _ hip) ho' ho hdt e)
    rw [updO_ne this]
    exact I.ts1 t p hp o' ho' hdt fun h => hL h.set
  · intro t ht
    by_cases e : o.dst = some t
    · rw [e, updO_self]; exact (hv t e).symm
    · rw [updO_ne e]
      refine I.ts2 t fun p hp o' ho' hdt => (ht p hp o' ho' hdt).set_ne fun e' => ?_
      have hq := D.one (hin p hp) (hin _ hip) e'
      subst hq
      rw [ho] at ho'; simp only [Option.some.injEq] at ho'; subst ho'
      exact e hdt
  · intro pr' k B' sf' o' hs' hk ho'
    have hki : k ≠ i := by rintro rfl; exact hk (Lst.self hlt)
    obtain ⟨Ti, u, h1, h2, h3, h4⟩ := I.pend pr' k B' sf' o' hs' (fun h => hk h.set) ho'
    exact ⟨Ti, u, h1, h2, h3, h4.rho hle.1 fun b hb => hl b fun b' hb' e => hki (I.inj k i b hb (e ▸ hb'))⟩

/-- What the abstract run leaves to come late. -/
theorem Pend.later {ops : List Oper} {ρ : Inj} {bl : Option Nat} {i : Nat} {o : Oper} {Ti : Env} {v : Value} (h : Pend P n0 ops H ps ρ bl i o Ti v) (H' : AH) (hH : H' = H ∨ ∃ ob, H' = H.new ob) {ps' : List (Nat × (AH → Prop))} (hps : ∀ x ∈ ps, x ∈ ps') :
    Pend P n0 ops H' ps' ρ bl i o Ti v := by
  have hnx : H.next ≤ H'.next := by
    rcases hH with rfl | ⟨ob, rfl⟩
    · exact Nat.le_refl _
    · exact Nat.le_succ _
  rcases h with h | ⟨h1, h | h | ⟨h2, h3, c, h4, h5⟩ | ⟨b, obj, m, h2, h3, h4, h5, h6, h7, h8, h9, c, h10, h11⟩⟩
  · exact .inl h
  · exact .inr ⟨h1, .inl h⟩
  · exact .inr ⟨h1, .inr (.inl h)⟩
  · refine .inr ⟨h1, .inr (.inr (.inl ⟨h2, ?_, c, hps _ h4, h5⟩))⟩
    rcases hH with rfl | ⟨ob, rfl⟩
    · exact h3
    · exact evR_new ob h3
  · refine .inr ⟨h1, .inr (.inr (.inr ⟨b, obj, m, h2, h3, h4, ?_, h6, h7, h8, by omega, c, hps _ h10, h11⟩))⟩
    rcases hH with rfl | ⟨ob, rfl⟩
    · exact h5
    · rw [AH.get_new_ne _ _ (by omega)]; exact h5

include D in
/-- The abstract run goes on by an operation that is no mutator; the machine has it ahead. -/
theorem Inv.go (I : Inv P w0 ρ0 n0 N ops l0 pre l ps T0 T H ρ TS bl listed a w) {i B : Nat} {l' : List (Nat × Nat)} {o : Oper} (hl : l = (i, B) :: l') (F : Fair P ops.toList l0 pre i B o) (hM : isM P o = false) {v : Value} {H' : AH}
    (hH : H' = H ∨ ∃ ob, H' = H.new ob) {ps' : List (Nat × (AH → Prop))} (hps : ∀ x ∈ ps, x ∈ ps') {bi : Option Nat} (hbi : ∀ b, bi = some b → b = H.next ∧ b < H'.next)
    (hp : Pend P n0 ops.toList H' ps' ρ bi i o T v) :
    Inv P w0 ρ0 n0 N ops l0 (pre ++ [(i, B)]) l' ps' T0 (updO T o.dst v) H' ρ TS (fun k => if k = i then bi else bl k) listed a w := by
  have ho : ops.toList[i]? = some o := F.at_
  have hin : ∀ p ∈ pre, p ∈ l0 := fun p hp => by rw [I.split]; simp [hp]
  have hil : (i, B) ∈ l0 := by rw [I.split, hl]; simp
  have hiu : ¬ Lst listed i := I.later (i, B) (by rw [hl]; simp)
  have huniq : ∀ p ∈ pre, ∀ o', ops.toList[p.1]? = some o' → ∀ t, o'.dst = some t → o.dst ≠ some t := fun p hp o' ho' t ht e =>
    F.new p hp (congrArg Prod.fst (D.writer (hin p hp) hil ho' ho ht e))
  have hnx : H.next ≤ H'.next := by
    rcases hH with rfl | ⟨ob, rfl⟩
    · exact Nat.le_refl _
    · exact Nat.le_succ _
  refine { split := by rw [I.split, hl]; simp, size := I.size, later := fun p hp => I.later p (by rw [hl]; simp [hp]), muts := ?_, closed := I.closed, st := ?_, ts1 := ?_, ts2 := ?_, t0 := ?_, pend := ?_, inj := ?_, fresh := ?_ }
  · intro p hp o' ho' hm
    rcases List.mem_append.1 hp with hp | hp
    · exact I.muts p hp o' ho' hm
    · simp only [List.mem_singleton] at hp; subst hp
      rw [ho] at ho'; simp only [Option.some.injEq] at ho'; subst ho'
      rw [hM] at hm; exact Bool.noConfusion hm
  · rcases hH with rfl | ⟨ob, rfl⟩
    · exact I.st
    · exact { le := I.st.le, hole := I.st.hole, nn := Nat.le_succ_of_le I.st.nn, r := I.st.r.new ob, t := I.st.t, d := I.st.d, s := I.st.s }
  · intro t p hp o' ho' hdt hL
    rcases List.mem_append.1 hp with hp | hp
    · exact I.ts1 t p hp o' ho' hdt hL
    · simp only [List.mem_singleton] at hp; subst hp
      rw [ho] at ho'; simp only [Option.some.injEq] at ho'; subst ho'
      have hno : ∀ p ∈ pre, ∀ oj, ops.toList[p.1]? = some oj → oj.dst ≠ some t := fun p hp oj hj e => huniq p hp oj hj t e hdt
      rw [I.ts2 t (fun p hp oj hj e => absurd e (hno p hp oj hj)), I.t0 t hno]
  · intro t ht
    have hne : o.dst ≠ some t := fun e => hiu (ht (i, B) (by simp) o ho e)
    rw [updO_ne hne]
    exact I.ts2 t fun p hp o' ho' hdt => ht p (by simp [hp]) o' ho' hdt
  · intro t ht
    rw [updO_ne (ht (i, B) (by simp) o ho)]
    exact I.t0 t fun p hp o' ho' => ht p (by simp [hp]) o' ho'
  · intro pr k B' sf o' hs hk ho'
    by_cases e : k = i
    · subst e
      rw [ho] at ho'; simp only [Option.some.injEq] at ho'; subst ho'
      have hpr : pr = pre ∧ sf = [] := by
        rcases List.eq_nil_or_concat sf with h | ⟨sf', z, h⟩
        · subst h
          have := List.append_inj' hs (by simp)
          exact ⟨this.1.symm, rfl⟩
        · exfalso
          subst h
          have hs2 : pre ++ [(k, B)] = (pr ++ (k, B') :: sf') ++ [z] := by rw [hs]; simp
          have := List.append_inj' hs2 (by simp)
          exact F.new (k, B') (by rw [this.1]; simp) rfl
      obtain ⟨rfl, rfl⟩ := hpr
      refine ⟨T, v, fun d hd => by rw [hd, updO_self], I.t0, fun t p hp oj hj hdt => (updO_ne (huniq p hp oj hj t hdt)).symm, ?_⟩
      simp only [if_true]; exact hp
    · have hs' : ∃ sf', pre = pr ++ (k, B') :: sf' := by
        rcases List.eq_nil_or_concat sf with h | ⟨sf', z, h⟩
        · subst h
          have := List.append_inj' hs (by simp)
          simp only [List.cons.injEq, Prod.mk.injEq, and_true] at this
          exact absurd this.2.1.symm e
        · subst h
          have hs2 : pre ++ [(i, B)] = (pr ++ (k, B') :: sf') ++ [z] := by rw [hs]; simp
          exact ⟨sf', (List.append_inj' hs2 (by simp)).1⟩
      obtain ⟨sf', hs'⟩ := hs'
      obtain ⟨Ti, u, h1, h2, h3, h4⟩ := I.pend pr k B' sf' o' hs' hk ho'
      have hkp : (k, B') ∈ pre := by rw [hs']; simp
      refine ⟨Ti, u, fun d hd => by rw [updO_ne (huniq _ hkp o' ho' d hd)]; exact h1 d hd, h2, fun t p hp oj hj hdt => by
        rw [updO_ne (huniq p (by rw [hs']; simp [hp]) oj hj t hdt)]; exact h3 t p hp oj hj hdt, ?_⟩
      rw [if_neg e]
      exact h4.later H' hH hps
  · intro x y b hx hy
    split at hx
    · rename_i ex
      split at hy
      · rename_i ey; rw [ex, ey]
      · have := I.fresh y b hy; have := (hbi b hx).1; omega
    · split at hy
      · have := I.fresh x b hx; have := (hbi b hy).1; omega
      · exact I.inj x y b hx hy
  · intro x b hx
    split at hx
    · exact (hbi b hx).2
    · exact Nat.lt_of_lt_of_le (I.fresh x b hx) hnx

include D in
/-- The mutator at the head is carried out. -/
theorem Inv.head (I : Inv P w0 ρ0 n0 N ops l0 pre l ps T0 T H ρ TS bl listed a w) {i B : Nat} {l' : List (Nat × Nat)} {o : Oper} (hl : l = (i, B) :: l') (F : Fair P ops.toList l0 pre i B o)
    (hd : ∀ e ∈ depsOf o, Lst listed e) (hdN : ∀ d, o.dst = some d → d < N) {v v' : Value} {ρ' : Inj} {H' : AH} {w' : World} (hle : ρ.le ρ') (hlo : ∀ b, b < H.next → ρ'.loc b = ρ.loc b) (hnx : H.next ≤ H'.next)
    (hR : R P ρ' w0 H' w') (hr : VRel ρ' v v') (hpend : ∀ k c, (k, c) ∈ ps → B.testBit k = false → c H') :
    Inv P w0 ρ0 n0 N ops l0 (pre ++ [(i, B)]) l' ps T0 (updO T o.dst v) H' ρ' (updO TS o.dst v) bl (listed.setIfInBounds i true) (a.put o.dst v') w' := by
  have ho : ops.toList[i]? = some o := F.at_
  have hin : ∀ p ∈ pre, p ∈ l0 := fun p hp => by rw [I.split]; simp [hp]
  have hs0 : l0 = pre ++ (i, B) :: l' := by rw [I.split, hl]
  have hil : (i, B) ∈ l0 := by rw [hs0]; simp
  have hiu : ¬ Lst listed i := I.later (i, B) (by rw [hl]; simp)
  have hB := I.ahead D hs0 F hd
  have huniq : ∀ p ∈ pre, ∀ o', ops.toList[p.1]? = some o' → ∀ t, o'.dst = some t → o.dst ≠ some t := fun p hp o' ho' t ht e =>
    F.new p hp (congrArg Prod.fst (D.writer (hin p hp) hil ho' ho ht e))
  have hlt : i < listed.size := by
    rw [I.size]
    rcases Nat.lt_or_ge i ops.size with g | g
    · exact g
    · rw [List.getElem?_eq_none (by simpa using g)] at ho; simp at ho
  refine { split := by rw [hs0]; simp, size := by simp [I.size], later := ?_, muts := ?_, closed := ?_, st := I.st.put hdN hle hlo hnx hR hr, ts1 := ?_, ts2 := ?_, t0 := ?_, pend := ?_, inj := I.inj, fresh := fun k b hb => Nat.lt_of_lt_of_le (I.fresh k b hb) hnx }
  · intro p hp hL
    refine I.later p (by rw [hl]; simp [hp]) (hL.set_ne fun e => ?_)
    obtain ⟨s, r, hr'⟩ := List.append_of_mem hp
    obtain ⟨o2, F2⟩ := D.fair (pre ++ (i, B) :: s) p.1 p.2 r (by rw [hs0, hr']; simp)
    exact F2.new (i, B) (by simp) e.symm
  · intro p hp o' ho' hm
    rcases List.mem_append.1 hp with hp | hp
    · exact (I.muts p hp o' ho' hm).set
    · simp only [List.mem_singleton] at hp; subst hp; exact Lst.self hlt
  · intro p hp hL x hx
    by_cases e : p.1 = i
    · have := D.one hp hil e
      subst this; exact (hB x hx).set
    · exact (I.closed p hp (hL.set_ne e) x hx).set
  · intro t p hp o' ho' hdt hL
    rcases List.mem_append.1 hp with hp | hp
    · rw [updO_ne (huniq p hp o' ho' t hdt)]
      exact I.ts1 t p hp o' ho' hdt fun h => hL h.set
    · simp only [List.mem_singleton] at hp; subst hp; exact absurd (Lst.self hlt) hL
  · intro t ht
    by_cases e : o.dst = some t
    · rw [e, updO_self, updO_self]
    · rw [updO_ne e, updO_ne e]
      exact I.ts2 t fun p hp o' ho' hdt => (ht p (by simp [hp]) o' ho' hdt).set_ne (F.new p hp)
  · intro t ht
    rw [updO_ne (ht (i, B) (by simp) o ho)]
    exact I.t0 t fun p hp o' ho' => ht p (by simp [hp]) o' ho'
  · intro pr k B' sf o' hs hk ho'
    have hki : k ≠ i := by rintro rfl; exact hk (Lst.self hlt)
    have hs' : ∃ sf', pre = pr ++ (k, B') :: sf' := by
      rcases List.eq_nil_or_concat sf with h | ⟨sf', z, h⟩
      · subst h
        have := List.append_inj' hs (by simp)
        simp only [List.cons.injEq, Prod.mk.injEq, and_true] at this
        exact absurd this.2.1.symm hki
      · subst h
        have hs2 : pre ++ [(i, B)] = (pr ++ (k, B') :: sf') ++ [z] := by rw [hs]; simp
        exact ⟨sf', (List.append_inj' hs2 (by simp)).1⟩
    obtain ⟨sf', hs'⟩ := hs'
    have hku : ¬ Lst listed k := fun h => hk h.set
    obtain ⟨Ti, u, h1, h2, h3, h4⟩ := I.pend pr k B' sf' o' hs' hku ho'
    have hkp : (k, B') ∈ pre := by rw [hs']; simp
    have hkB : B.testBit k = false := by
      cases hq : B.testBit k with
      | false => rfl
      | true => exact absurd (hB k hq) hku
    refine ⟨Ti, u, fun d hd => by rw [updO_ne (huniq _ hkp o' ho' d hd)]; exact h1 d hd, h2, fun t p hp oj hj hdt => by
      rw [updO_ne (huniq p (by rw [hs']; simp [hp]) oj hj t hdt)]; exact h3 t p hp oj hj hdt, ?_⟩
    rcases h4 with h | ⟨g, h | h | ⟨q2, q3, c, q4, q5⟩ | ⟨b, obj, m, q2, q3, q4, q5, q6, q7, q8, q9, c, q10, q11⟩⟩
    · exact .inl h
    · exact .inr ⟨g, .inl h⟩
    · exact .inr ⟨g, .inr (.inl h)⟩
    · exact .inr ⟨g, .inr (.inr (.inl ⟨q2, q5 _ (hpend k c q4 hkB), c, q4, q5⟩))⟩
    · exact .inr ⟨g, .inr (.inr (.inr ⟨b, obj, m, q2, q3, q4, q11 _ (hpend k c q10 hkB), by rw [hlo b q9]; exact q6, by rw [hle.1]; exact q7, q8, Nat.lt_of_lt_of_le q9 hnx, c, q10, q11⟩))⟩
end
end Go.AM
end
section
/- THE ABSTRACT MACHINE: a region that draws its order, whole. -/
namespace Go.AM
open Go.RowKit (Below)
section
variable {P : Program} {w0 : World} {ρ0 : Inj} {n0 N : Nat} {call : CallT} {ops : Array Oper} {l0 : List (Nat × Nat)}
  (D : Draw P ops.toList l0) {pre l : List (Nat × Nat)} {ps : List (Nat × (AH → Prop))} {T0 T TS : Env} {H : AH} {ρ : Inj} {bl : Nat → Option Nat} {listed : Array Bool} {a : Act} {w : World} {K : Env → AH → Prop}

theorem gd_abs {g : Value} {want : Bool} {m : (Value → AH → Prop) → Prop} {KV : Value → AH → Prop} (h : gd g want m H KV) : (g = .bool want ∧ m KV) ∨ (skips g want ∧ KV skipV H) := by
  unfold gd at h
  split at h
  · rename_i hs; exact .inr ⟨.inr hs, h⟩
  cases want with
  | true =>
    rcases ifB_inv h with ⟨e, h⟩ | ⟨e, h⟩
    · exact .inl ⟨e, h⟩
    · exact .inr ⟨.inl e, h⟩
  | false =>
    rcases ifB_inv h with ⟨e, h⟩ | ⟨e, h⟩
    · exact .inr ⟨.inl e, h⟩
    · exact .inl ⟨e, h⟩

/-- One operation of the abstract run: kept away by its guard, or carried out. -/
theorem stepV_abs {ops : List Oper} {o : Oper} {KV : Value → AH → Prop} (h : stepV P call ops o T H KV) :
    ((∃ j want, o.guard = some (j, want) ∧ skips (gval ops T j) want) ∧ KV skipV H) ∨ ((∀ j want, o.guard = some (j, want) → gval ops T j = .bool want) ∧ runOp P call T o.op H KV) := by
  unfold stepV at h
  split at h
  · rename_i hg
    exact .inr ⟨fun j want e => by rw [hg] at e; simp at e, h⟩
  · rename_i j want hg
    rcases gd_abs h with ⟨e, h⟩ | ⟨e, h⟩
    · exact .inr ⟨fun j' want' e' => by rw [hg] at e'; simp only [Option.some.injEq, Prod.mk.injEq] at e'; obtain ⟨rfl, rfl⟩ := e'; exact e, h⟩
    · exact .inl ⟨⟨j, want, hg, e⟩, h⟩

theorem gdO_of {ops : List Oper} {o : Oper} {c : Prop} (hg : ∀ j want, o.guard = some (j, want) → gval ops T j = .bool want) (h : gdO ops T o c) : c := by
  unfold gdO at h
  split at h
  · exact h
  · rename_i j want e
    rw [hg j want e] at h
    cases want <;> exact h

include D in
/-- The abstract run goes on up to the next mutator. -/
theorem Inv.advance : ∀ (l pre : List (Nat × Nat)) (ps : List (Nat × (AH → Prop))) (T : Env) (H : AH) (bl : Nat → Option Nat), Inv P w0 ρ0 n0 N ops l0 pre l ps T0 T H ρ TS bl listed a w → evDraw P call ops.toList l ps T H K →
    ∃ pre' l' ps' T' H' bl', Inv P w0 ρ0 n0 N ops l0 pre' l' ps' T0 T' H' ρ TS bl' listed a w ∧ evDraw P call ops.toList l' ps' T' H' K ∧
      (l' = [] ∨ ∃ i B l'' o, l' = (i, B) :: l'' ∧ ops.toList[i]? = some o ∧ isM P o = true) := by
  intro l
  induction l with
  | nil => intro pre ps T H bl I h; exact ⟨pre, [], ps, T, H, bl, I, h, .inl rfl⟩
  | cons q l ih =>
    obtain ⟨i, B⟩ := q
    intro pre ps T H bl I h
    obtain ⟨o, F⟩ := D.fair pre i B l I.split
    by_cases hM : isM P o = true
    · exact ⟨pre, _, ps, T, H, bl, I, h, .inr ⟨i, B, l, o, rfl, F.at_, hM⟩⟩
    · have hM' : isM P o = false := by simpa using hM
      have h' := h
      unfold evDraw at h
      rw [F.at_] at h
      simp only at h
      have moved_no : ∀ v, moved T o.op = some v → cls P o.op = .P := by
        intro v hv
        unfold moved at hv
        split at hv
        · rename_i e; rw [e]; rfl
        · rename_i e; rw [e]; rfl
        · simp at hv
      -- all cases end so
      have fin : ∀ (ps' : List (Nat × (AH → Prop))) (v : Value) (H' : AH) (bi : Option Nat), (H' = H ∨ ∃ ob, H' = H.new ob) → (∀ x ∈ ps, x ∈ ps') → (∀ b, bi = some b → b = H.next ∧ b < H'.next) →
          Pend P n0 ops.toList H' ps' ρ bi i o T v → evDraw P call ops.toList l ps' (updO T o.dst v) H' K →
          ∃ pre' l' ps' T' H' bl', Inv P w0 ρ0 n0 N ops l0 pre' l' ps' T0 T' H' ρ TS bl' listed a w ∧ evDraw P call ops.toList l' ps' T' H' K ∧
            (l' = [] ∨ ∃ i B l'' o, l' = (i, B) :: l'' ∧ ops.toList[i]? = some o ∧ isM P o = true) := by
        intro ps' v H' bi e1 e2 e3 e4 e5
        exact ih _ ps' _ H' _ (I.go D rfl F hM' e1 e2 e3 e4) e5
      have self : ∀ x ∈ ps, x ∈ ps := fun x h => h
      have cons : ∀ z, ∀ x ∈ ps, x ∈ z :: ps := fun z x h => List.mem_cons_of_mem _ h
      cases hc : cls P o.op with
      | P =>
        rw [hc] at h
        simp only at h
        rcases stepV_abs (stepW_stepV h) with ⟨hg, hk⟩ | ⟨hg, hr⟩
        · exact fin ps skipV H none (.inl rfl) self (fun b e => by simp at e) (.inl ⟨rfl, rfl, hg⟩) hk
        · unfold runOp at hr
          split at hr
          · rename_i v hv
            exact fin ps v H none (.inl rfl) self (fun b e => by simp at e) (.inr ⟨hg, .inl ⟨rfl, hv⟩⟩) hr
          · rw [hc] at hr
            obtain ⟨v, hv, hk⟩ := opt_inv hr
            exact fin ps v H none (.inl rfl) self (fun b e => by simp at e) (.inr ⟨hg, .inr (.inl ⟨rfl, hv⟩)⟩) hk
      | R =>
        rw [hc] at h
        simp only at h
        rcases stepV_abs (stepW_stepV h) with ⟨hg, hk⟩ | ⟨hg, hr⟩
        · exact fin _ skipV H none (.inl rfl) (cons _) (fun b e => by simp at e) (.inl ⟨rfl, rfl, hg⟩) hk
        · unfold runOp at hr
          split at hr
          · rename_i v hv
            rw [moved_no v hv] at hc; exact absurd hc (by simp)
          · rw [hc] at hr
            obtain ⟨v, hv, hk⟩ := opt_inv hr
            exact fin _ v H none (.inl rfl) (cons _) (fun b e => by simp at e)
              (.inr ⟨hg, .inr (.inr (.inl ⟨rfl, hv, _, List.mem_cons_self, fun Hx hx => (gdO_of hg hx).trans hv⟩))⟩) hk
      | A =>
        rw [hc] at h
        simp only at h
        rcases stepV_abs (stepW_stepV h) with ⟨hg, hk⟩ | ⟨hg, hr⟩
        · exact fin _ skipV H none (.inl rfl) (cons _) (fun b e => by simp at e) (.inl ⟨rfl, rfl, hg⟩) hk
        · unfold runOp at hr
          split at hr
          · rename_i v hv
            rw [moved_no v hv] at hc; exact absurd hc (by simp)
          · rw [hc] at hr
            obtain ⟨obj, m, hm, hk⟩ := mk_inv hr
            have hnone : ρ.loc H.next = none := by
              cases hq : ρ.loc H.next with
              | none => rfl
              | some q => have := (I.st.r.own _ _ hq).2.1; omega
            exact fin _ (m H.next) (H.new obj) (some H.next) (.inr ⟨obj, rfl⟩) (cons _) (fun b e => by simp only [Option.some.injEq] at e; subst e; exact ⟨rfl, Nat.lt_succ_self _⟩)
              (.inr ⟨hg, .inr (.inr (.inr ⟨H.next, obj, m, rfl, hm, rfl, AH.get_new_self _ _, hnone, I.st.r.nxt, I.st.nn, Nat.lt_succ_self _, _, List.mem_cons_self, fun Hx hx => (gdO_of hg hx).trans (AH.get_new_self _ _)⟩))⟩) hk
      | M => unfold isM at hM; rw [hc] at hM; exact absurd rfl hM

theorem pendAll_inv {B : Nat} {R : Prop} : ∀ (ps : List (Nat × (AH → Prop))), pendAll B H R ps → R ∧ ∀ k c, (k, c) ∈ ps → B.testBit k = false → c H := by
  intro ps
  induction ps with
  | nil => intro h; exact ⟨h, fun k c h => by simp at h⟩
  | cons p ps ih =>
    obtain ⟨j, c⟩ := p
    intro h
    unfold pendAll at h
    split at h
    · rename_i hb
      obtain ⟨h1, h2⟩ := ih h
      refine ⟨h1, fun k c' hm hk => ?_⟩
      rcases List.mem_cons.1 hm with e | e
      · simp only [Prod.mk.injEq] at e; obtain ⟨rfl, rfl⟩ := e; rw [hb] at hk; exact Bool.noConfusion hk
      · exact h2 k c' e hk
    · obtain ⟨h1, h2⟩ := ih h.2
      refine ⟨h1, fun k c' hm hk => ?_⟩
      rcases List.mem_cons.1 hm with e | e
      · simp only [Prod.mk.injEq] at e; obtain ⟨rfl, rfl⟩ := e; exact h.1
      · exact h2 k c' e hk

theorem countP_lt {α : Type} (p q : α → Bool) : ∀ l : List α, (∀ x, q x = true → p x = true) → (∃ x ∈ l, p x = true ∧ q x = false) → l.countP q < l.countP p := by
  intro l
  have le : ∀ l : List α, (∀ x, q x = true → p x = true) → l.countP q ≤ l.countP p := fun l h => List.countP_mono_left fun x _ => h x
  induction l with
  | nil => rintro _ ⟨x, hx, _⟩; simp at hx
  | cons y l ih =>
    rintro h ⟨x, hx, h1, h2⟩
    rw [List.countP_cons, List.countP_cons]
    rcases List.mem_cons.1 hx with rfl | hx
    · rw [h1, h2]; have := le l h; simp; omega
    · have := ih h ⟨x, hx, h1, h2⟩
      by_cases hq : q y = true
      · rw [hq, h y hq]; simpa using this
      · rw [if_neg hq]
        split <;> omega

def Ready (P : Program) (w0 : World) (ρ0 : Inj) (n0 N : Nat) (call : CallT) (ops : Array Oper) (l0 : List (Nat × Nat)) (T0 : Env) (K : Env → AH → Prop) (listed : Array Bool) (a : Act) (w : World) : Prop :=
  ∃ pre l ps T H ρ TS bl, Inv P w0 ρ0 n0 N ops l0 pre l ps T0 T H ρ TS bl listed a w ∧ evDraw P call ops.toList l ps T H K ∧
    (l = [] ∨ ∃ i B l' o, l = (i, B) :: l' ∧ ops.toList[i]? = some o ∧ isM P o = true)

theorem deps_of_ready {o : Oper} {listed : Array Bool} (h : ∀ e ∈ o.after, Region.binds .any e = true → listed.getD e.on false = true) : ∀ e ∈ depsOf o, Lst listed e := by
  intro e he
  simp only [depsOf, List.mem_map, List.mem_filter] at he
  obtain ⟨x, ⟨h1, h2⟩, rfl⟩ := he
  exact h x (by simpa using h1) h2

theorem Ready.done (h : Ready P w0 ρ0 n0 N call ops l0 T0 K listed a w) (hall : ∀ p ∈ l0, Lst listed p.1) : Nx P w0 ρ0 n0 N K a w := by
  obtain ⟨pre, l, ps, T, H, ρ, TS, bl, I, hk, hl⟩ := h
  have : l = [] := by
    cases l with
    | nil => rfl
    | cons p l => exact absurd (hall p (by rw [I.split]; simp)) (I.later p (by simp))
  subst this
  have : TS = T := funext fun t => I.ts2 t fun p hp o ho _ => hall p (by rw [I.split]; simp [hp])
  subst this
  exact ⟨ρ, TS, H, I.st, hk⟩

include D in
theorem not_ready {listed : Array Bool} (hsz : listed.size = ops.size) (h : Region.ready .any ops listed = []) : ∀ p ∈ l0, Lst listed p.1 := by
  have key : ∀ (n : Nat) (pr sf : List (Nat × Nat)), pr.length = n → l0 = pr ++ sf → ∀ p ∈ pr, Lst listed p.1 := by
    intro n
    induction n with
    | zero => intro pr sf hl _ p hp; rw [List.eq_nil_of_length_eq_zero hl] at hp; simp at hp
    | succ n ih =>
      intro pr sf hl hs p hp
      rcases List.eq_nil_or_concat pr with e | ⟨pr', z, e⟩
      · subst e; simp at hl
      · rw [List.concat_eq_append] at e
        subst e
        have hs' : l0 = pr' ++ (z.1, z.2) :: sf := by rw [hs]; simp
        have ihp := ih pr' _ (by simpa using hl) hs'
        rcases List.mem_append.1 hp with hp | hp
        · exact ihp p hp
        · simp only [List.mem_singleton] at hp; subst hp
          apply Classical.byContradiction
          intro hu
          obtain ⟨o, F⟩ := D.fair pr' p.1 p.2 sf hs'
          have hlt : p.1 < listed.size := by
            rw [hsz]
            rcases Nat.lt_or_ge p.1 ops.size with g | g
            · exact g
            · have := F.at_; rw [List.getElem?_eq_none (by simpa using g)] at this; simp at this
          have : p.1 ∈ Region.ready .any ops listed := by
            rw [mem_ready]
            refine ⟨?_, o, by simpa using F.at_, fun e he hb => ?_⟩
            · unfold Lst at hu
              simp only [Array.getD_eq_getD_getElem?, Array.getElem?_eq_getElem hlt, Option.getD_some] at hu ⊢
              simpa using hu
            · obtain ⟨q, hq, hqe⟩ := F.deps e.on (by simp only [depsOf, List.mem_map, List.mem_filter]; exact ⟨e, ⟨by simpa using he, hb⟩, rfl⟩)
              have := ihp q hq
              rwa [hqe] at this
          rw [h] at this; simp at this
  exact fun p hp => key _ l0 [] rfl (by simp) p hp

include D in
theorem draw_sound (hcall : CallOk P call) (hok : ∀ o ∈ ops.toList, operOk P N o = true) {Q : Exit → Act → World → Prop} (hq : ∀ a w, Nx P w0 ρ0 n0 N K a w → Q .normal a w) :
    ∀ (fuel : Nat) (listed : Array Bool) (a : Act) (w : World), listed.size = ops.size → Ready P w0 ρ0 n0 N call ops l0 T0 K listed a w → l0.countP (fun p => !listed.getD p.1 false) ≤ fuel → wpAny P .any ops Q fuel listed a w := by
  intro fuel
  induction fuel with
  | zero =>
    intro listed a w hsz h hc
    have hall : ∀ p ∈ l0, Lst listed p.1 := by
      intro p hp
      have : l0.countP (fun p => !listed.getD p.1 false) = 0 := by omega
      rw [List.countP_eq_zero] at this
      have := this p hp
      simpa [Lst] using this
    refine ⟨?_, hq _ _ (h.done hall)⟩
    apply List.eq_nil_iff_forall_not_mem.2
    intro i hi
    rw [mem_ready] at hi
    obtain ⟨hu, o, ho, _⟩ := hi
    have hlt : i < ops.size := by
      rcases Nat.lt_or_ge i ops.size with g | g
      · exact g
      · rw [Array.getElem?_eq_none g] at ho; simp at ho
    obtain ⟨p, hp, rfl⟩ := D.all i (by simpa using hlt)
    have := hall p hp
    unfold Lst at this
    simp only [Array.getD_eq_getD_getElem?] at this hu
    cases hq : listed[p.1]? <;> simp_all
  | succ fuel ih =>
    intro listed a w hsz h hc
    refine ⟨fun hr => hq _ _ (h.done (not_ready D hsz hr)), fun i hi => ?_⟩
    rw [mem_ready] at hi
    obtain ⟨hu, o, ho, hdeps⟩ := hi
    have hd := deps_of_ready hdeps
    have hlt : i < listed.size := by
      rw [hsz]
      rcases Nat.lt_or_ge i ops.size with g | g
      · exact g
      · rw [Array.getElem?_eq_none g] at ho; simp at ho
    have hiu : ¬ Lst listed i := by
      unfold Lst
      simp only [Array.getD_eq_getD_getElem?, Array.getElem?_eq_getElem hlt, Option.getD_some] at hu ⊢
      simp [hu]
    obtain ⟨q, hq0, hqi⟩ := D.all i (by rw [hsz] at hlt; simpa using hlt)
    have next : ∀ a' w', Ready P w0 ρ0 n0 N call ops l0 T0 K (listed.setIfInBounds i true) a' w' → wpAny P .any ops Q fuel (listed.setIfInBounds i true) a' w' := by
      intro a' w' h'
      refine ih _ a' w' (by simp [hsz]) h' ?_
      have : l0.countP (fun p => !(listed.setIfInBounds i true).getD p.1 false) < l0.countP (fun p => !listed.getD p.1 false) := by
        refine countP_lt _ _ l0 (fun x hx => ?_) ⟨q, hq0, ?_, ?_⟩
        · cases hg : listed.getD x.1 false with
          | false => rfl
          | true => rw [getD_set_true hg] at hx; exact Bool.noConfusion hx
        · unfold Lst at hiu; rw [hqi]; simpa using hiu
        · rw [hqi]; have := Lst.self (listed := listed) hlt; unfold Lst at this; rw [this]; rfl
      omega
    have hoL : ops.toList[i]? = some o := by simpa using ho
    have hoo := hok o (List.mem_of_getElem? hoL)
    obtain ⟨hok1, hty, hdN⟩ := operOk_inv hoo
    obtain ⟨pre, l, ps, T, H, ρ, TS, bl, I, hk, hl⟩ := h
    have hqm : q ∈ pre ++ l := by rw [← I.split]; exact hq0
    obtain ⟨qi, B⟩ := q
    simp only at hqi
    subst hqi
    rcases List.mem_append.1 hqm with hqp | hql
    · -- a late one
      obtain ⟨pr, sf, hs⟩ := List.append_of_mem hqp
      have hs0 : l0 = pr ++ (qi, B) :: (sf ++ l) := by rw [I.split, hs]; simp
      obtain ⟨o', F⟩ := D.fair pr qi B _ hs0
      have := F.at_; rw [hoL] at this; simp only [Option.some.injEq] at this; subst this
      obtain ⟨Ti, v, h1, h2, h3, h4⟩ := I.pend pr qi B sf o hs hiu hoL
      refine pend_sound I.st.r I.st.t ho hoo (I.reads_pend D hs F hiu hd h2 h3) h4 ?_
      intro ρ' v' w' r1 r2 r3 r4 r5
      exact next _ _ ⟨pre, l, ps, T, H, ρ', _, bl, I.late D hs F hiu hd hdN h1 r1 r2 r3 r4 r5, hk, hl⟩
    · rcases hl with rfl | ⟨j, B', l', o', rfl, hj, hM⟩
      · simp at hql
      · obtain ⟨o2, F⟩ := D.fair pre j B' l' I.split
        have e2 := F.at_; rw [hj] at e2; simp only [Option.some.injEq] at e2; subst e2
        rcases List.mem_cons.1 hql with e | hql'
        · -- the mutator at the head
          simp only [Prod.mk.injEq] at e
          obtain ⟨rfl, rfl⟩ := e
          rw [hoL] at hj; simp only [Option.some.injEq] at hj; subst hj
          have hrd := I.reads_head D rfl F hd
          have hk' := hk
          unfold evDraw at hk'
          rw [hoL] at hk'
          have hcM : cls P o.op = .M := by
            unfold isM at hM
            cases hc : cls P o.op with
            | M => rfl
            | P => rw [hc] at hM; exact Bool.noConfusion hM
            | R => rw [hc] at hM; exact Bool.noConfusion hM
            | A => rw [hc] at hM; exact Bool.noConfusion hM
          simp only [hcM] at hk'
          have hk2 := stepW_stepV hk'
          rw [stepV_congr hrd] at hk2
          refine stepV_sound hcall I.st.r I.st.t ho hoo hk2 ?_
          rintro v' w' ⟨ρ', v, H', r1, r2, r3, r4, r5, r6⟩
          obtain ⟨r7, r8⟩ := pendAll_inv _ r6
          have I' := I.head D rfl F hd hdN r1 r2 r3 r4 r5 r8
          obtain ⟨pre2, l2, ps2, T2, H2, bl2, I2, hk3, hl3⟩ := Inv.advance D l' _ ps _ H' bl I' r7
          exact next _ _ ⟨pre2, l2, ps2, T2, H2, ρ', _, bl2, I2, hk3, hl3⟩
        · -- behind a mutator that has not been
          exfalso
          obtain ⟨s, r, hr'⟩ := List.append_of_mem hql'
          have hs0 : l0 = (pre ++ (j, B') :: s) ++ (qi, B) :: r := by rw [I.split, hr']; simp
          obtain ⟨o3, F3⟩ := D.fair _ qi B r hs0
          have e3 := F3.at_; rw [hoL] at e3; simp only [Option.some.injEq] at e3; subst e3
          have hB := I.ahead D hs0 F3 hd
          exact I.later (j, B') (by simp) (hB j (F3.muts (j, B') (by simp) o' hj hM))
end

section
variable {P : Program} {w0 : World} {ρ0 : Inj} {n0 N : Nat} {call : CallT} {ops : Array Oper} {l0 : List (Nat × Nat)} {T : Env} {H : AH} {ρ : Inj} {a : Act} {w : World} {K : Env → AH → Prop}

/-- A region that draws its order. -/
theorem evDraw_sound (hmix : P.follows .mixedOrders = true) (hcall : CallOk P call) (hok : ∀ o ∈ ops.toList, operOk P N o = true) (hd : drawOk P ops.toList l0 = true) (h : St P w0 ρ0 n0 N ρ T H a w)
    (hk : evDraw P call ops.toList l0 [] T H K) {Q : Exit → Act → World → Prop} (hq : ∀ a w, Nx P w0 ρ0 n0 N K a w → Q .normal a w) {id : Nat} : (Code.region id ops true).wp P Q a w := by
  have D := drawOk_draw hd
  refine wp_region_any hmix ?_
  have none : ∀ i, ¬ Lst (Array.replicate ops.size false) i := by
    intro i hL
    unfold Lst at hL
    simp only [Array.getD_eq_getD_getElem?, Array.getElem?_replicate] at hL
    split at hL <;> simp at hL
  have I : Inv P w0 ρ0 n0 N ops l0 [] l0 [] T T H ρ T (fun _ => Option.none) (Array.replicate ops.size false) a { w with drawn := w.drawn + 1 } :=
    { split := rfl, size := by simp, later := fun p _ => none p.1, muts := fun p hp => by simp at hp, closed := fun p _ hL => absurd hL (none p.1),
      st := { le := h.le, hole := h.hole, nn := h.nn, r := h.r.drew, t := h.t, d := h.d, s := h.s }, ts1 := fun t p hp => by simp at hp, ts2 := fun t _ => rfl, t0 := fun t _ => rfl,
      pend := fun pr i B sf o hs => by simp at hs, inj := fun i j b hb => by simp at hb, fresh := fun i b hb => by simp at hb }
  obtain ⟨pre, l, ps, T', H', bl, I', hk', hl⟩ := Inv.advance D l0 [] [] T H _ I hk
  refine draw_sound (T0 := T) D hcall hok hq ops.size _ a _ (by simp) ⟨pre, l, ps, T', H', ρ, T, bl, I', hk', hl⟩ ?_
  have := D.len
  have h2 : l0.countP (fun p => !(Array.replicate ops.size false).getD p.1 false) ≤ l0.length := List.countP_le_length
  rw [this] at h2
  simpa using h2
end
end Go.AM
end
section
/- THE ABSTRACT MACHINE: code; functions; calls. -/
namespace Go.AM
open Go.RowKit (Below)
section
variable {P : Program} {w0 : World} {ρ0 : Inj} {n0 N : Nat} {call : CallT} {kp : Keep}

/-- What is asked of code. -/
def codeOk (P : Program) (N : Nat) : Code → Bool
  | .region _ ops _ => ops.toList.all (operOk P N)
  | .seq a b => codeOk P N a && codeOk P N b
  | .cond c a b => opOk P c && codeOk P N a && codeOk P N b
  | .block _ c => codeOk P N c
  | .loop c => codeOk P N c
  | .scope c => codeOk P N c
  | _ => true

/-- What the machine's ways out mean to the abstract one. -/
def QC (P : Program) (w0 : World) (ρ0 : Inj) (n0 N : Nat) (K : AExit → Env → AH → Prop) : Exit → Act → World → Prop
  | .normal, a, w => Nx P w0 ρ0 n0 N (K .normal) a w
  | .exit id, a, w => Nx P w0 ρ0 n0 N (K (.exit id)) a w
  | .goto l, a, w => Nx P w0 ρ0 n0 N (K (.goto l)) a w
  | .ret, a, w => Nx P w0 ρ0 n0 N (K .ret) a w
  | _, _, _ => False

theorem restr_rel {ρ : Inj} {T : Env} {a : Act} (h : TRel ρ T a) (keep : List Nat) : TRel ρ (restr keep T) a := by
  intro t
  unfold restr
  induction keep with
  | nil => exact .any _
  | cons s keep ih =>
    simp only [List.map_cons, envL]
    split
    · rename_i e; rw [e]; exact h s
    · exact ih
theorem St.restr {ρ : Inj} {T : Env} {H : AH} {a : Act} {w : World} (h : St P w0 ρ0 n0 N ρ T H a w) (keep : List Nat) : St P w0 ρ0 n0 N ρ (restr keep T) H a w :=
  { h with t := restr_rel h.t keep }

theorem loop_sound {c : Code} {keep : List Nat}
    (ih : ∀ (T : Env) (H : AH) (K : AExit → Env → AH → Prop) (ρ : Inj) (a : Act) (w : World), evCode P call kp c T H K → St P w0 ρ0 n0 N ρ T H a w → c.wp P (QC P w0 ρ0 n0 N K) a w)
    {T : Env} {H : AH} {K : AExit → Env → AH → Prop} {ρ : Inj} {a : Act} {w : World} (h : LoopW keep (fun T H K => evCode P call kp c T H K) T H K) (hst : St P w0 ρ0 n0 N ρ T H a w) :
    (Code.loop c).wp P (QC P w0 ρ0 n0 N K) a w := by
  intro b k cs
  have key := h (fun T H => ∀ ρ a w, St P w0 ρ0 n0 N ρ T H a w → ∃ e a' w', QC P w0 ρ0 n0 N K e a' w' ∧ Arrives P (lone (b.at a (.code c :: .inLoop c :: k)) cs w) b k cs e a' w') (by
    intro T H hB ρ a w hst
    obtain ⟨e, a₁, w₁, hq, harr⟩ := ih T H _ ρ a w hB hst b (.inLoop c :: k) cs
    cases e with
    | normal =>
      obtain ⟨ρ', T', H', hst', hX⟩ := hq
      obtain ⟨e₂, a₂, w₂, hq₂, harr₂⟩ := hX ρ' a₁ w₁ (hst'.restr keep)
      exact ⟨e₂, a₂, w₂, hq₂, .of_steps (Steps.trans harr (.one step_inLoop)) harr₂⟩
    | exit id => exact ⟨.exit id, a₁, w₁, hq, .pass (x := .inLoop c) rfl (fun _ _ => .inl (by simp)) harr⟩
    | goto l => exact ⟨.goto l, a₁, w₁, hq, .pass (x := .inLoop c) rfl (fun _ _ => .inl (by simp)) harr⟩
    | ret => exact ⟨.ret, a₁, w₁, hq, .pass (x := .inLoop c) rfl (fun _ _ => .inl (by simp)) harr⟩
    | panic ch => exact hq.elim
    | outgrown => exact hq.elim) ρ a w (hst.restr keep)
  obtain ⟨e, a', w', hq, harr⟩ := key
  exact ⟨e, a', w', hq, .of_steps (.one step_loop) harr⟩

theorem evCode_sound (hmix : P.follows .mixedOrders = true) (hcall : CallOk P call) : ∀ (c : Code), codeOk P N c = true → ∀ (T : Env) (H : AH) (K : AExit → Env → AH → Prop) (ρ : Inj) (a : Act) (w : World), evCode P call kp c T H K →
    St P w0 ρ0 n0 N ρ T H a w → c.wp P (QC P w0 ρ0 n0 N K) a w := by
  intro c
  induction c with
  | skip => intro _ T H K ρ a w h hst; exact wp_skip ⟨ρ, T, H, hst, h⟩
  | label l => intro _ T H K ρ a w h hst; exact wp_label ⟨ρ, T, H, hst, h⟩
  | exit id => intro _ T H K ρ a w h hst; exact wp_exit ⟨ρ, T, H, hst, h⟩
  | goto l => intro _ T H K ρ a w h hst; exact wp_goto ⟨ρ, T, H, hst, h⟩
  | ret => intro _ T H K ρ a w h hst; exact wp_ret ⟨ρ, T, H, hst, h⟩
  | seq x y ihx ihy =>
    intro hok T H K ρ a w h hst
    simp only [codeOk, Bool.and_eq_true] at hok
    obtain ⟨J, hb, ha⟩ := h
    refine wp_seq (wp_mono (ihx hok.1 T H _ ρ a w ha hst) ?_)
    intro e a' w' hq
    cases e with
    | normal =>
      obtain ⟨ρ', T', H', hst', hJ⟩ := hq
      exact ihy hok.2 T' H' K ρ' a' w' (hb T' H' hJ) hst'
    | _ => exact hq
  | cond c x y ihx ihy =>
    intro hok T H K ρ a w h hst
    simp only [codeOk, Bool.and_eq_true] at hok
    have hr := ev_rel hst.r.glob hst.t hok.1.1
    rcases ifB_inv h with ⟨e, h⟩ | ⟨e, h⟩
    · rw [e] at hr
      exact wp_cond_true (hr.flat rfl) (ihx hok.1.2 T H K ρ a w h hst)
    · rw [e] at hr
      exact wp_cond_false (hr.flat rfl) (ihy hok.2 T H K ρ a w h hst)
  | block id c ih =>
    intro hok T H K ρ a w h hst
    refine wp_block (wp_mono (ih hok T H _ ρ a w h hst) ?_)
    intro e a' w' hq
    cases e with
    | exit id' =>
      simp only [Exit.inBlock]
      by_cases hid : id' = id
      · rw [if_pos hid]
        subst hid
        obtain ⟨ρ', T', H', hst', hk⟩ := hq
        simp only [blkK, beq_self_eq_true] at hk
        exact ⟨ρ', T', H', hst', hk⟩
      · rw [if_neg hid]
        obtain ⟨ρ', T', H', hst', hk⟩ := hq
        have : (id' == id) = false := by simp [hid]
        simp only [blkK, this] at hk
        exact ⟨ρ', T', H', hst', hk⟩
    | _ => exact hq
  | loop c ih =>
    intro hok T H K ρ a w h hst
    exact loop_sound (fun T H K ρ a w h hst => ih hok T H K ρ a w h hst) h hst
  | scope c ih =>
    intro hok T H K ρ a w h hst
    refine wp_scope_straight (wp_mono (ih hok T H _ ρ a w h hst) ?_)
    intro e a' w' hq
    cases e with
    | goto l => obtain ⟨_, _, _, _, hk⟩ := hq; exact hk.elim
    | _ => exact hq
  | region id ops draw =>
    intro hok T H K ρ a w h hst
    simp only [codeOk, List.all_eq_true] at hok
    cases draw with
    | false =>
      have := evOps_sound (w0 := w0) (ρ0 := ρ0) (n0 := n0) hcall hok (Q := QC P w0 ρ0 n0 N K) (K := fun T' H' => K .normal T' H') (fun a w h => h) ops.toList 0 (by simp) ρ _ H a w (hst.restr _) h
      exact wp_region (by simpa [List.range_eq_range'] using this)
    | true =>
      simp only [evCode] at h
      split at h
      · rename_i hd
        exact evDraw_sound hmix hcall hok hd (hst.restr _) h (fun a w h => h)
      · exact h.elim
  | _ => intro _ T H K ρ a w h hst; exact h.elim

/-! ### what a function gives back -/
theorem resV_sound {ρ : Inj} {T : Env} {H : AH} {a : Act} {w : World} (hR : R P ρ w0 H w) (hT : TRel ρ T a) {r : ResultVar} {v : Value} (h : resV P T H r = some v) :
    ∃ v', VRel ρ v v' ∧ (match r with
      | .tmp t => (pure (a.tmps.getD t undef) : Sem Value)
      | .cell x t => do loadVar t (← asAddr (a.tmps.getD x undef))).run P w = .ok v' w := by
  cases r with
  | tmp t =>
    simp only [resV, Option.some.injEq] at h
    subst h
    exact ⟨_, hT t, rfl⟩
  | cell x t =>
    simp only [resV] at h
    have conv : ∀ v', (Instr.loadAt t (a.tmps.getD x undef)).run P w = .ok v' w → (do loadVar t (← asAddr (a.tmps.getD x undef)) : Sem Value).run P w = .ok v' w := by
      intro v' hv
      revert hv
      generalize a.tmps.getD x undef = p
      intro hv
      cases p with
      | pointer o =>
        cases o with
        | some A => simpa [Instr.loadAt, Instr.sureAddr, asAddr] using hv
        | none => simp [Instr.loadAt, Instr.sureAddr] at hv
      | _ => simp [Instr.loadAt, Instr.sureAddr] at hv
    split at h
    · rename_i n h1 h2
      obtain ⟨v', hr, hv⟩ := loadN_sound hR h1 h2 h (hT x)
      exact ⟨v', hr, conv v' hv⟩
    · rename_i h1 h2
      obtain ⟨v', hr, hv⟩ := load1_sound hR h1 h (hT x)
      exact ⟨v', hr, conv v' hv⟩
    · simp at h

theorem resAll_sound {ρ : Inj} {T : Env} {H : AH} {a : Act} {w : World} (hR : R P ρ w0 H w) (hT : TRel ρ T a) (f : ResultVar → Sem Value) (hf : ∀ r, f r = match r with
      | .tmp t => (pure (a.tmps.getD t undef) : Sem Value)
      | .cell x t => do loadVar t (← asAddr (a.tmps.getD x undef))) : ∀ (rs : List ResultVar) (K : List Value → Prop), resAll P T H rs K → ∃ vs vs', K vs ∧ LRel ρ vs vs' ∧ (rs.mapM f).run P w = .ok vs' w := by
  intro rs
  induction rs with
  | nil => intro K h; exact ⟨[], [], h, LRel.nil, rfl⟩
  | cons r rs ih =>
    intro K h
    obtain ⟨v, hv, h⟩ := opt_inv h
    obtain ⟨v', hr, hrun⟩ := resV_sound hR hT hv
    obtain ⟨vs, vs', hk, hl, hrun2⟩ := ih _ h
    refine ⟨v :: vs, v' :: vs', hk, LRel.cons hr hl, ?_⟩
    rw [← hf r] at hrun
    simp [hrun, hrun2]

theorem results_sound {ρ : Inj} {T : Env} {H : AH} {a : Act} {w : World} (hR : R P ρ w0 H w) (hT : TRel ρ T a) {fn : Func} {Q : Value → AH → Prop} (h : results P fn.results.toList T H Q) :
    ∃ v v', Q v H ∧ VRel ρ v v' ∧ (Go.results fn a.tmps).run P w = .ok v' w := by
  obtain ⟨vs, vs', hq, hl, hrun⟩ := resAll_sound hR hT _ (fun r => rfl) _ _ h
  refine ⟨one vs, if h : vs'.toArray.size = 1 then vs'.toArray[0] else .tuple vs'.toArray, hq, ?_, ?_⟩
  · match vs, vs', hl with
    | [], vs', hl => rw [hl.cases_nil]; exact LRel.nil.tuple
    | [x], vs', hl =>
      obtain ⟨y, k, rfl, hxy, hk⟩ := hl.cases_cons
      rw [hk.cases_nil]; exact hxy
    | x :: y :: l, vs', hl =>
      obtain ⟨x', k, rfl, _, hk⟩ := hl.cases_cons
      obtain ⟨y', k, rfl, _, _⟩ := hk.cases_cons
      simpa [one] using hl.tuple
  · unfold Go.results
    rw [Array.mapM_eq_mapM_toList]
    simp only [map_eq_pure_bind, bind_assoc, pure_bind, Sem.run_bind]
    erw [hrun]
    rfl

/-! ### calls -/
def MonoC (X : CallT) : Prop := ∀ f args H (K K' : Value → AH → Prop), (∀ v H', K v H' → K' v H') → X f args H K → X f args H K'

/-- A function that may be entered, and whose code is fit. -/
structure Good (P : Program) (f : FuncId) (fn : Func) : Prop where
  at_ : P.funcs[f]? = some fn
  enters : fn.body.isNone = false
  name : (fn.name == "runtime.NumGoroutine") = false
  ok : codeOk P fn.ntmps (bodyOf fn) = true

def CallW (P : Program) (kps : FuncId → Keep) (ext : CallT) : CallT := fun f args H Q =>
  ∀ X : CallT, MonoC X → (∀ f args H Q, (∃ fn, Good P f fn ∧ evBody P X (kps f) fn args H Q) ∨ ext f args H Q → X f args H Q) → X f args H Q

theorem Told.ok : CallOk P (Told P) := fun _ _ _ _ h => h
theorem Post.mono {ρ : Inj} {n : Nat} {K K' : Value → AH → Prop} {v' : Value} {w' : World} (hk : ∀ v H, K v H → K' v H) (h : Post P ρ w0 n K v' w') : Post P ρ w0 n K' v' w' := by
  obtain ⟨ρ', v, H', r1, r2, r3, r4, r5, r6⟩ := h
  exact ⟨ρ', v, H', r1, r2, r3, r4, r5, hk _ _ r6⟩
theorem Told.mono : MonoC (Told P) := fun _ _ _ _ _ hk h => h.imp (fun h => ⟨h.1, fun ρ w0 w args' hR ha => (h.2 ρ w0 w args' hR ha).mono fun _ _ ⟨v', e, hp⟩ => ⟨v', e, hp.mono hk⟩⟩)
  fun h ρ w0 w args' hR ha => let ⟨v', w', h1, h2⟩ := h ρ w0 w args' hR ha; ⟨v', w', h1, h2.mono hk⟩

theorem codeOk_mono {N' : Nat} (hN : N ≤ N') : ∀ c : Code, codeOk P N c = true → codeOk P N' c = true := by
  intro c
  induction c with
  | region id ops d =>
    simp only [codeOk, List.all_eq_true]
    intro h o ho
    have := h o ho
    simp only [operOk, Bool.and_eq_true] at this ⊢
    refine ⟨this.1, ?_⟩
    have h2 := this.2
    cases hd : o.dst with
    | none => rfl
    | some d => rw [hd] at h2; exact decide_eq_true (Nat.lt_of_lt_of_le (of_decide_eq_true h2) hN)
  | seq a b iha ihb => simp only [codeOk, Bool.and_eq_true]; exact fun h => ⟨iha h.1, ihb h.2⟩
  | cond c a b iha ihb => simp only [codeOk, Bool.and_eq_true]; exact fun h => ⟨⟨h.1.1, iha h.1.2⟩, ihb h.2⟩
  | block id c ih => exact ih
  | loop c ih => exact ih
  | scope c ih => exact ih
  | _ => intro _; rfl

theorem evBody_told (hmix : P.follows .mixedOrders = true) (hcall : CallOk P call) {f : FuncId} {fn : Func} (g : Good P f fn) {args : List Value} {H : AH} {Q : Value → AH → Prop} (h : evBody P call kp fn args H Q) : Told P f args H Q := by
  refine .inl ⟨⟨fn, g.at_, g.enters, g.name⟩, fun ρ w0 w args' hR ha => ?_⟩
  unfold evBody at h
  split at h
  · rename_i c hc
    have hok : codeOk P (max fn.ntmps args'.size) c = true := codeOk_mono (Nat.le_max_left _ _) _ (by have := g.ok; unfold bodyOf at this; rw [hc] at this; exact this)
    have hT : TRel ρ (argEnv args) { tmps := args' ++ Array.replicate (fn.ntmps - args'.size) undef, defers := [] } := by
      intro t
      unfold argEnv
      have hlen : args.length = args'.size := by rw [ha.1]; simp
      by_cases hlt : t < args.length
      · have e1 : args.getD t undef = args[t] := by simp [List.getD_eq_getElem?_getD, hlt]
        have e2 : (args' ++ Array.replicate (fn.ntmps - args'.size) undef).getD t undef = args'[t]'(by omega) := by
          rw [Array.getD_eq_getD_getElem?, Array.getElem?_append_left (by omega)]
          simp [show t < args'.size by omega]
        rw [e1, e2]
        exact ha.2 t _ _ (List.getElem?_eq_getElem hlt) (by simp [show t < args'.size by omega])
      · have e1 : args.getD t undef = undef := by simp [List.getD_eq_getElem?_getD, List.getElem?_eq_none (show args.length ≤ t by omega)]
        rw [e1]; exact .any _
    have hst : St P w0 ρ H.next (max fn.ntmps args'.size) ρ (argEnv args) H { tmps := args' ++ Array.replicate (fn.ntmps - args'.size) undef, defers := [] } w :=
      { le := ρ.le_refl, hole := fun _ _ => rfl, nn := Nat.le_refl _, r := hR, t := hT, d := rfl, s := by simp only [Array.size_append, Array.size_replicate]; omega }
    refine calls_of_wp g.at_ hc (wp_mono (evCode_sound hmix hcall c hok _ _ _ ρ _ w h hst) ?_)
    have fin : ∀ a' w', Nx P w0 ρ H.next (max fn.ntmps args'.size) (fun T H => results P fn.results.toList T H Q) a' w' →
        a'.defers = [] ∧ ∃ v, (Go.results fn a'.tmps).run P w' = .ok v w' ∧ ∃ v', Ending.returned v = .returned v' ∧ Post P ρ w0 H.next Q v' w' := by
      rintro a' w' ⟨ρ', T', H', hst', hk⟩
      obtain ⟨v, v', hq, hr, hrun⟩ := results_sound hst'.r hst'.t hk
      exact ⟨hst'.d, v', hrun, v', rfl, ρ', v, H', hst'.le, hst'.hole, hst'.nn, hst'.r, hr, hq⟩
    intro e a' w' hq
    cases e with
    | normal => exact fin a' w' hq
    | ret => exact fin a' w' hq
    | exit id => obtain ⟨_, _, _, _, hk⟩ := hq; exact hk.elim
    | goto id => obtain ⟨_, _, _, _, hk⟩ := hq; exact hk.elim
    | _ => exact hq.elim
  · exact h.elim

/-- WHAT THE ABSTRACT MACHINE SAYS HOLDS. -/
theorem callW_told (hmix : P.follows .mixedOrders = true) {kps : FuncId → Keep} {ext : CallT} (hext : CallOk P ext) {f : FuncId} {args : List Value} {H : AH} {Q : Value → AH → Prop} (h : CallW P kps ext f args H Q) : Told P f args H Q :=
  h (Told P) Told.mono fun f args H Q h => by
    rcases h with ⟨fn, g, hb⟩ | he
    · exact evBody_told hmix Told.ok g hb
    · exact hext _ _ _ _ he
end
end Go.AM
end
section
/- THE ABSTRACT MACHINE: calls fold; what is so of the least is so of all. -/
namespace Go.AM
section
variable {P : Program} {call call' : CallT} {kp : Keep} {T : Env} {H : AH}

def LeC (call call' : CallT) : Prop := ∀ f args H (K K' : Value → AH → Prop), (∀ v H', K v H' → K' v H') → call f args H K → call' f args H K'

theorem opt_mono {α : Type} {o : Option α} {K K' : α → Prop} (h : ∀ x, K x → K' x) (hh : opt o K) : opt o K' := by
  obtain ⟨x, e, hk⟩ := opt_inv hh
  rw [e]; exact h _ hk
theorem opt2_mono {α β : Type} {o : Option (α × β)} {K K' : α → β → Prop} (h : ∀ x y, K x y → K' x y) (hh : opt2 o K) : opt2 o K' := by
  obtain ⟨x, y, e, hk⟩ := opt2_inv hh
  rw [e]; exact h _ _ hk
theorem mk_mono {o : Option (AObj × (Nat → Value))} {K K' : Value → AH → Prop} (h : ∀ x y, K x y → K' x y) (hh : AM.mk o H K) : AM.mk o H K' := by
  obtain ⟨x, y, e, hk⟩ := mk_inv hh
  rw [e]; exact h _ _ hk
theorem ifB_mono {v : Value} {A A' B B' : Prop} (ha : A → A') (hb : B → B') (h : ifB v A B) : ifB v A' B' := by
  unfold ifB at *
  split at h <;> simp_all

set_option linter.unusedVariables false
theorem evCallM_mono (hc : LeC call call') {c : Call} {K K' : Value → AH → Prop} (hk : ∀ v H', K v H' → K' v H') (h : evCallM P call T c H K) : evCallM P call' T c H K' := by
  unfold evCallM at h ⊢
  split at h
  · rename_i e; (try simp only [e]); exact hc _ _ _ _ _ hk h
  · rename_i f hf e
    have : callV call' (ev T f) (c.args.toList.map (ev T)) H K' := by
      unfold callV at h ⊢
      split at h
      · rename_i e2; (try simp only [e2]); exact hc _ _ _ _ _ hk h
      · exact h.elim
    cases f with
    | func g => exact absurd rfl (hf g)
    | _ => (try simp only [e]); exact this
  · rename_i e
    (try simp only [e])
    split at h
    · rename_i e0 e1 e2 e3
      (try simp only [e0, e1, e2, e3])
      split at h
      · rename_i z b zv g1 g2 g3
        (try simp only [g1, g2, g3])
        split at h
        · rename_i g; (try simp only [g]); exact opt2_mono hk h
        · exact h.elim
      · exact h.elim
    · rename_i e0 e1 e2 e3
      (try simp only [e0, e1, e2, e3])
      split at h
      · rename_i z b zv g1 g2 g3
        (try simp only [g1, g2, g3])
        split at h
        · rename_i g; (try simp only [g]); exact opt2_mono hk h
        · exact h.elim
      · exact h.elim
    · exact h.elim
  · rename_i e
    (try simp only [e])
    split at h
    · rename_i e0 e1 e2
      (try simp only [e0, e1, e2])
      split at h
      · rename_i g; (try simp only [g]); exact opt2_mono hk h
      · exact h.elim
    · exact h.elim
  · rename_i e
    (try simp only [e])
    split at h
    · rename_i e0 e1 e2
      (try simp only [e0, e1, e2])
      split at h
      · rename_i g; (try simp only [g]); exact opt_mono (fun x => hk _ x) h
      · exact h.elim
    · exact h.elim
  · rename_i e
    (try simp only [e])
    split at h
    · rename_i e0 e1
      (try simp only [e0, e1])
      split at h
      · rename_i g; (try simp only [g]); exact opt_mono (fun x => hk _ x) h
      · exact h.elim
    · exact h.elim
  · exact h.elim

theorem nextM_mono {it : Value} {K K' : Value → AH → Prop} (hk : ∀ v H', K v H' → K' v H') (h : nextM it H K) : nextM it H K' := by
  unfold nextM at h ⊢
  split at h
  · split at h
    · exact hk _ _ h
    · split at h
      · exact ⟨h.1, fun e he hn => hk _ _ (h.2.1 e he hn), fun ho => hk _ _ (h.2.2 ho)⟩
      · exact h.elim
    · exact h.elim
  · exact h.elim
theorem evM_mono (hc : LeC call call') {op : Op} {K K' : Value → AH → Prop} (hk : ∀ v H', K v H' → K' v H') (h : evM P call T op H K) : evM P call' T op H K' := by
  unfold evM at h ⊢
  split at h
  · split at h
    · rename_i e0 e1; (try simp only [e0, e1]); exact opt_mono (fun x => hk _ x) h
    · rename_i e0 e1; (try simp only [e0, e1]); exact opt_mono (fun x => hk _ x) h
    · exact h.elim
  · split at h
    · rename_i e0; (try simp only [e0])
      split at h
      · rename_i e1; (try simp only [e1]); exact opt_mono (fun x => hk _ x) h
      · exact h.elim
    · exact h.elim
  · split at h
    · rename_i e0; (try simp only [e0])
      split at h
      · rename_i e1; (try simp only [e1]); exact opt_mono (fun x => hk _ x) h
      · exact h.elim
    · exact h.elim
  · split at h
    · rename_i e0; (try simp only [e0])
      split at h
      · rename_i e1 e2; (try simp only [e1, e2]); exact opt2_mono hk h
      · exact h.elim
    · exact h.elim
  · exact opt_mono (fun x => hk _ x) h
  · split at h
    · rename_i e0; (try simp only [e0]); exact mk_mono hk h
    · rename_i e0; (try simp only [e0]); exact mk_mono hk h
    · exact h.elim
  · exact opt2_mono hk h
  · exact nextM_mono hk h
  · exact evCallM_mono hc hk h
  · exact h.elim

theorem runOp_mono (hc : LeC call call') {op : Op} {K K' : Value → AH → Prop} (hk : ∀ v H', K v H' → K' v H') (h : runOp P call T op H K) : runOp P call' T op H K' := by
  unfold runOp at h ⊢
  split at h
  · rename_i e; (try simp only [e]); exact hk _ _ h
  · rename_i e; (try simp only [e])
    split at h
    · rename_i e; (try simp only [e]); exact opt_mono (fun x => hk _ _) h
    · rename_i e; (try simp only [e]); exact opt_mono (fun x => hk _ _) h
    · rename_i e; (try simp only [e]); exact mk_mono hk h
    · rename_i e; (try simp only [e]); exact evM_mono hc hk h

theorem stepW_mono (hc : LeC call call') {ops : List Oper} {o : Oper} {K K' : Env → AH → Prop} (hk : ∀ v H', K v H' → K' v H') (h : stepW P call ops o T H K) : stepW P call' ops o T H K' := by
  unfold stepW at h ⊢
  split at h
  · rename_i e; (try simp only [e]); exact runOp_mono hc (fun _ _ => hk _ _) h
  · rename_i j want e
    (try simp only [e])
    unfold gd at h ⊢
    generalize isSkip (gval ops T j) = sk at h ⊢
    cases sk with
    | true => exact hk _ _ h
    | false =>
      cases want with
      | true => exact ifB_mono (runOp_mono hc (fun _ _ => hk _ _)) (hk _ _) h
      | false => exact ifB_mono (hk _ _) (runOp_mono hc (fun _ _ => hk _ _)) h

theorem evOps_mono (hc : LeC call call') {ops : List Oper} {K K' : Env → AH → Prop} (hk : ∀ v H', K v H' → K' v H') : ∀ (l : List Oper) (T : Env) (H : AH), evOps P call ops l T H K → evOps P call' ops l T H K' := by
  intro l
  induction l with
  | nil => intro T H h; exact hk _ _ h
  | cons o l ih => intro T H h; exact stepW_mono hc (fun T' H' h => ih T' H' h) h

theorem pendAll_mono {B : Nat} {R R' : Prop} (hr : R → R') : ∀ ps : List (Nat × (AH → Prop)), pendAll B H R ps → pendAll B H R' ps := by
  intro ps
  induction ps with
  | nil => exact hr
  | cons p ps ih =>
    intro h
    unfold pendAll at h ⊢
    split at h
    · rename_i e; (try simp only [e]); exact ih h
    · rename_i e; (try simp only [e]); exact ⟨h.1, ih h.2⟩

theorem evDraw_mono (hc : LeC call call') {ops : List Oper} {K K' : Env → AH → Prop} (hk : ∀ v H', K v H' → K' v H') : ∀ (l : List (Nat × Nat)) (ps : List (Nat × (AH → Prop))) (T : Env) (H : AH), evDraw P call ops l ps T H K → evDraw P call' ops l ps T H K' := by
  intro l
  induction l with
  | nil => intro ps T H h; exact hk _ _ h
  | cons p l ih =>
    obtain ⟨i, B⟩ := p
    intro ps T H h
    unfold evDraw at h ⊢
    split at h
    · exact h.elim
    · rename_i o e
      (try simp only [e])
      split at h
      · rename_i e; (try simp only [e]); exact stepW_mono hc (fun T' H' h => ih _ T' H' h) h
      · rename_i e; (try simp only [e]); exact stepW_mono hc (fun T' H' h => ih _ T' H' h) h
      · rename_i e; (try simp only [e]); exact stepW_mono hc (fun T' H' h => ih _ T' H' h) h
      · rename_i e; (try simp only [e]); exact stepW_mono hc (fun T' H' h => pendAll_mono (ih _ T' H') _ h) h

theorem evCode_mono (hc : LeC call call') : ∀ (c : Code) (T : Env) (H : AH) (K K' : AExit → Env → AH → Prop), (∀ e T H, K e T H → K' e T H) → evCode P call kp c T H K → evCode P call' kp c T H K' := by
  intro c
  induction c with
  | seq a b iha ihb =>
    rintro T H K K' hk ⟨J, hb, ha⟩
    refine ⟨J, fun T' H' hJ => ihb _ _ _ _ hk (hb T' H' hJ), iha _ _ _ _ ?_ ha⟩
    intro e T H h
    cases e <;> first | exact h | exact hk _ _ _ h
  | cond c a b iha ihb => intro T H K K' hk h; exact ifB_mono (iha _ _ _ _ hk) (ihb _ _ _ _ hk) h
  | block id c ih =>
    intro T H K K' hk h
    refine ih _ _ _ _ ?_ h
    intro e T H h
    cases e with
    | exit id' =>
      simp only [blkK] at h ⊢
      split at h
      · rename_i e; (try simp only [e]); exact hk _ _ _ h
      · rename_i e; (try simp only [e]); exact hk _ _ _ h
    | _ => exact hk _ _ _ h
  | loop c ih =>
    intro T H K K' hk h X hX
    refine h X fun T H hB => hX T H (ih _ _ _ _ ?_ hB)
    intro e T H h
    cases e <;> first | exact h | exact hk _ _ _ h
  | scope c ih =>
    intro T H K K' hk h
    refine ih _ _ _ _ ?_ h
    intro e T H h
    cases e <;> first | exact h.elim | exact hk _ _ _ h
  | region id ops d =>
    intro T H K K' hk h
    cases d with
    | false => exact evOps_mono hc (fun T' H' h => hk _ _ _ h) _ _ _ h
    | true =>
      simp only [evCode] at h ⊢
      split at h
      · rename_i e; (try simp only [e]); exact evDraw_mono hc (fun T' H' h => hk _ _ _ h) _ _ _ _ h
      · exact h.elim
  | rangeFunc f ps a b => intro T H K K' hk h; exact h.elim
  | refuse => intro T H K K' hk h; exact h.elim
  | skip => intro T H K K' hk h; exact hk _ _ _ h
  | label l => intro T H K K' hk h; exact hk _ _ _ h
  | exit l => intro T H K K' hk h; exact hk _ _ _ h
  | goto l => intro T H K K' hk h; exact hk _ _ _ h
  | ret => intro T H K K' hk h; exact hk _ _ _ h

theorem resAll_mono {rs : List ResultVar} {K K' : List Value → Prop} (hk : ∀ vs, K vs → K' vs) (h : resAll P T H rs K) : resAll P T H rs K' := by
  induction rs generalizing K K' with
  | nil => exact hk _ h
  | cons r rs ih => exact opt_mono (fun v h => ih (fun vs h => hk _ h) h) h

theorem evBody_mono (hc : LeC call call') {fn : Func} {args : List Value} {Q Q' : Value → AH → Prop} (hq : ∀ v H, Q v H → Q' v H) (h : evBody P call kp fn args H Q) : evBody P call' kp fn args H Q' := by
  unfold evBody at h ⊢
  split at h
  · rename_i c e
    (try simp only [e])
    refine evCode_mono hc c _ _ _ _ ?_ h
    intro e T H h
    cases e <;> first | exact h.elim | exact resAll_mono (fun vs h => hq _ _ h) h
  · exact h.elim

theorem CallW.mono {kps : FuncId → Keep} {ext : CallT} : MonoC (CallW P kps ext) := fun f args H K K' hk h X hX hcl => hX _ _ _ _ _ hk (h X hX hcl)
theorem CallW.fold {kps : FuncId → Keep} {ext : CallT} {f : FuncId} {fn : Func} (g : Good P f fn) {args : List Value} {Q : Value → AH → Prop} (h : evBody P (CallW P kps ext) (kps f) fn args H Q) : CallW P kps ext f args H Q :=
  fun X hX hcl => hcl _ _ _ _ (.inl ⟨fn, g, evBody_mono (fun f args H K K' hk h => hX _ _ _ _ _ hk (h X hX hcl)) (fun _ _ h => h) h⟩)
theorem CallW.ext {kps : FuncId → Keep} {ext : CallT} {f : FuncId} {args : List Value} {Q : Value → AH → Prop} (h : ext f args H Q) : CallW P kps ext f args H Q :=
  fun _ _ hcl => hcl _ _ _ _ (.inr h)
end
end Go.AM
end
section
/- THE ABSTRACT MACHINE: from the world in which a call begins to the abstract heap, and back. -/
namespace Go.AM
open Go.RowKit (Below)
section
variable {P : Program}

/-- What may be looked at of a block that was there when the call began. -/
noncomputable def snapObj (w : World) (b : Nat) : AObj :=
  match w.heap[b]? with
  | some (.cells _ _ _) => .ro (fun i => match w.cell? ⟨b, i, none⟩ with
    | some v => open Classical in if Closed w.heap.size v then some v else none
    | none => none)
  | some (.map es cl) => open Classical in if ∀ e ∈ es.toList, Closed w.heap.size e.key ∧ Closed w.heap.size e.val then .map es.toList cl false else .dead
  | _ => .dead
noncomputable def snap (w : World) : AH := { next := w.heap.size, raw := snapObj w }

theorem snap_R {w : World} (hg : P.globals.size ≤ w.heap.size) : R P ⟨w.heap.size, fun _ => none⟩ w (snap w) w where
  size := rfl
  glob := hg
  nxt := Nat.le_refl _
  below := Below.refl _ _
  ro b hb := by
    have hb : b < w.heap.size := hb
    have : (snap w).get b = snapObj w b := by simp [AH.get, snap, hb]
    rw [this]
    unfold snapObj
    split
    · intro i v hv
      simp only at hv
      split at hv
      · rename_i u hu
        split at hv
        · rename_i hc
          simp only [Option.some.injEq] at hv; subst hv
          exact ⟨hu, hc⟩
        · simp at hv
      · simp at hv
    · rename_i es cl hh
      split
      · rename_i hc
        exact ⟨rfl, by rw [hh], hc⟩
      · trivial
    · trivial
  own b l h := by simp at h
  inj b b' l l' h := by simp at h

theorem closed_rel {w : World} : ∀ {l : List Value}, (∀ v ∈ l, Closed w.heap.size v) → LRel ⟨w.heap.size, fun _ => none⟩ l l
  | [], _ => LRel.nil
  | v :: l, h => LRel.cons (h v (by simp)) (closed_rel fun x hx => h x (by simp [hx]))

/-- A law that the abstract machine finds true is true. -/
theorem entry {f : FuncId} (hent : Enters P f) (hmix : P.follows .mixedOrders = true) {kps : FuncId → Keep} {ext : CallT} (hext : CallOk P ext) {args : Array Value} {w : World} (hg : P.globals.size ≤ w.heap.size) (hc : ∀ v ∈ args.toList, Closed w.heap.size v)
    (h : CallW P kps ext f args.toList (snap w) (fun v _ => v = .bool true)) : Calls P f args w (fun e w' => e = .returned (.bool true) ∧ Below w.heap.size w w') := by
  have ht : ∀ ρ w0 w' args', R P ρ w0 (snap w) w' → LRel ρ args.toList args'.toList → Calls P f args' w' (fun e w'' => ∃ v', e = .returned v' ∧ Post P ρ w0 (snap w).next (fun v _ => v = .bool true) v' w'') := by
    rcases callW_told hmix hext h with h | h
    · exact h.2
    · intro ρ w0 w' args' hR ha
      obtain ⟨v', w'', h1, _⟩ := h ρ w0 w' args' hR ha
      rw [run_callFunc' hent] at h1
      cases h1
  refine (ht _ _ _ args (snap_R hg) (closed_rel hc)).mono ?_
  rintro e w' ⟨v', rfl, ρ', v, H', _, _, _, hR, hv, rfl⟩
  have hb := hR.below
  rw [← hR.size] at hb
  exact ⟨by rw [hv.flat rfl], hb⟩

theorem closed_flat {n : Nat} {v : Value} (h : flat v = true) : Closed n v := by
  cases v <;> first | exact .bool _ | exact .int _ _ | exact .string _ | simp [flat] at h
end

open Go.WideShapes Go.ChangeShapes in
theorem post_of_below {H : Type} {enc : TypeId × Value → H} {P : Program} {f : Func} {s : ChangeSpec} {apart fresh handsOn again : Bool} {W W' : World} {args : Array Value} {v : Value} {ds gs : List (DataW H)} {before pa pv : List MemPlace}
    (hW : DataW.Whole enc P f.params.toList s.vars apart W args.toList ds gs before)
    (hres : ∀ (b : Nat) (sp : Nat → Bool) (hd : Bool), DataW.TrodAll enc P W' b sp hd f.resultTypes.toList (v.resultList f.resultTypes.size) (s.fn H (ds ++ gs)).results [])
    (hargs : ∀ sp : Nat → Bool, (∀ p ∈ before, sp p.block = true) → DataW.TrodAll enc P W' 0 sp true f.params.toList args.toList (s.fn H (ds ++ gs)).args pa)
    (hvars : ∀ sp : Nat → Bool, (∀ p ∈ before, sp p.block = true) → DataW.TrodVars enc P W' sp s.vars (s.fn H (ds ++ gs)).vars pv)
    (hps : before = pa ++ pv) (hb : Below W.heap.size W W')
    (hok : ∀ (j : Nat) (t : TypeId) (r : Value), f.resultTypes[j]? = some t → (v.resultList f.resultTypes.size)[j]? = some r → Value.okWide P W' .any 0 t r) :
    s.post enc P f apart fresh handsOn again W args v W' := by
  have hold : ∀ p ∈ before, (fun b => decide (b < W.heap.size)) p.block = true := fun p hp => by simpa using hW.lt p hp
  have hlt : ∀ p ∈ before, p.block < W.heap.size := fun p hp => hW.lt p hp
  refine ⟨ds, gs, before, [], pa, pv, hW, hres _ _ _, hargs _ hold, hvars _ hold, World.keptBut_mono (fun p hp => ⟨hp, ?_⟩) (hb.frame _), fun _ => ?_⟩
  · rw [hps, List.mem_append] at hp
    exact Or.inr hp
  · obtain ⟨_, _, _, _, _, hz, hn⟩ := hW
    refine ⟨hok, _, _, ([] ++ pa) ++ pv, ⟨[] ++ pa, pv, trodAll_append (hargs _ (fun _ _ => rfl)) (hres _ _ _), hvars _ (fun _ _ => rfl), rfl, ?_, ?_⟩, ?_⟩
    · intro b off hp
      have hin : MemPlace.cell b off ∈ before := by rw [hps]; simpa using hp
      rw [hb.frozen (p := ⟨b, off, none⟩) (hlt _ hin)]
      exact hz b off hin
    · intro ha
      have := hn ha
      rw [hps] at this
      simpa using this
    · intro p hp _
      rw [hps]
      simpa using hp
end Go.AM
end
section
/- THE ABSTRACT MACHINE: the library's functions without a text. -/
namespace Go.AM
section
variable {P : Program}
theorem run_callFunc_ext {f : FuncId} {fn : Func} {e : Array Value → Sem Value} (hfn : P.funcs[f]? = some fn) (hb : fn.body.isNone = true) (hn : (fn.name == "runtime.NumGoroutine") = false) (hx : Extern.findNext fn = none) (he : Extern.find fn = some e)
    (args : Array Value) (w : World) {v : Value} {w' : World} (h : (e args).run P w = .ok v w') : (callFunc f args).run P w = .ok (.value v) w' := by
  unfold callFunc
  simp only [Sem.run_bind, run_program, Result.andThen_ok, hfn, hb, hn, Bool.false_eq_true, if_false, if_true, run_mark, hx, he]
  simp [h]
theorem atomicAdd_told {f : FuncId} {fn : Func} (hfn : P.funcs[f]? = some fn) (hb : fn.body.isNone = true) (hn : (fn.name == "runtime.NumGoroutine") = false) (hx : Extern.findNext fn = none) (he : Extern.find fn = some (Extern.Atomic.update (Op.intArith .add) .i64 true))
    {args : List Value} {H : AH} {K : Value → AH → Prop} (h : ∃ x y, args = [x, y] ∧ atomicAdd x y H K) : Told P f args H K := by
  refine .inr fun ρ w0 w args' hR ha => ?_
  obtain ⟨x, y, rfl, h⟩ := h
  obtain ⟨x', y', rfl, hx', hy'⟩ : ∃ x' y', args' = #[x', y'] ∧ VRel ρ x x' ∧ VRel ρ y y' := by
    have hl := ha.1
    obtain ⟨l⟩ := args'
    match l, hl with
    | [a, b], _ => exact ⟨a, b, rfl, ha.2 0 _ _ rfl rfl, ha.2 1 _ _ rfl rfl⟩
  unfold atomicAdd at h
  split at h
  · rename_i b o d
    obtain rfl := hy'.flat rfl
    split at h
    · rename_i c fx hg
      split at h
      · rename_i n hc
        cases hx' with
        | ptr _ A' r =>
          have hlt : o < c.length := (List.getElem?_eq_some_iff.1 hc).1
          obtain ⟨y0, hy0, hr0⟩ := hR.cell r (i := 0) (x := .int .i64 n) rfl (by simp only [Nat.add_zero]; rw [hg]; exact hc)
          obtain rfl := hr0.flat rfl
          rw [add_zero] at hy0
          obtain ⟨w', h1, h2⟩ := hR.stored r rfl hg 0 (vs := [.int .i64 (IntKind.i64.wrap (n + d))]) (vs' := [.int .i64 (IntKind.i64.wrap (n + d))]) (by simp; omega) (LRel.cons (.int _ _) LRel.nil) (by rfl)
          simp only [Nat.add_zero] at h1
          rw [splice_one hlt] at h1
          rw [add_zero] at h2
          refine ⟨.int .i64 (IntKind.i64.wrap (n + d)), w', run_callFunc_ext hfn hb hn hx he _ _ ?_, ρ, .int .i64 (IntKind.i64.wrap (n + d)), H.put b (.cells (c.set o (.int .i64 (IntKind.i64.wrap (n + d)))) fx), ρ.le_refl, fun _ _ => rfl, Nat.le_refl _, h1, .int _ _, h⟩
          have hst : (store A' (.int .i64 (IntKind.i64.wrap (n + d))) .atomic).run P w = .ok () w' := by
            simp [storeCells, add_zero] at h2
            simp [store, Sem.run, hy0] at h2 ⊢
            exact h2
          change Sem.run P (do
            let a' ← asAddr (.pointer (some A'))
            let old ← Extern.Atomic.read (.int .i64) a'
            let new ← Op.intArith .add .i64 (← asInt old) (← asInt (.int .i64 d))
            store a' new .atomic
            pure (if true then new else old)) w = _
          simp [Extern.Atomic.read, asAddr, asInt, asIntOf, hy0, Op.intArith, hst, Result.andThen]
      · exact h.elim
    · exact h.elim
  · exact h.elim
theorem atomicLoad_told {f : FuncId} {fn : Func} (hfn : P.funcs[f]? = some fn) (hb : fn.body.isNone = true) (hn : (fn.name == "runtime.NumGoroutine") = false) (hx : Extern.findNext fn = none) (he : Extern.find fn = some (Extern.Atomic.loadT (.int .i64)))
    {args : List Value} {H : AH} {K : Value → AH → Prop} (h : ∃ x, args = [x] ∧ atomicLoad x H K) : Told P f args H K := by
  refine .inr fun ρ w0 w args' hR ha => ?_
  obtain ⟨x, rfl, h⟩ := h
  obtain ⟨x', rfl, hx'⟩ : ∃ x', args' = #[x'] ∧ VRel ρ x x' := by
    have hl := ha.1
    obtain ⟨l⟩ := args'
    match l, hl with
    | [a], _ => exact ⟨a, rfl, ha.2 0 _ _ rfl rfl⟩
  unfold atomicLoad at h
  split at h
  · rename_i b o
    split at h
    · rename_i n hc
      cases hx' with
      | ptr _ A' r =>
        obtain ⟨y0, hy0, hr0⟩ := hR.cell r (i := 0) (x := .int .i64 n) rfl (by simp only [Nat.add_zero]; exact hc)
        obtain rfl := hr0.flat rfl
        rw [add_zero] at hy0
        refine ⟨.int .i64 n, w, run_callFunc_ext hfn hb hn hx he _ _ ?_, ρ, _, _, ρ.le_refl, fun _ _ => rfl, Nat.le_refl _, hR, .int _ _, h⟩
        change Sem.run P (do Extern.Atomic.read (.int .i64) (← asAddr (.pointer (some A')))) w = _
        simp [Extern.Atomic.read, asAddr, hy0]
    · exact h.elim
  · exact h.elim
end
end Go.AM
end
