/- THE ABSTRACT MACHINE: append, copy; iterators. -/
import Derived.Test.YtjpdppohflailaaAmEvN
set_option linter.all false
namespace Go.AM
open Go.RowKit (Below)
section
variable {P : Program} {ρ : Inj} {T : Env} {a : Act} {v : Value} {w0 w : World} {H : AH}

/-- A slice's row goes on under a new abstract block, in the machine's same block. -/
theorem R.moved (r : R P ρ w0 H w) {b : Nat} {l l' : Loc} (hl : ρ.loc b = some l) (hd : H.get b ≠ .dead) (o : AObj) (obj : Obj) (hb' : l'.block = l.block)
    (ho : ORel ρ l' o (some obj)) : R P (ρ.put H.next l') w0 ((H.put b .dead).new o) (World.setBlk w l.block obj) := by
  have hn : ρ.loc H.next = none := by
    cases h : ρ.loc H.next with
    | none => rfl
    | some q => have := (r.own _ _ h).2.1; omega
  obtain ⟨hb1, hb2, hb3, hb4, _⟩ := r.own b l hl
  have hle := Inj.le_put (l := l') hn
  have get : ∀ z, ((H.put b .dead).new o).get z = if z = H.next then o else if z = b then .dead else H.get z := fun z => by
    rw [AH.get_new, AH.next_put, AH.get_put]; simp [hb2]
  refine { size := r.size, glob := r.glob, nxt := Nat.le_succ_of_le r.nxt, below := ?_, ro := ?_, own := ?_, inj := ?_ }
  · exact r.below.trans ⟨rfl, rfl, rfl, by simp [World.setBlk], fun k hk => by
      have hk : k < ρ.base := hk
      show (w.heap.setIfInBounds _ _)[k]? = _
      rw [Array.getElem?_setIfInBounds_ne (by omega)]⟩
  · intro x hx
    have hx : x < ρ.base := hx
    have h1 : x ≠ H.next := by have := r.nxt; omega
    have h2 : x ≠ b := by omega
    rw [get, if_neg h1, if_neg h2]; exact r.ro x hx
  · intro x q hq
    by_cases e : x = H.next
    · subst e
      simp only [Inj.put, if_true, Option.some.injEq] at hq; subst hq
      refine ⟨r.nxt, Nat.lt_succ_self _, by rw [hb']; exact hb3, by simp [World.setBlk]; omega, ?_⟩
      rw [get, if_pos rfl, hb', setBlk_get _ _ hb4]; exact ho.mono hle
    · simp only [Inj.put, e, if_false] at hq
      obtain ⟨h1, h2, h3, h4, h5⟩ := r.own x q hq
      refine ⟨h1, Nat.lt_succ_of_lt h2, h3, by simpa [World.setBlk] using h4, ?_⟩
      rw [get, if_neg e]
      by_cases e2 : x = b
      · rw [if_pos e2]; trivial
      · rw [if_neg e2]
        by_cases hbl : q.block = l.block
        · have : H.get x = .dead := Classical.byContradiction fun hx => e2 (r.inj x b q l hq hl hx hd hbl)
          rw [this]; trivial
        · show ORel _ _ _ (w.heap.setIfInBounds _ _)[q.block]?
          rw [Array.getElem?_setIfInBounds_ne (fun e => hbl e.symm)]; exact h5.mono hle
  · intro x y q q' hq hq' dx dy he
    rw [get] at dx dy
    by_cases ex : x = H.next
    · by_cases ey : y = H.next
      · rw [ex, ey]
      · simp only [Inj.put, ex, if_true, Option.some.injEq] at hq
        simp only [Inj.put, ey, if_false] at hq'
        rw [if_neg ey] at dy
        have hyb : y ≠ b := by intro e; rw [if_pos e] at dy; exact dy rfl
        rw [if_neg hyb] at dy
        exact absurd (r.inj y b q' l hq' hl dy hd (by rw [← he, ← hq, hb'])) hyb
    · by_cases ey : y = H.next
      · simp only [Inj.put, ey, if_true, Option.some.injEq] at hq'
        simp only [Inj.put, ex, if_false] at hq
        rw [if_neg ex] at dx
        have hxb : x ≠ b := by intro e; rw [if_pos e] at dx; exact dx rfl
        rw [if_neg hxb] at dx
        exact absurd (r.inj x b q l hq hl dx hd (by rw [he, ← hq', hb'])) hxb
      · simp only [Inj.put, ex, ey, if_false] at hq hq'
        rw [if_neg ex] at dx
        rw [if_neg ey] at dy
        have hxb : x ≠ b := by intro e; rw [if_pos e] at dx; exact dx rfl
        have hyb : y ≠ b := by intro e; rw [if_pos e] at dy; exact dy rfl
        rw [if_neg hxb] at dx
        rw [if_neg hyb] at dy
        exact r.inj x y q q' hq hq' dx dy he

theorem put_same {b : Nat} {o : AObj} (h : H.get b = o) (hd : o ≠ .dead) : H.put b o = H := by
  have hlt := AH.lt_of_get (H := H) (b := b) (by rw [h]; exact hd)
  unfold AH.put
  cases H with
  | mk n raw =>
    simp only [AH.mk.injEq, true_and]
    funext x
    split
    · rename_i e; subst e; rw [← h]; simp only [AH.get]; rw [if_pos hlt]
    · rfl

theorem lenO_sound {x x' : Value} {m : Nat} (h : lenO x = some m) (hx : VRel ρ x x') (w : World) : (Builtin.lenOf x').run P w = .ok m w := by
  unfold lenO at h
  split at h
  · simp only [Option.some.injEq] at h; subst h
    cases hx <;> rfl
  · simp only [Option.some.injEq] at h; subst h
    cases hx; rfl
  · simp at h

theorem firstRow_sound (hR : R P ρ w0 H w) {size n : Nat} {x x' : Value} {l : List Value} (h : firstRow size n x H = some l) (hx : VRel ρ x x') (hn : ∀ m, lenO x = some m → n ≤ m) :
    ∃ l', LRel ρ l l' ∧ (Builtin.firstCells size n x').run P w = .ok l'.toArray w := by
  unfold firstRow at h
  split at h
  · rw [Option.ite_none_right_eq_some] at h
    obtain ⟨_, h⟩ := h
    simp only [Option.some.injEq] at h; subst h
    cases hx
    exact ⟨[], LRel.nil, rfl⟩
  · rename_i A k c
    split at h
    · simp at h
    · rename_i hs
      have hs : A.spot = none := by simpa using hs
      cases hx with
      | slc _ A' _ _ c' r =>
        rcases r with ⟨r, _⟩ | ⟨rfl, _⟩ | ⟨rfl, _⟩
        · obtain ⟨l', h1, h2, h3⟩ := hR.row r hs h
          refine ⟨l', h1, ?_⟩
          have := run_loadCells_list (P := P) w A' l' h3
          rw [h2] at this
          exact this
        · have hn0 : n = 0 := by have := hn 0 rfl; omega
          subst hn0
          rw [Nat.zero_mul] at h
          have hl := (row_cell h).1
          have : l = [] := List.eq_nil_of_length_eq_zero hl
          subst this
          refine ⟨[], LRel.nil, ?_⟩
          show (loadCells A' (0 * size)).run P w = _
          rw [Nat.zero_mul]; rfl
        · have hn0 : n = 0 := by have := hn 0 rfl; omega
          subst hn0
          rw [Nat.zero_mul] at h
          have hl := (row_cell h).1
          have : l = [] := List.eq_nil_of_length_eq_zero hl
          subst this
          refine ⟨[], LRel.nil, ?_⟩
          show (loadCells A' (0 * size)).run P w = _
          rw [Nat.zero_mul]; rfl
  · rename_i s
    rw [Option.ite_none_right_eq_some] at h
    obtain ⟨_, h⟩ := h
    simp only [Option.some.injEq] at h; subst h
    obtain rfl := hx.flat rfl
    refine ⟨_, LRel.refl_lit (List.all_eq_true.2 fun x hx => ?_), ?_⟩
    · simp only [List.mem_map] at hx
      obtain ⟨b, _, rfl⟩ := hx
      rfl
    · show Result.ok _ w = _
      congr 1
      apply Array.ext'
      simp
  · simp at h

theorem firstRow_len {size n : Nat} {x : Value} {l : List Value} (h : firstRow size n x H = some l) (hn : ∀ m, lenO x = some m → n ≤ m) : l.length = n * size := by
  unfold firstRow at h
  split at h
  · rw [Option.ite_none_right_eq_some] at h
    obtain ⟨rfl, h⟩ := h
    simp only [Option.some.injEq] at h; subst h
    simp
  · split at h
    · simp at h
    · exact (row_cell h).1
  · rename_i s
    rw [Option.ite_none_right_eq_some] at h
    obtain ⟨rfl, h⟩ := h
    simp only [Option.some.injEq] at h; subst h
    have := hn s.size rfl
    have e : s.data.size = s.size := rfl
    simp [e]; omega
  · simp at h

theorem srcRow_sound (hR : R P ρ w0 H w) {size n : Nat} {x x' : Value} {l : List Value} (h : srcRow size n x H = some l) (hx : VRel ρ x x') (hn : ∀ m, lenO x = some m → n ≤ m) :
    ∃ l', LRel ρ l l' ∧ (Builtin.firstCells size n x').run P w = .ok l'.toArray w := by
  unfold srcRow at h
  split at h
  · simp only [Option.some.injEq] at h; subst h
    cases hx with
    | slc _ A' _ _ c' r =>
      refine ⟨[], LRel.nil, ?_⟩
      show (loadCells A' (0 * size)).run P w = _
      rw [Nat.zero_mul]; rfl
  · exact firstRow_sound hR h hx hn
theorem srcRow_len {size n : Nat} {x : Value} {l : List Value} (h : srcRow size n x H = some l) (hn : ∀ m, lenO x = some m → n ≤ m) : l.length = n * size := by
  unfold srcRow at h
  split at h
  · simp only [Option.some.injEq] at h; subst h; simp
  · exact firstRow_len h hn

theorem grow_le (newLen : Nat) : ∀ (r c : Nat), c ≤ 2 * newLen → 256 ≤ newLen → Builtin.growBy newLen r c ≤ 2 * newLen
  | 0, c, h, _ => h
  | r + 1, c, h, h2 => by
    unfold Builtin.growBy
    split
    · exact h
    · exact grow_le newLen r _ (by omega) h2
theorem nextcap_le {need cap : Nat} (h : cap < need) : Builtin.nextslicecap need cap ≤ 2 * need := by
  unfold Builtin.nextslicecap
  split
  · omega
  · split
    · omega
    · exact grow_le need 4 cap (by omega) (by omega)

theorem app_sound (hR : R P ρ w0 H w) {ats : Array TypeId} {args : Array Value} {t t2 ty e size bytes : Nat} {z s s' x x' : Value} {H' : AH} {d2 : TypeDesc} (h1 : ats[0]? = some t) (h2 : ats[1]? = some t2) (h3 : args[0]? = some s') (h4 : args[1]? = some x')
    (ht : P.underlying t = some (.slice e)) (ht2 : P.underlying t2 = some d2) (hnz : d2 = .string ∨ ∃ q, d2 = .slice q) (hsz : sizeO P e = some size) (hby : bytesO' P e = some bytes) (hz : zeroOf P e = some z) (hzs : z.cells.size = size)
    (h : app size bytes s x H = some (v, H')) (hs : VRel ρ s s') (hx : VRel ρ x x') :
    ∃ ρ' v' w', ρ.le ρ' ∧ (∀ b, b < H.next → ρ'.loc b = ρ.loc b) ∧ H.next ≤ H'.next ∧ R P ρ' w0 H' w' ∧ VRel ρ' v v' ∧ (Builtin.append_ ats ty args).run P w = .ok v' w' := by
  have hqi : (P.info? e).map (·.bytes) = some bytes := hby
  obtain ⟨ti, hti, htb⟩ := Option.map_eq_some_iff.1 hqi
  have hti' : ∀ w, (typeInfo e).run P w = .ok ti w := fun w => by simp [typeInfo, hti]
  unfold app at h
  split at h
  · rename_i base n c
    simp only [Option.bind_eq_some_iff] at h
    obtain ⟨m, hm, new, hnew, h⟩ := h
    have hlen := fun w => lenO_sound (P := P) hm hx w
    obtain ⟨new', hnr, hnrun⟩ := srcRow_sound hR hnew hx (fun k hk => by rw [hm] at hk; simp at hk; omega)
    split at h
    · simp at h
    · rename_i hpl
      have hpl : new.all plain1 = true := by simpa using hpl
      have hone : new'.length = new.length := hnr.1.symm
      have hone : new'.length = new.length := hnr.1.symm
      -- the run, in its two ways
      have runFits : ∀ (b' : Option Addr) (c' : Nat) (w' : World), s' = .slice b' n c' → n + m ≤ c' → (match b' with | none => (pure () : Sem Unit) | some a' => storeCells (a'.add (n * size)) new').run P w = .ok () w' →
          (Builtin.append_ ats ty args).run P w = .ok (.slice b' (n + m) c') w' := by
        intro b' c' w' hs' hle hst
        subst hs'
        cases b' with
        | none =>
          have hw : w' = w := by simp at hst; exact hst.symm
          subst hw
          rcases hnz with rfl | ⟨q, rfl⟩ <;>
            simp only [Builtin.append_, h1, h2, h3, h4, Sem.run_bind, run_underlying' ht, run_underlying' ht2, Result.andThen_ok, run_sizeOf' hsz, Sem.run_pure, Bool.false_eq_true, if_false, hlen, Sem.run_ite, if_pos hle, Bool.not_false, if_true, hnrun]
        | some a' =>
          have hst' : (storeCells (a'.add (n * size)) new').run P w = .ok () w' := hst
          rcases hnz with rfl | ⟨q, rfl⟩ <;>
            simp only [Builtin.append_, h1, h2, h3, h4, Sem.run_bind, run_underlying' ht, run_underlying' ht2, Result.andThen_ok, run_sizeOf' hsz, Sem.run_pure, Bool.false_eq_true, if_false, hlen, Sem.run_ite, if_pos hle, Bool.not_false, if_true, hnrun, hst']
      have runGrows : ∀ (b' : Option Addr) (c' : Nat) (old' new' : List Value), s' = .slice b' n c' → ¬ n + m ≤ c' → (n + m) * bytes ≤ 2 ^ 46 → n + m < 2 ^ 62 → bytes ≠ 0 → (Builtin.firstCells size n s').run P w.drew = .ok old'.toArray w.drew → (Builtin.firstCells size m x').run P w.drew = .ok new'.toArray w.drew →
          ∃ cap, n + m ≤ cap ∧ (Builtin.append_ ats ty args).run P w = .ok (.slice (some ⟨w.heap.size, 0, none⟩) (n + m) cap) (w.drew.alloc (.cells (old'.toArray ++ new'.toArray ++ Builtin.zeroCells z.cells (cap - (n + m))) e)) := by
        intro b' c' old' new' hs' hgt hbd hlt hb0 hold hnw
        subst hs'
        refine ⟨(Question.appendCap (n + m) c' e).cut (w.tape w.drawn (.appendCap (n + m) c' e)), by simp [Question.cut], ?_⟩
        have hch : (choose (.appendCap (n + m) c' e)).run P w = .ok ((Question.appendCap (n + m) c' e).cut (w.tape w.drawn (.appendCap (n + m) c' e))) w.drew := by
          rw [run_choose]; rfl
        generalize (Question.appendCap (n + m) c' e).cut (w.tape w.drawn (.appendCap (n + m) c' e)) = cap at *
        have g1 : ¬ ((((n + m : Nat)) : Int) > IntKind.i64.max ∧ (False ∨ ti.bytes = 0)) := by
          rintro ⟨g, _⟩
          have e : IntKind.i64.max = 9223372036854775807 := by decide
          rw [e] at g; omega
        have g2 : ¬ (Builtin.nextslicecap (n + m) c' * ti.bytes > 2 ^ 48) := by
          have := nextcap_le (need := n + m) (cap := c') (by omega)
          have h5 : Builtin.nextslicecap (n + m) c' * ti.bytes ≤ (2 * (n + m)) * ti.bytes := Nat.mul_le_mul_right _ this
          rw [Nat.mul_assoc, htb] at h5
          rw [htb]; omega
        have h0 : ti.bytes ≠ 0 := by rw [htb]; exact hb0
        rcases hnz with rfl | ⟨q, rfl⟩ <;>
          (simp only [Builtin.append_, h1, h2, h3, h4, Sem.run_bind, run_underlying' ht, run_underlying' ht2, Result.andThen_ok, run_sizeOf' hsz, Sem.run_pure, Bool.false_eq_true, if_false, hlen, Sem.run_ite, if_neg hgt, hti', Bool.not_false, if_true, g2, hch, run_askRoom, hold, hnw, run_zero' hz, h0, or_false, and_false]
           simp [newRow]
           rfl)
      have hnl := srcRow_len hnew (fun k hk => by rw [hm] at hk; simp at hk; omega)
      have hnl' : new'.length = m * size := by rw [hone]; exact hnl
      split at h
      · rename_i hle
        cases base with
        | none =>
          rw [Option.ite_none_right_eq_some] at h
          obtain ⟨hnil, h⟩ := h
          simp only [Option.some.injEq, Prod.mk.injEq] at h
          obtain ⟨rfl, rfl⟩ := h
          cases hs with
          | snil => exact ⟨ρ, _, w, ρ.le_refl, fun _ _ => rfl, Nat.le_refl _, hR, .snil _ _, runFits none c w rfl hle rfl⟩
        | some A =>
          simp only at h
          split at h
          · simp at h
          · rename_i hsp
            have hsp : A.spot = none := by simpa using hsp
            cases hs with
            | slc _ A' _ _ c' r =>
              have hcc : c ≤ c' := by
                rcases r with ⟨_, rfl | ⟨_, _, _, _, _, g, _⟩⟩ | ⟨_, rfl, _⟩ | ⟨_, rfl, _⟩
                · exact Nat.le_refl _
                · exact g
                · exact Nat.zero_le _
                · exact Nat.zero_le _
              have nothing : new = [] → (storeCells (A'.add (n * size)) new').run P w = .ok () w := by
                intro hn0
                have : new' = [] := List.eq_nil_of_length_eq_zero (by rw [hone, hn0]; rfl)
                rw [this]; rfl
              split at h
              · rename_i cs fx hg
                rw [Option.ite_none_right_eq_some] at h
                obtain ⟨hfit, h⟩ := h
                simp only [Option.some.injEq, Prod.mk.injEq] at h
                obtain ⟨rfl, rfl⟩ := h
                rcases r with ⟨ra, rc⟩ | hrest
                · obtain ⟨w1, q1, q2⟩ := hR.stored ra hsp hg (n * size) hfit hnr hpl
                  refine ⟨ρ, _, w1, ρ.le_refl, fun _ _ => rfl, Nat.le_refl _, q1, .slc _ _ _ _ _ (.inl ⟨ra, rc⟩), runFits (some A') c' w1 rfl (by omega) q2⟩
                · have hnc : n = 0 ∧ c = 0 := by rcases hrest with ⟨h1, h2, _⟩ | ⟨h1, h2, _⟩ <;> exact ⟨h1, h2⟩
                  obtain ⟨rfl, rfl⟩ := hnc
                  have hm0 : m = 0 := by omega
                  subst hm0
                  have hn0 : new = [] := List.eq_nil_of_length_eq_zero (by rw [hnl, Nat.zero_mul])
                  refine ⟨ρ, _, w, ρ.le_refl, fun _ _ => rfl, Nat.le_refl _, ?_, .slc _ _ _ _ _ (.inr hrest), runFits (some A') c' w rfl (by omega) (nothing hn0)⟩
                  rw [hn0, splice_nil, put_same hg (by simp)]; exact hR
              · rename_i f hg
                rw [Option.ite_none_right_eq_some] at h
                obtain ⟨hn0, h⟩ := h
                simp only [Option.some.injEq, Prod.mk.injEq] at h
                obtain ⟨rfl, rfl⟩ := h
                rcases r with ⟨ra, rc⟩ | ⟨_, _, hb, _, l, _, hl, _⟩ | ⟨q1, q2, q3, q4⟩
                · exact ⟨ρ, _, w, ρ.le_refl, fun _ _ => rfl, Nat.le_refl _, hR, .slc _ _ _ _ _ (.inl ⟨ra, rc⟩), runFits (some A') c' w rfl (by omega) (nothing hn0)⟩
                · have := (hR.own _ _ hl).2.2.2.2
                  rw [hg] at this; exact this.elim
                · exact ⟨ρ, _, w, ρ.le_refl, fun _ _ => rfl, Nat.le_refl _, hR, .slc _ _ _ _ _ (.inr (.inr ⟨by omega, q2, q3, q4⟩)), runFits (some A') c' w rfl (by omega) (nothing hn0)⟩
              · simp at h
      · rename_i hgt
        split at h
        · simp at h
        · rename_i hbd
          simp only [not_or, Nat.not_lt, Nat.not_le] at hbd
          obtain ⟨hb1, hb2, hb3, hb4⟩ := hbd
          simp only [Option.bind_eq_some_iff] at h
          obtain ⟨old, hold, h⟩ := h
          have hol := firstRow_len hold (fun k hk => by simp [lenO] at hk; omega)
          split at h
          · simp at h
          · -- a new block in the machine, too
            have realloc : ∀ (H0 : AH) (b' : Option Addr) (c' : Nat), R P ρ w0 H0 w → H0.next = H.next → s' = .slice b' n c' → ¬ n + m ≤ c' →
                ∃ ρ' v' w', ρ.le ρ' ∧ (∀ b, b < H.next → ρ'.loc b = ρ.loc b) ∧ H.next ≤ (H0.new (.cells (old ++ new) (some size))).next ∧ R P ρ' w0 (H0.new (.cells (old ++ new) (some size))) w' ∧ VRel ρ' (mkSlc (n + m) (n + m) H.next) v' ∧ (Builtin.append_ ats ty args).run P w = .ok v' w' := by
              intro H0 b' c' hR0 hn0 hs' hgt'
              obtain ⟨old', ho1, ho2⟩ := firstRow_sound hR.drew hold hs (fun k hk => by simp [lenO] at hk; omega)
              obtain ⟨nw, hw1, hw2⟩ := srcRow_sound hR.drew hnew hx (fun k hk => by rw [hm] at hk; simp at hk; omega)
              obtain ⟨cap, hcap, hrun⟩ := runGrows b' c' old' nw hs' hgt' hb1 hb2 hb4 ho2 hw2
              have hnone : ρ.loc H.next = none := by
                cases hq : ρ.loc H.next with
                | none => rfl
                | some q => have := (hR.own _ _ hq).2.1; omega
              have hlen1 : old'.length = n * size := by rw [← ho1.1]; exact hol
              have hlen2 : nw.length = m * size := by rw [← hw1.1]; exact hnl
              have hzc : (Builtin.zeroCells z.cells (cap - (n + m))).size = (cap - (n + m)) * size := by simp [Builtin.zeroCells, hzs]
              have hmul : n * size + m * size + (cap - (n + m)) * size = cap * size := by rw [← Nat.add_mul, ← Nat.add_mul]; congr 1; omega
              have hCs : (old'.toArray ++ nw.toArray ++ Builtin.zeroCells z.cells (cap - (n + m))).size = cap * size := by
                simp only [Array.size_append, hzc, List.size_toArray, hlen1, hlen2]; exact hmul
              have hRn := (hR0.drew).new (.cells (old ++ new) (some size))
              have hget : (H0.new (.cells (old ++ new) (some size))).get H.next = .cells (old ++ new) (some size) := by rw [← hn0]; exact AH.get_new_self _ _
              refine ⟨ρ.put H.next ⟨w.heap.size, 0, cap * size, some size⟩, _, _, Inj.le_put hnone, fun b hb => by simp only [Inj.put]; rw [if_neg (by omega)], by simp [AH.new, hn0], hRn.laid hR.nxt (by simp [AH.new, hn0]) hnone ⟨w.heap.size, 0, cap * size, some size⟩ (.cells (old'.toArray ++ nw.toArray ++ Builtin.zeroCells z.cells (cap - (n + m))) e) rfl ?_, ?_, hrun⟩
              · rw [hget]
                refine orel_cells (l := ⟨w.heap.size, 0, cap * size, some size⟩) rfl hCs (by rw [hCs]; simp only [List.length_append, hol, hnl]; omega) (fun i _ hh => by simp at hh) (fun i x hx => ?_)
                obtain ⟨y, hy, hr⟩ := (ho1.append hw1).get hx
                refine ⟨y, ?_, hr⟩
                have hi : i < (old'.toArray ++ nw.toArray).size := by
                  rcases Nat.lt_or_ge i (old' ++ nw).length with g | g
                  · simpa using g
                  · rw [List.getElem?_eq_none g] at hy; simp at hy
                rw [Array.getElem?_append_left hi, ← hy]
                simp
              · exact .slc _ _ _ _ _ (.inl ⟨.inr ⟨hR.nxt, rfl, ⟨w.heap.size, 0, cap * size, some size⟩, by simp [Inj.put], rfl⟩, .inr ⟨⟨w.heap.size, 0, cap * size, some size⟩, size, hR.nxt, by simp [Inj.put], rfl, hcap, by simp⟩⟩)
            cases base with
            | none =>
              simp only [Option.some.injEq, Prod.mk.injEq] at h
              obtain ⟨rfl, rfl⟩ := h
              have hs0 := hs
              cases hs0 with
              | snil => exact realloc H none c hR rfl rfl hgt
            | some A =>
              simp only at h
              have hs0 := hs
              cases hs0 with
              | slc _ A' _ _ c' r =>
                split at h
                · rename_i cs hg
                  simp only [Option.some.injEq, Prod.mk.injEq] at h
                  obtain ⟨rfl, rfl⟩ := h
                  refine realloc H (some A') c' hR rfl rfl ?_
                  rcases r with ⟨ra, rfl | ⟨l, e', _, hl, hfx, _⟩⟩ | ⟨_, _, _, _, l, e', hl, hfx, _⟩ | ⟨_, rfl, rfl, _⟩
                  · exact hgt
                  · have := (hR.own _ _ hl).2.2.2.2
                    rw [hg] at this
                    have := this.1
                    rw [hfx] at this; simp at this
                  · have := (hR.own _ _ hl).2.2.2.2
                    rw [hg] at this
                    have := this.1
                    rw [hfx] at this; simp at this
                  · exact hgt
                · rename_i f hg
                  simp only [Option.some.injEq, Prod.mk.injEq] at h
                  obtain ⟨rfl, rfl⟩ := h
                  refine realloc H (some A') c' hR rfl rfl ?_
                  rcases r with ⟨ra, rfl | ⟨l, e', _, hl, hfx, _⟩⟩ | ⟨_, _, _, _, l, e', hl, hfx, _⟩ | ⟨_, rfl, rfl, _⟩
                  · exact hgt
                  · have := (hR.own _ _ hl).2.2.2.2
                    rw [hg] at this; exact this.elim
                  · have := (hR.own _ _ hl).2.2.2.2
                    rw [hg] at this; exact this.elim
                  · exact hgt
                · rename_i cs e2 hg
                  rw [Option.ite_none_right_eq_some] at h
                  obtain ⟨rfl, h⟩ := h
                  simp only [Option.some.injEq, Prod.mk.injEq] at h
                  obtain ⟨rfl, rfl⟩ := h
                  have hbb : ρ.base ≤ A.block := by
                    rcases Nat.lt_or_ge A.block ρ.base with g | g
                    · have := hR.ro _ g
                      rw [hg] at this; exact this.elim
                    · exact g
                  by_cases hin : n + m ≤ c'
                  · -- in place
                    have facts : ∃ l o', ρ.loc A.block = some l ∧ A' = ⟨l.block, o', none⟩ ∧ o' + c' * e2 ≤ l.total ∧ (n = 0 ∨ ARel ρ A A') := by
                      rcases r with ⟨ra, rfl | ⟨l, e', _, hl, hfx, _, hoff⟩⟩ | ⟨h0, _, _, _, l, e', hl, hfx, hb, hsp, hoff⟩ | ⟨_, rfl, rfl, _⟩
                      · exact absurd hin hgt
                      · obtain rfl := flex_of_fits (s := e2) hR hl hfx (by rw [hg]; simp [fits])
                        refine ⟨l, A'.off, hl, ?_, hoff, .inr ra⟩
                        rcases ra with ⟨g, _⟩ | ⟨_, _, l2, hl2, rfl⟩
                        · omega
                        · rw [hl] at hl2; simp only [Option.some.injEq] at hl2; subst hl2; rfl
                      · obtain rfl := flex_of_fits (s := e2) hR hl hfx (by rw [hg]; simp [fits])
                        refine ⟨l, A'.off, hl, ?_, hoff, .inl h0⟩
                        obtain ⟨ab, ao, asp⟩ := A'
                        simp only at hb hsp
                        subst hb; subst hsp; rfl
                      · exact absurd hin hgt
                    obtain ⟨l, o', hl, rfl, hoff, harel⟩ := facts
                    obtain ⟨_, _, _, hlb, hol2⟩ := hR.own _ _ hl
                    rw [hg] at hol2
                    obtain ⟨hfx, C, te, fr, hC, hsz2, hle2, hfr, hcell⟩ := hol2
                    have hspA : A.spot = none := by
                      unfold firstRow at hold
                      simp only at hold
                      split at hold
                      · simp at hold
                      · rename_i g; simpa using g
                    -- the old elements, as the machine has them
                    have hold' : ∃ old', LRel ρ old old' ∧ ∀ j x, old'[j]? = some x → C[o' + j]? = some x := by
                      unfold firstRow at hold
                      simp only at hold
                      split at hold
                      · simp at hold
                      · rcases harel with rfl | ra
                        · rw [Nat.zero_mul] at hold
                          have : old = [] := List.eq_nil_of_length_eq_zero (row_cell hold).1
                          subst this
                          exact ⟨[], LRel.nil, fun j x hx => by simp at hx⟩
                        · obtain ⟨l', q1, q2, q3⟩ := hR.row ra hspA hold
                          refine ⟨l', q1, fun j x hx => ?_⟩
                          have := q3 j x hx
                          have hadd : (⟨l.block, o', none⟩ : Addr).add j = ⟨l.block, o' + j, none⟩ := by
                            unfold Addr.add; split
                            · simp [*]
                            · rfl
                          rw [hadd, cell_row hC] at this; exact this
                    obtain ⟨old', q1, q2⟩ := hold'
                    have hlen1 : old'.length = n * e2 := by rw [← q1.1]; exact hol
                    have hmul : n * e2 + m * e2 ≤ c' * e2 := by rw [← Nat.add_mul]; exact Nat.mul_le_mul_right _ hin
                    have honeC : ∀ x ∈ new', x.oneCell' = true := by
                      intro x hx
                      obtain ⟨i, hi⟩ := List.getElem?_of_mem hx
                      have hi2 : i < new.length := by
                        rw [hnr.1]
                        rcases Nat.lt_or_ge i new'.length with g | g
                        · exact g
                        · rw [List.getElem?_eq_none g] at hi; simp at hi
                      exact (hnr.2 i _ x (List.getElem?_eq_getElem hi2) hi).plain1 (List.all_eq_true.1 hpl _ (List.getElem_mem hi2))
                    have hadd : (⟨l.block, o', none⟩ : Addr).add (n * e2) = ⟨l.block, o' + n * e2, none⟩ := by
                      unfold Addr.add; split
                      · simp [*]
                      · rfl
                    have hst := run_storeCells' (P := P) (b := l.block) (o := o' + n * e2) (e := te) (fr := fr) new' 0 C w hC (by rw [hnl']; omega) (fun j hj => hfr j (by omega)) honeC
                    rw [Nat.add_zero] at hst
                    have hCl : C.toList.length = l.total := by simpa using hsz2
                    have hmoved := hR.moved hl (by rw [hg]; simp) (.cells (old ++ new) (some e2)) (.cells ⟨splice C.toList (o' + n * e2) new'⟩ te fr) (l' := ⟨l.block, o', l.total, some e2⟩) rfl (by
                      refine ⟨rfl, _, te, fr, rfl, ?_, ?_, hfr, ?_⟩
                      · show (splice C.toList (o' + n * e2) new').length = _
                        rw [splice_length (by rw [hCl, hnl']; omega)]; exact hCl
                      · simp only [List.length_append, hol, hnl]; omega
                      · intro i x hx
                        have harr : ∀ (l : List Value) (j : Nat), (⟨l⟩ : Array Value)[j]? = l[j]? := fun l j => by rw [← Array.getElem?_toList]
                        rw [harr, splice_get (by rw [hCl, hnl']; omega)]
                        dsimp only
                        by_cases g : i < n * e2
                        · rw [if_pos (by omega)]
                          rw [List.getElem?_append_left (by rw [hol]; exact g)] at hx
                          obtain ⟨y, hy, hr⟩ := q1.get hx
                          exact ⟨y, by rw [Array.getElem?_toList]; exact q2 i y hy, hr⟩
                        · rw [if_neg (by omega)]
                          rw [List.getElem?_append_right (by rw [hol]; omega), hol] at hx
                          obtain ⟨y, hy, hr⟩ := hnr.get hx
                          have hi : i - n * e2 < new'.length := by
                            rcases Nat.lt_or_ge (i - n * e2) new'.length with g | g
                            · exact g
                            · rw [List.getElem?_eq_none g] at hy; simp at hy
                          rw [if_pos (by omega)]
                          exact ⟨y, by rw [← hy]; congr 1; omega, hr⟩)
                    have hnone : ρ.loc H.next = none := by
                      cases hq : ρ.loc H.next with
                      | none => rfl
                      | some q => have := (hR.own _ _ hq).2.1; omega
                    refine ⟨ρ.put H.next ⟨l.block, o', l.total, some e2⟩, _, _, Inj.le_put hnone, fun b hb => by simp only [Inj.put]; rw [if_neg (by omega)], by simp [AH.new, AH.put], hmoved, ?_, runFits (some ⟨l.block, o', none⟩) c' _ rfl hin (by
                      show (storeCells ((⟨l.block, o', none⟩ : Addr).add (n * e2)) new').run P w = _
                      rw [hadd]; exact hst)⟩
                    exact .slc _ _ _ _ _ (.inl ⟨.inr ⟨hR.nxt, rfl, ⟨l.block, o', l.total, some e2⟩, by simp [Inj.put], by simp⟩, .inr ⟨⟨l.block, o', l.total, some e2⟩, e2, hR.nxt, by simp [Inj.put], rfl, hin, hoff⟩⟩)
                  · exact realloc (H.put A.block .dead) (some A') c' (hR.killed hbb) rfl rfl hin
                · simp at h
  · simp at h
end
end Go.AM
