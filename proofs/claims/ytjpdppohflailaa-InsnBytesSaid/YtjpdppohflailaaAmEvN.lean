/- THE ABSTRACT MACHINE: maps and iterators written. -/
import Derived.Test.YtjpdppohflailaaAmEvM
set_option linter.all false
namespace Go.AM
open Go.RowKit (Below)
section
variable {P : Program} {ρ : Inj} {T : Env} {a : Act} {v : Value} {w0 w : World} {H : AH}

theorem findE_at {kd : Nat} {k : Value} : ∀ (es : List MapEntry) (i : Nat) (u : Value), findE kd k es = some (some (i, u)) → ∃ e, es[i]? = some e ∧ e.val = u ∧ sameCell kd k e.key = some true
  | [], i, u, h => by simp [findE] at h
  | e :: es, i, u, h => by
    simp only [findE, Option.bind_eq_some_iff] at h
    obtain ⟨b, hb, h⟩ := h
    cases b with
    | true =>
      simp only [Option.some.injEq, Prod.mk.injEq] at h
      obtain ⟨rfl, rfl⟩ := h
      exact ⟨e, rfl, rfl, hb⟩
    | false =>
      simp only [Option.map_eq_some_iff] at h
      obtain ⟨q, hq, h⟩ := h
      cases q with
      | none => simp at h
      | some p =>
        obtain ⟨pp, hpp, h⟩ := h
        simp only [Option.some.injEq] at hpp; subst hpp
        simp only [Prod.mk.injEq] at h
        obtain ⟨rfl, rfl⟩ := h
        obtain ⟨e', h1, h2, h3⟩ := findE_at es p.1 p.2 hq
        exact ⟨e', by simpa using h1, h2, h3⟩

theorem bytes_eq {a b : ByteArray} (h : (a == b) = true) : a = b := by
  obtain ⟨x⟩ := a
  obtain ⟨y⟩ := b
  have e : x = y := by simpa using (show (x == y) = true from h)
  rw [e]
theorem bytes_refl (a : ByteArray) : (a == a) = true := by
  obtain ⟨x⟩ := a
  show (x == x) = true
  simp
theorem sameCell_true {kd : Nat} {x y : Value} (h : sameCell kd x y = some true) : y = x ∧ flat x = true ∧ Instr.sameBits 10000 x x = true := by
  unfold sameCell at h
  split at h
  · rw [Option.ite_none_right_eq_some] at h
    obtain ⟨rfl, h⟩ := h
    simp at h; subst h
    exact ⟨rfl, rfl, by simp [Instr.sameBits]⟩
  · rename_i s s'
    simp only [Option.some.injEq] at h
    have := bytes_eq h
    subst this
    exact ⟨rfl, rfl, by simp only [Instr.sameBits]; exact bytes_refl _⟩
  · simp at h; subst h
    exact ⟨rfl, rfl, by simp [Instr.sameBits]⟩
  · simp at h

theorem ERel.modify {es es' : List MapEntry} (h : ERel ρ es es') (i : Nat) (f f' : MapEntry → MapEntry) (hf : ∀ e e', e.born = e'.born ∧ VRel ρ e.key e'.key ∧ VRel ρ e.val e'.val → (f e).born = (f' e').born ∧ VRel ρ (f e).key (f' e').key ∧ VRel ρ (f e).val (f' e').val) :
    ERel ρ (es.modify i f) (es'.modify i f') := by
  refine ⟨by simp [h.len], fun j e e' he he' => ?_⟩
  rw [List.getElem?_modify] at he he'
  by_cases hij : i = j
  · subst hij
    simp only [if_true, Option.map_eq_map, Option.map_eq_some_iff] at he he'
    obtain ⟨x, hx, rfl⟩ := he
    obtain ⟨y, hy, rfl⟩ := he'
    exact hf _ _ (h.at_ _ _ _ hx hy)
  · simp only [hij, if_false] at he he'
    simp at he he'
    exact h.at_ _ _ _ he he'
theorem ERel.push {es es' : List MapEntry} (h : ERel ρ es es') {e e' : MapEntry} (he : e.born = e'.born ∧ VRel ρ e.key e'.key ∧ VRel ρ e.val e'.val) : ERel ρ (es ++ [e]) (es' ++ [e']) := by
  refine ⟨by simp [h.len], fun j x y hx hy => ?_⟩
  by_cases hj : j < es.length
  · rw [List.getElem?_append_left hj] at hx
    rw [List.getElem?_append_left (h.len ▸ hj)] at hy
    exact h.at_ _ _ _ hx hy
  · rw [List.getElem?_append_right (by omega)] at hx
    rw [List.getElem?_append_right (by have := h.len; omega), ← h.len] at hy
    cases hk : j - es.length with
    | zero => rw [hk] at hx hy; simp at hx hy; subst hx; subst hy; exact he
    | succ n => rw [hk] at hx; simp at hx
theorem ERel.eraseIdx {es es' : List MapEntry} (h : ERel ρ es es') (i : Nat) : ERel ρ (es.eraseIdx i) (es'.eraseIdx i) := by
  refine ⟨by rw [List.length_eraseIdx, List.length_eraseIdx, h.len], fun j x y hx hy => ?_⟩
  rw [List.getElem?_eraseIdx] at hx hy
  split at hx
  · rename_i hj; rw [if_pos hj] at hy; exact h.at_ _ _ _ hx hy
  · rename_i hj; rw [if_neg hj] at hy; exact h.at_ _ _ _ hx hy

/-- What is known where a map is written: the machine's block. -/
theorem R.mapAt (hR : R P ρ w0 H w) {r : Nat} {m' : Value} {es : List MapEntry} {cl : Nat} (hm : VRel ρ (.map (some r)) m') (hg : H.get r = .map es cl true) :
    ∃ l es', ρ.loc r = some l ∧ m' = .map (some l.block) ∧ w.heap[l.block]? = some (.map es' cl) ∧ ERel ρ es es'.toList ∧
      ∀ (fs : List MapEntry) (fs' : Array MapEntry) (c2 : Nat), ERel ρ fs fs'.toList → R P ρ w0 (H.put r (.map fs c2 true)) (World.setBlk w l.block (.map fs' c2)) := by
  cases hm with
  | map _ r' hr =>
    obtain ⟨es', h1, h2, h3⟩ := hR.map hr hg
    obtain ⟨_, l, hl, rfl⟩ := h3 rfl
    exact ⟨l, es', hl, rfl, h1, h2, fun fs fs' c2 hf => hR.wrote hl (by rw [hg]; simp) _ _ ⟨fs', rfl, hf⟩⟩

theorem run_setObj' {r : Nat} {es : Array MapEntry} {cl : Nat} (o : Obj) (hb : w.heap[r]? = some (.map es cl)) : (setObj r o).run P w = .ok () (World.setBlk w r o) := by
  simp [setObj, Sem.run, hb, World.setBlk]

theorem keyStays {es : List MapEntry} {es' : Array MapEntry} (he : ERel ρ es es'.toList) {kd i : Nat} {k k' u : Value} (hk : VRel ρ k k') (hf : findE kd k es = some (some (i, u))) (w : World) :
    (Instr.keyThatStays (((es'[i]?).map (·.key)).getD k') k').run P w = .ok k' w ∧ k' = k := by
  obtain ⟨e, h1, _, h3⟩ := findE_at es i u hf
  obtain ⟨h4, h5, h6⟩ := sameCell_true h3
  have hk' := hk.flat h5
  have hi : i < es'.toList.length := by
    rw [← he.len]
    rcases Nat.lt_or_ge i es.length with g | g
    · exact g
    · rw [List.getElem?_eq_none g] at h1; simp at h1
  have h7 := (he.at_ i e _ h1 (List.getElem?_eq_getElem hi)).2.1
  rw [h4] at h7
  have h8 := h7.flat h5
  have h9 : es'[i]? = some es'.toList[i] := by rw [← Array.getElem?_toList]; exact List.getElem?_eq_getElem hi
  subst hk'
  refine ⟨?_, rfl⟩
  rw [h9]
  simp only [Option.map_some, Option.getD_some, h8]
  simp [Instr.keyThatStays, h6]

theorem setMap_sound (hR : R P ρ w0 H w) {t kt e kd : Nat} {m m' k k' x x' : Value} {H' : AH} (ht : P.underlying t = some (.map kt e)) (hkd : kindO P kt = some kd) (h : setMap kd m k x H = some H') (hm : VRel ρ m m') (hk : VRel ρ k k') (hx : VRel ρ x x') :
    ∃ w', R P ρ w0 H' w' ∧ (Instr.mapUpdate t m' k' x').run P w = .ok () w' := by
  obtain ⟨d, hd, hkd'⟩ := kindO_of hkd
  unfold setMap at h
  split at h
  · rename_i r
    split at h
    · rename_i es cl hg
      obtain ⟨l, es', hl, rfl, hb, her, hw⟩ := hR.mapAt hm hg
      simp only [Option.map_eq_some_iff] at h
      obtain ⟨q, hq, rfl⟩ := h
      obtain ⟨q', g1, g2, g3⟩ := findE_sound hkd' hk es es'.toList q 0 hq her
      have hck := fun e => isKey_of (P := P) hkd' k' trivial w e kt 9999 hd
      have hfk := run_findKey' (P := P) hd g1 w
      have hgo := run_getObj_map (P := P) w _ _ _ hb
      cases q with
      | none =>
        have := g2 rfl; subst this
        refine ⟨_, hw (es ++ [{ key := k, val := x, born := cl }]) (es'.push { key := k', val := x', born := cl }) (cl + 1) (by simpa using her.push (e := { key := k, val := x, born := cl }) (e' := { key := k', val := x', born := cl }) ⟨rfl, hk, hx⟩), ?_⟩
        simp only [Instr.mapUpdate, Sem.run_bind, run_underlying' ht, Result.andThen_ok, hgo, hck, hfk]
        exact run_setObj' _ hb
      | some p =>
        obtain ⟨i, u⟩ := p
        obtain ⟨u', a1, _, _⟩ := g3 i u rfl
        subst a1
        obtain ⟨s1, s2⟩ := keyStays (P := P) her hk hq w
        rw [Nat.zero_add] at hfk
        refine ⟨_, hw (es.modify i fun e => { e with key := k, val := x }) (es'.modify i fun e => { e with key := k', val := x' }) cl (by rw [Array.toList_modify]; exact her.modify i _ _ (fun e e' h => ⟨h.1, hk, hx⟩)), ?_⟩
        simp only [Instr.mapUpdate, Sem.run_bind, run_underlying' ht, Result.andThen_ok, hgo, hck, hfk, s1]
        exact run_setObj' _ hb
    · simp at h
  · simp at h

theorem entryM_sound (hR : R P ρ w0 H w) {t kt e kd : Nat} {z m m' k k' : Value} {H' : AH} (ht : P.underlying t = some (.map kt e)) (hkd : kindO P kt = some kd) (hz : zeroOf P e = some z) (hlz : litV z = true) (h : entryM kd z m k H = some (v, H')) (hm : VRel ρ m m') (hk : VRel ρ k k') :
    ∃ v' w', R P ρ w0 H' w' ∧ VRel ρ v v' ∧ (Instr.mapEntry t m' k').run P w = .ok v' w' := by
  obtain ⟨d, hd, hkd'⟩ := kindO_of hkd
  unfold entryM at h
  split at h
  · rename_i r
    split at h
    · rename_i es cl hg
      obtain ⟨l, es', hl, rfl, hb, her, hw⟩ := hR.mapAt hm hg
      simp only [Option.map_eq_some_iff] at h
      obtain ⟨q, hq, h⟩ := h
      obtain ⟨q', g1, g2, g3⟩ := findE_sound hkd' hk es es'.toList q 0 hq her
      have hck := fun e => isKey_of (P := P) hkd' k' trivial w e kt 9999 hd
      have hfk := run_findKey' (P := P) hd g1 w
      have hgo := run_getObj_map (P := P) w _ _ _ hb
      cases q with
      | none =>
        have := g2 rfl; subst this
        simp only [Prod.mk.injEq] at h
        obtain ⟨rfl, rfl⟩ := h
        refine ⟨_, _, hw (es ++ [{ key := k, val := z, born := cl }]) (es'.push { key := k', val := z, born := cl }) (cl + 1) (by simpa using her.push (e := { key := k, val := z, born := cl }) (e' := { key := k', val := z, born := cl }) ⟨rfl, hk, litV_rel hlz⟩), (LRel.cons (litV_rel hlz) (LRel.cons (.int _ _) LRel.nil)).tuple, ?_⟩
        simp only [Instr.mapEntry, Sem.run_bind, run_underlying' ht, Result.andThen_ok, hgo, hck, hfk, run_zero' hz, run_setObj' (P := P) _ hb]
        rfl
      | some p =>
        obtain ⟨i, u⟩ := p
        obtain ⟨u', a1, hu, hi⟩ := g3 i u rfl
        subst a1
        obtain ⟨s1, s2⟩ := keyStays (P := P) her hk hq w
        rw [Nat.zero_add] at hfk
        simp only [Prod.mk.injEq] at h
        obtain ⟨rfl, rfl⟩ := h
        have hborn : ((es'[i]?).map (fun x => (x.born : Int))).getD 0 = ((es[i]?).map (fun x => (x.born : Int))).getD 0 := by
          have hi' : i < es'.toList.length := by rw [← her.len]; exact hi
          have h9 : es'[i]? = some es'.toList[i] := by rw [← Array.getElem?_toList]; exact List.getElem?_eq_getElem hi'
          rw [h9, List.getElem?_eq_getElem hi]
          simp only [Option.map_some, Option.getD_some]
          rw [(her.at_ i _ _ (List.getElem?_eq_getElem hi) (List.getElem?_eq_getElem hi')).1]
        refine ⟨_, _, hw (es.modify i fun e => { e with key := k }) (es'.modify i fun e => { e with key := k' }) cl (by rw [Array.toList_modify]; exact her.modify i _ _ (fun e e' h => ⟨h.1, hk, h.2.2⟩)), (LRel.cons hu (LRel.cons (.int _ _) LRel.nil)).tuple, ?_⟩
        simp only [Instr.mapEntry, Sem.run_bind, run_underlying' ht, Result.andThen_ok, hgo, hck, hfk, s1, run_setObj' (P := P) _ hb, hborn]
        rfl
    · simp at h
  · simp at h

theorem delMap_sound (hR : R P ρ w0 H w) {ats : Array TypeId} {args : Array Value} {t ty kt e kd : Nat} {m m' k k' : Value} {H' : AH} (h1 : ats[0]? = some t) (h2 : args[0]? = some m') (h3 : args[1]? = some k') (ht : P.underlying t = some (.map kt e)) (hkd : kindO P kt = some kd)
    (h : delMap kd m k H = some H') (hm : VRel ρ m m') (hk : VRel ρ k k') : ∃ w', R P ρ w0 H' w' ∧ (Builtin.delete_ ats ty args).run P w = .ok (.tuple #[]) w' := by
  obtain ⟨d, hd, hkd'⟩ := kindO_of hkd
  have hck := fun e => isKey_of (P := P) hkd' k' trivial w e kt 9999 hd
  unfold delMap at h
  split at h
  · simp only [Option.some.injEq] at h; subst h
    cases hm
    refine ⟨w, hR, ?_⟩
    simp only [Builtin.delete_, h1, h2, h3, Sem.run_bind, run_underlying' ht, Result.andThen_ok, hck]
    rfl
  · rename_i r
    split at h
    · rename_i es cl hg
      obtain ⟨l, es', hl, rfl, hb, her, hw⟩ := hR.mapAt hm hg
      simp only [Option.map_eq_some_iff] at h
      obtain ⟨q, hq, rfl⟩ := h
      obtain ⟨q', g1, g2, g3⟩ := findE_sound hkd' hk es es'.toList q 0 hq her
      have hfk := run_findKey' (P := P) hd g1 w
      have hgo := run_getObj_map (P := P) w _ _ _ hb
      cases q with
      | none =>
        have := g2 rfl; subst this
        refine ⟨w, hR, ?_⟩
        have hs : World.setBlk w l.block (.map es' cl) = w := setBlk_same hb
        simp only [Builtin.delete_, h1, h2, h3, Sem.run_bind, run_underlying' ht, Result.andThen_ok, hgo, hck, hfk, run_setObj' (P := P) _ hb, hs]
        rfl
      | some p =>
        obtain ⟨i, u⟩ := p
        obtain ⟨u', a1, hu, hi⟩ := g3 i u rfl
        subst a1
        rw [Nat.zero_add] at hfk
        have hi' : i < es'.size := by have := her.len; simp at this; omega
        refine ⟨_, hw (es.eraseIdx i) (es'.eraseIdxIfInBounds i) cl (by simp only [Array.eraseIdxIfInBounds, hi', dif_pos, Array.toList_eraseIdx]; exact her.eraseIdx i), ?_⟩
        simp only [Builtin.delete_, h1, h2, h3, Sem.run_bind, run_underlying' ht, Result.andThen_ok, hgo, hck, hfk, run_setObj' (P := P) _ hb]
        rfl
    · simp at h
  · simp at h

theorem entrySt_sound (hR : R P ρ w0 H w) {t : Nat} {m m' s s' x x' : Value} {H' : AH} (h : entrySt m s x H = some H') (hm : VRel ρ m m') (hs : VRel ρ s s') (hx : VRel ρ x x') :
    ∃ w', R P ρ w0 H' w' ∧ (Instr.entryStore t m' s' x').run P w = .ok () w' := by
  unfold entrySt at h
  split at h
  · rename_i r kd born
    obtain rfl := hs.flat rfl
    split at h
    · rename_i es cl hg
      obtain ⟨l, es', hl, rfl, hb, her, hw⟩ := hR.mapAt hm hg
      simp only [Option.map_eq_some_iff] at h
      obtain ⟨i, hi, rfl⟩ := h
      have hgo := run_getObj_map (P := P) w _ _ _ hb
      have hfi : ∀ (es es' : List MapEntry), ERel ρ es es' → es.findIdx? (fun e => (e.born : Int) == born) = es'.findIdx? (fun e => (e.born : Int) == born) := by
        intro es
        induction es with
        | nil => intro es' h; have : es' = [] := by have := h.len; cases es' <;> simp_all
                 subst this; rfl
        | cons e es ih =>
          intro es' h
          cases es' with
          | nil => have := h.len; simp at this
          | cons e' es' =>
            rw [List.findIdx?_cons, List.findIdx?_cons, (h.at_ 0 e e' rfl rfl).1, ih es' h.tail]
      have hi' : es'.findIdx? (fun e => (e.born : Int) == born) = some i := by
        rw [← hi, hfi es es'.toList her]
        cases es'
        rw [List.findIdx?_toArray]
      refine ⟨_, hw (es.modify i fun e => { e with val := x }) (es'.modify i fun e => { e with val := x' }) cl (by rw [Array.toList_modify]; exact her.modify i _ _ (fun e e' h => ⟨h.1, h.2.1, hx⟩)), ?_⟩
      simp only [Instr.entryStore, Sem.run_bind, hgo, Result.andThen_ok, asInt, asIntOf, Sem.run_pure, hi']
      exact run_setObj' _ hb
    · simp at h
  · simp at h
end
end Go.AM
