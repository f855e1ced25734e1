/- THE ABSTRACT MACHINE, AND A RUNNER OF CODE THAT THE KERNEL RECKONS. -/
import Derived.Test.YtfobgbnjicmnaaaGreatDoorKb9f5A0
set_option linter.all false
section
namespace Go.AM
open Go.RowKit (Below)
section
variable {P : Program} {ρ : Inj} {T : Env} {a : Act} {v : Value} {w0 w : World} {H : AH}
theorem copy_sound (hR : R P ρ w0 H w) {ats : Array TypeId} {args : Array Value} {t ty e size : Nat} {d d' x x' : Value} {H' : AH} (h1 : ats[0]? = some t) (h3 : args[0]? = some d') (h4 : args[1]? = some x')
    (ht : P.underlying t = some (.slice e)) (hsz : sizeO P e = some size) (h : copyM size d x H = some (v, H')) (hd : VRel ρ d d') (hx : VRel ρ x x') :
    ∃ w', H'.next = H.next ∧ R P ρ w0 H' w' ∧ VRel ρ v v ∧ (Builtin.copy_ ats ty args).run P w = .ok v w' := by
  unfold copyM at h
  split at h
  · rename_i base n c
    simp only [Option.bind_eq_some_iff] at h
    obtain ⟨m, hm, new, hnew, h⟩ := h
    have hlen := fun w => lenO_sound (P := P) hm hx w
    obtain ⟨new', hnr, hnrun⟩ := srcRow_sound hR hnew hx (fun k hk => by rw [hm] at hk; simp at hk; subst hk; exact Nat.min_le_left _ _)
    have hnl := srcRow_len hnew (fun k hk => by rw [hm] at hk; simp at hk; subst hk; exact Nat.min_le_left _ _)
    split at h
    · simp at h
    · rename_i hpl
      have hpl : new.all plain1 = true := by simpa using hpl
      cases base with
      | none =>
        simp only [Option.some.injEq, Prod.mk.injEq] at h
        obtain ⟨rfl, rfl⟩ := h
        cases hd with
        | snil =>
          refine ⟨w, rfl, hR, .int _ _, ?_⟩
          simp only [Builtin.copy_, h1, h3, h4, Sem.run_bind, run_underlying' ht, Result.andThen_ok, hlen, run_sizeOf' hsz, hnrun]
          rfl
      | some A =>
        simp only at h
        split at h
        · simp at h
        · rename_i hsp
          have hsp : A.spot = none := by simpa using hsp
          cases hd with
          | slc _ A' _ _ c' r =>
            have run : ∀ w', (storeCells A' new').run P w = .ok () w' → (Builtin.copy_ ats ty args).run P w = .ok (.int .i64 (Nat.min m n : Nat)) w' := by
              intro w' hst
              simp only [Builtin.copy_, h1, h3, h4, Sem.run_bind, run_underlying' ht, Result.andThen_ok, hlen, run_sizeOf' hsz, hnrun, hst]
              rfl
            split at h
            · rename_i cs fx hg
              rw [Option.ite_none_right_eq_some] at h
              obtain ⟨hfit, h⟩ := h
              simp only [Option.some.injEq, Prod.mk.injEq] at h
              obtain ⟨rfl, rfl⟩ := h
              rcases r with ⟨ra, rc⟩ | hrest
              · obtain ⟨w1, q1, q2⟩ := hR.stored ra hsp hg 0 (by simpa using hfit) hnr hpl
                rw [Nat.add_zero] at q1
                rw [add_zero] at q2
                exact ⟨w1, rfl, q1, .int _ _, run w1 q2⟩
              · have hnc : n = 0 := by rcases hrest with ⟨h1, _⟩ | ⟨h1, _⟩ <;> exact h1
                subst hnc
                have hn0 : new = [] := List.eq_nil_of_length_eq_zero (by rw [hnl]; simp)
                have : new' = [] := List.eq_nil_of_length_eq_zero (by rw [← hnr.1, hn0]; rfl)
                refine ⟨w, rfl, ?_, .int _ _, run w (by rw [this]; rfl)⟩
                rw [hn0, splice_nil, put_same hg (by simp)]; exact hR
            · rename_i f hg
              rw [Option.ite_none_right_eq_some] at h
              obtain ⟨hn0, h⟩ := h
              simp only [Option.some.injEq, Prod.mk.injEq] at h
              obtain ⟨rfl, rfl⟩ := h
              have : new' = [] := List.eq_nil_of_length_eq_zero (by rw [← hnr.1, hn0]; rfl)
              exact ⟨w, rfl, hR, .int _ _, run w (by rw [this]; rfl)⟩
            · simp at h
  · simp at h
theorem rangeS_sound (hR : R P ρ w0 H w) {t : Nat} {x x' : Value} {obj : AObj} {mkv : Nat → Value} (ht : P.underlying t = some .string) (h : rangeS x = some (obj, mkv)) (hx : VRel ρ x x') :
    ∃ ρ' v' w', ρ.le ρ' ∧ (∀ b, b < H.next → ρ'.loc b = ρ.loc b) ∧ R P ρ' w0 (H.new obj) w' ∧ VRel ρ' (mkv H.next) v' ∧ (Instr.range t x').run P w = .ok v' w' := by
  unfold rangeS at h
  split at h
  · rename_i s
    simp only [Option.some.injEq, Prod.mk.injEq] at h
    obtain ⟨rfl, rfl⟩ := h
    obtain rfl := hx.flat rfl
    have hnone : ρ.loc H.next = none := by
      cases hq : ρ.loc H.next with
      | none => rfl
      | some q => have := (hR.own _ _ hq).2.1; omega
    refine ⟨ρ.put H.next ⟨w.heap.size, 0, 0, none⟩, .pointer (some ⟨w.heap.size, 0, none⟩), w.alloc (.stringIter s 0), Inj.le_put hnone, fun b hb => by simp only [Inj.put]; rw [if_neg (by omega)], ?_, ?_, ?_⟩
    · refine (hR.new (.siter s 0)).laid hR.nxt (Nat.lt_succ_self _) hnone ⟨w.heap.size, 0, 0, none⟩ (.stringIter s 0) rfl ?_
      have hgn : (H.new (.siter s 0)).get H.next = .siter s 0 := AH.get_new_self _ _
      rw [hgn]
      exact ⟨rfl, rfl⟩
    · exact mkPtr_rel (l := ⟨w.heap.size, 0, 0, none⟩) hR.nxt (by simp [Inj.put]) rfl
    · simp [Instr.range, underlying, ht]
  · simp at h
theorem nextS_sound (hR : R P ρ w0 H w) {ty : Nat} {x x' : Value} {H' : AH} (h : nextS x H = some (v, H')) (hx : VRel ρ x x') :
    ∃ w', H'.next = H.next ∧ R P ρ w0 H' w' ∧ VRel ρ v v ∧ (Instr.next x' true ty).run P w = .ok v w' := by
  unfold nextS at h
  split at h
  · rename_i r
    split at h
    · rename_i s pos hg
      cases hx with
      | ptr _ A' ra =>
        rcases ra with ⟨hb, rfl⟩ | ⟨hb, _, l, hl, rfl⟩
        · have := hR.ro _ hb
          simp only at this
          rw [hg] at this; exact this.elim
        · have ho := (hR.own _ _ hl).2.2.2.2
          simp only at ho
          rw [hg] at ho
          obtain ⟨hs0, hobj⟩ := ho
          simp only [hs0, Nat.zero_add]
          have hgo : (getObj l.block).run P w = .ok (.stringIter s pos) w := by simp [getObj, Sem.run, hobj]
          split at h
          · rename_i hpos
            simp only [Option.some.injEq, Prod.mk.injEq] at h
            obtain ⟨rfl, rfl⟩ := h
            have hset : (setObj l.block (.stringIter s (pos + (Utf8.decode s pos).2))).run P w = .ok () (World.setBlk w l.block (.stringIter s (pos + (Utf8.decode s pos).2))) := by
              simp [setObj, Sem.run, hobj, World.setBlk]
            refine ⟨_, rfl, hR.wrote hl (by simp only; rw [hg]; simp) (.siter s (pos + (Utf8.decode s pos).2)) (.stringIter s (pos + (Utf8.decode s pos).2)) ⟨hs0, rfl⟩, (LRel.cons (.bool _) (LRel.cons (.int _ _) (LRel.cons (.int _ _) LRel.nil))).tuple, ?_⟩
            simp only [Instr.next, Sem.run_bind, hgo, Result.andThen_ok, hpos, if_true, hset]
            rfl
          · rename_i hpos
            simp only [Option.some.injEq, Prod.mk.injEq] at h
            obtain ⟨rfl, rfl⟩ := h
            refine ⟨w, rfl, hR, (LRel.cons (.bool _) LRel.nil).tuple, ?_⟩
            simp only [Instr.next, Sem.run_bind, hgo, Result.andThen_ok, hpos, if_false]
            rfl
    · simp at h
  · simp at h
theorem rangeM_sound (hR : R P ρ w0 H w) {t kt et : Nat} {x x' : Value} {obj : AObj} {mkv : Nat → Value} (ht : P.underlying t = some (.map kt et)) (h : rangeM x H = some (obj, mkv)) (hx : VRel ρ x x') :
    ∃ ρ' v' w', ρ.le ρ' ∧ (∀ b, b < H.next → ρ'.loc b = ρ.loc b) ∧ R P ρ' w0 (H.new obj) w' ∧ VRel ρ' (mkv H.next) v' ∧ (Instr.range t x').run P w = .ok v' w' := by
  have hnone : ρ.loc H.next = none := by
    cases hq : ρ.loc H.next with
    | none => rfl
    | some q => have := (hR.own _ _ hq).2.1; omega
  have fin : ∀ (o : AObj) (ob : Obj), ORel ρ ⟨w.heap.size, 0, 0, none⟩ o (some ob) → (Instr.range t x').run P w = .ok (.pointer (some ⟨w.heap.size, 0, none⟩)) (w.alloc ob) → obj = o → mkv = mkPtr →
      ∃ ρ' v' w', ρ.le ρ' ∧ (∀ b, b < H.next → ρ'.loc b = ρ.loc b) ∧ R P ρ' w0 (H.new obj) w' ∧ VRel ρ' (mkv H.next) v' ∧ (Instr.range t x').run P w = .ok v' w' := by
    rintro o ob ho hrun rfl rfl
    refine ⟨ρ.put H.next ⟨w.heap.size, 0, 0, none⟩, .pointer (some ⟨w.heap.size, 0, none⟩), w.alloc ob, Inj.le_put hnone, fun b hb => by simp only [Inj.put]; rw [if_neg (by omega)], ?_, ?_, hrun⟩
    · refine (hR.new obj).laid hR.nxt (Nat.lt_succ_self _) hnone ⟨w.heap.size, 0, 0, none⟩ ob rfl ?_
      rw [AH.get_new_self]
      exact ho
    · exact mkPtr_rel (l := ⟨w.heap.size, 0, 0, none⟩) hR.nxt (by simp [Inj.put]) rfl
  unfold rangeM at h
  split at h
  · simp only [Option.some.injEq, Prod.mk.injEq] at h
    obtain ⟨rfl, rfl⟩ := h
    cases hx
    exact fin (.miter none 0 [] 0) (.mapIter none 0 #[] 0) ⟨rfl, rfl⟩ (by simp [Instr.range, underlying, ht]) rfl rfl
  · rename_i r
    split at h
    · rename_i es cl rw_ hg
      simp only [Option.some.injEq, Prod.mk.injEq] at h
      obtain ⟨rfl, rfl⟩ := h
      cases hx with
      | map _ r' hr =>
        obtain ⟨es', h3, h4, _⟩ := hR.map hr hg
        have h5 := run_getObj_map (P := P) w _ _ _ h3
        exact fin (.miter (some r) cl [] cl) (.mapIter (some r') cl #[] cl) ⟨rfl, r', hr, rfl⟩ (by simp [Instr.range, underlying, ht, h5]) rfl rfl
    · simp at h
  · simp at h
theorem nextM_sound (hR : R P ρ w0 H w) {ty : Nat} {x x' : Value} {K : Value → AH → Prop} (h : nextM x H K) (hx : VRel ρ x x') :
    ∃ v v' H' w', H'.next = H.next ∧ R P ρ w0 H' w' ∧ VRel ρ v v' ∧ (Instr.next x' false ty).run P w = .ok v' w' ∧ K v H' := by
  unfold nextM at h
  split at h
  · rename_i r
    split at h
    · rename_i since seen last hg
      cases hx with
      | ptr _ A' ra =>
        rcases ra with ⟨hb, rfl⟩ | ⟨hb, _, l, hl, rfl⟩
        · have := hR.ro _ hb
          simp only at this
          rw [hg] at this; exact this.elim
        · have ho := (hR.own _ _ hl).2.2.2.2
          simp only at ho
          rw [hg] at ho
          obtain ⟨hs0, hobj⟩ := ho
          simp only [hs0, Nat.zero_add]
          have hgo : (getObj l.block).run P w = .ok (.mapIter none since seen.toArray last) w := by simp [getObj, Sem.run, hobj]
          exact ⟨_, .tuple #[.bool false], H, w, rfl, hR, (LRel.cons (.bool _) LRel.nil).tuple, by simp only [Instr.next, Sem.run_bind, hgo, Result.andThen_ok]; rfl, h⟩
    · rename_i m since seen last hg
      split at h
      · rename_i es cl rw_ hgm
        obtain ⟨hne, hstep, hend⟩ := h
        cases hx with
        | ptr _ A' ra =>
          rcases ra with ⟨hb, rfl⟩ | ⟨hb, _, l, hl, rfl⟩
          · have := hR.ro _ hb
            simp only at this
            rw [hg] at this; exact this.elim
          · have ho := (hR.own _ _ hl).2.2.2.2
            simp only at ho
            rw [hg] at ho
            obtain ⟨hs0, r', hr, hobj⟩ := ho
            obtain ⟨es', h3, h4, _⟩ := hR.map hr hgm
            simp only [hs0, Nat.zero_add]
            have hgo : (getObj l.block).run P w = .ok (.mapIter (some r') since seen.toArray last) w := by simp [getObj, Sem.run, hobj]
            have hgm' := run_getObj_map (P := P) w _ _ _ h3
            have hborn : ∀ e' ∈ es', ∃ e ∈ es, e.born = e'.born ∧ VRel ρ e.key e'.key ∧ VRel ρ e.val e'.val := by
              intro e' he'
              obtain ⟨i, hi, rfl⟩ := Array.getElem_of_mem he'
              have hl' := h4.len
              simp only [Array.length_toList] at hl'
              have hi2 : i < es.length := by omega
              exact ⟨es[i], List.getElem_mem hi2, h4.at_ i _ _ (List.getElem?_eq_getElem hi2) (by simp [hi])⟩
            have hborn2 : ∀ e ∈ es, ∃ e' ∈ es', e.born = e'.born := by
              intro e he
              obtain ⟨i, hi, rfl⟩ := List.getElem_of_mem he
              have hl' := h4.len
              simp only [Array.length_toList] at hl'
              have hi2 : i < es'.size := by omega
              exact ⟨es'[i], Array.getElem_mem hi2, (h4.at_ i _ _ (List.getElem?_eq_getElem hi) (by simp [hi2])).1⟩
            have hguard : (!seen.toArray.isEmpty && !es'.isEmpty && es'.all fun x => decide (x.born ≥ last)) = false := by
              cases hb : (!seen.toArray.isEmpty && !es'.isEmpty && es'.all fun x => decide (x.born ≥ last)) with
              | false => rfl
              | true =>
                exfalso
                simp only [Bool.and_eq_true, Bool.not_eq_true', Array.all_eq_true_iff_forall_mem, decide_eq_true_eq] at hb
                obtain ⟨⟨b1, b2⟩, b3⟩ := hb
                refine hne ⟨by rintro rfl; simp at b1, ?_, ?_⟩
                · rintro rfl
                  have := h4.len
                  simp at this
                  have : es' = #[] := Array.eq_empty_of_size_eq_zero this.symm
                  subst this; simp at b2
                · rw [List.all_eq_true]
                  intro e he
                  obtain ⟨e', he', hbe⟩ := hborn2 e he
                  have := b3 e' he'
                  simp; omega
            generalize hcand : ((if ((es'.filter fun e => !seen.toArray.contains e.born).filter fun x => decide (x.born < since)).isEmpty = true then #[none] else #[]) ++ (((es'.filter fun e => !seen.toArray.contains e.born).filter fun x => decide (x.born < since)) ++ ((es'.filter fun e => !seen.toArray.contains e.born).filter fun x => decide (x.born ≥ since))).map some : Array (Option MapEntry)) = cand
            have hsize : 0 < cand.size := by
              rw [← hcand]
              by_cases he : ((es'.filter fun e => !seen.toArray.contains e.born).filter fun x => decide (x.born < since)).isEmpty = true
              · rw [if_pos he]; simp; omega
              · rw [if_neg he]
                have : 0 < ((es'.filter fun e => !seen.toArray.contains e.born).filter fun x => decide (x.born < since)).size := by
                  rw [Array.isEmpty_iff] at he
                  exact Array.size_pos_iff.2 he
                simp only [Array.size_append, Array.size_map]
                omega
            have hch : ∃ n w1, (choose (.mapNext cand.size)).run P w = .ok n w1 ∧ n < cand.size ∧ R P ρ w0 H w1 ∧ w1.heap = w.heap := by
              by_cases hf : (Question.mapNext cand.size).forced = true
              · exact ⟨0, w, by rw [run_choose, if_pos hf], hsize, hR, rfl⟩
              · exact ⟨_, w.drew, by rw [run_choose, if_neg hf]; rfl, Nat.mod_lt _ hsize, hR.drew, rfl⟩
            obtain ⟨n, w1, hch, hlt, hdrew, hheap⟩ := hch
            have hrun : ∀ (q : Option MapEntry), cand[n]? = some q → (Instr.next (.pointer (some ⟨l.block, 0, none⟩)) false ty).run P w = ((match q with
                | some e => (do setObj l.block (.mapIter (some r') since (seen.toArray.push e.born) cl); pure (.tuple #[.bool true, e.key, e.val]) : Sem Value)
                | none => pure (.tuple #[.bool false])).run P w1) := by
              intro q hq
              simp only [Instr.next, Sem.run_bind, hgo, hgm', Result.andThen_ok, hguard, Bool.false_eq_true, if_false]
              simp only [Sem.run_pure, Sem.run_bind, Result.andThen_ok, hcand, hch, hq]
              cases q <;> rfl
            have hq : cand[n]? = some cand[n] := Array.getElem?_eq_getElem hlt
            have hmem : cand[n] ∈ cand := Array.getElem_mem hlt
            cases hc : cand[n] with
            | none =>
              rw [hc] at hq hmem
              refine ⟨_, .tuple #[.bool false], H, w1, rfl, hdrew, (LRel.cons (.bool _) LRel.nil).tuple, (hrun _ hq).trans rfl, hend fun e he hs => ?_⟩
              apply Classical.byContradiction
              intro hns
              obtain ⟨e', he', hbe⟩ := hborn2 e he
              rw [← hcand] at hmem
              by_cases hemp : ((es'.filter fun e => !seen.toArray.contains e.born).filter fun x => decide (x.born < since)).isEmpty = true
              · rw [Array.isEmpty_iff] at hemp
                have : e' ∈ ((es'.filter fun e => !seen.toArray.contains e.born).filter fun x => decide (x.born < since)) := by
                  simp only [Array.mem_filter, decide_eq_true_eq, Bool.not_eq_true']
                  refine ⟨⟨he', ?_⟩, by omega⟩
                  rw [← hbe]
                  simpa using hns
                rw [hemp] at this
                simp at this
              · rw [if_neg hemp] at hmem
                simp at hmem
            | some e' =>
              rw [hc] at hq hmem
              have he' : e' ∈ es' ∧ e'.born ∉ seen := by
                rw [← hcand] at hmem
                simp only [Array.mem_append, Array.mem_map, Array.mem_filter, Option.some.injEq, exists_eq_right, Bool.not_eq_true', decide_eq_true_eq] at hmem
                rcases hmem with hmem | (⟨⟨g1, g2⟩, _⟩ | ⟨⟨g1, g2⟩, _⟩)
                · exfalso
                  split at hmem <;> simp at hmem
                · exact ⟨g1, by simpa using g2⟩
                · exact ⟨g1, by simpa using g2⟩
              obtain ⟨e, he, hbe, hk, hv⟩ := hborn e' he'.1
              have hset : (setObj l.block (.mapIter (some r') since (seen.toArray.push e'.born) cl)).run P w1 = .ok () (World.setBlk w1 l.block (.mapIter (some r') since (seen.toArray.push e'.born) cl)) := by
                simp [setObj, Sem.run, hheap, hobj, World.setBlk]
              refine ⟨_, .tuple #[.bool true, e'.key, e'.val], H.put r (.miter (some m) since (seen ++ [e.born]) cl), _, rfl, hdrew.wrote hl (by simp only; rw [hg]; simp) (.miter (some m) since (seen ++ [e.born]) cl) (.mapIter (some r') since (seen.toArray.push e'.born) cl) ⟨hs0, r', hr, by rw [hbe]; simp⟩, (LRel.cons (.bool _) (LRel.cons hk (LRel.cons hv LRel.nil))).tuple, ?_, hstep e he (by rw [hbe]; exact he'.2)⟩
              rw [hrun _ hq]
              simp only [Sem.run_bind, hset, Result.andThen_ok]
              rfl
      · exact h.elim
    · exact h.elim
  · exact h.elim
def Post (P : Program) (ρ : Inj) (w0 : World) (n : Nat) (K : Value → AH → Prop) (v' : Value) (w' : World) : Prop :=
  ∃ ρ' v H', ρ.le ρ' ∧ (∀ b, b < n → ρ'.loc b = ρ.loc b) ∧ n ≤ H'.next ∧ R P ρ' w0 H' w' ∧ VRel ρ' v v' ∧ K v H'
def Enters (P : Program) (f : FuncId) : Prop := ∃ fn, P.funcs[f]? = some fn ∧ fn.body.isNone = false ∧ (fn.name == "runtime.NumGoroutine") = false
def Told (P : Program) : CallT := fun f args H K => (Enters P f ∧ ∀ ρ w0 w args', R P ρ w0 H w → LRel ρ args args'.toList →
  Calls P f args' w (fun e w' => ∃ v', e = .returned v' ∧ Post P ρ w0 H.next K v' w')) ∨
  (∀ ρ w0 w args', R P ρ w0 H w → LRel ρ args args'.toList → ∃ v' w', (callFunc f args').run P w = .ok (.value v') w' ∧ Post P ρ w0 H.next K v' w')
def CallOk (P : Program) (call : CallT) : Prop := ∀ f args H K, call f args H K → Told P f args H K
theorem run_callFunc' {f : FuncId} (h : Enters P f) (args : Array Value) (w : World) : (callFunc f args).run P w = .ok (.enter f args) w := by
  obtain ⟨fn, h1, h2, h3⟩ := h
  unfold callFunc
  simp only [Sem.run_bind, run_program, Result.andThen_ok, h1, h2, h3, Bool.false_eq_true, if_false]
  rfl
def Comes' (P : Program) (s : Sem Next) (w : World) (Q : Value → World → Prop) : Prop :=
  (∃ v' w', s.run P w = .ok (.value v') w' ∧ Q v' w') ∨ (∃ w', s.run P w = .ok .skip w' ∧ Q undef w') ∨
  (∃ f args w1, s.run P w = .ok (.enter f args) w1 ∧ Calls P f args w1 (fun e w' => ∃ v', e = .returned v' ∧ Q v' w'))
theorem post_same {K : Value → AH → Prop} {v v' : Value} {H' : AH} {w' : World} (hn : H.next ≤ H'.next) (hR : R P ρ w0 H' w') (hv : VRel ρ v v') (hk : K v H') : Post P ρ w0 H.next K v' w' :=
  ⟨ρ, v, H', ρ.le_refl, fun _ _ => rfl, hn, hR, hv, hk⟩
theorem opt2_inv {α β : Type} {o : Option (α × β)} {K : α → β → Prop} (h : opt2 o K) : ∃ x y, o = some (x, y) ∧ K x y := by
  cases o with
  | none => exact h.elim
  | some p => exact ⟨p.1, p.2, rfl, h⟩
theorem opt_inv {α : Type} {o : Option α} {K : α → Prop} (h : opt o K) : ∃ x, o = some x ∧ K x := by
  cases o with
  | none => exact h.elim
  | some p => exact ⟨p, rfl, h⟩
theorem mk_inv {o : Option (AObj × (Nat → Value))} {K : Value → AH → Prop} (h : mk o H K) : ∃ obj m, o = some (obj, m) ∧ K (m H.next) (H.new obj) := by
  cases o with
  | none => exact h.elim
  | some p => exact ⟨p.1, p.2, rfl, h⟩
theorem put_next (b : Nat) (o : AObj) : (H.put b o).next = H.next := rfl
theorem setMap_next {kd : Nat} {m k x : Value} {H' : AH} (h : setMap kd m k x H = some H') : H'.next = H.next := by
  unfold setMap at h
  split at h
  · split at h
    · simp only [Option.map_eq_some_iff] at h
      obtain ⟨q, _, rfl⟩ := h
      split <;> rfl
    · simp at h
  · simp at h
theorem entryM_next {kd : Nat} {z m k : Value} {H' : AH} (h : entryM kd z m k H = some (v, H')) : H'.next = H.next := by
  unfold entryM at h
  split at h
  · split at h
    · simp only [Option.map_eq_some_iff] at h
      obtain ⟨q, _, h⟩ := h
      cases q with
      | none => simp only [Prod.mk.injEq] at h; rw [← h.2]; rfl
      | some p => obtain ⟨i, u⟩ := p; simp only [Prod.mk.injEq] at h; rw [← h.2]; rfl
    · simp at h
  · simp at h
theorem entrySt_next {m s x : Value} {H' : AH} (h : entrySt m s x H = some H') : H'.next = H.next := by
  unfold entrySt at h
  split at h
  · split at h
    · simp only [Option.map_eq_some_iff] at h
      obtain ⟨q, _, rfl⟩ := h
      rfl
    · simp at h
  · simp at h
theorem clearS_next {z : List Value} {x : Value} {H' : AH} (h : clearS z x H = some H') : H'.next = H.next := by
  unfold clearS at h
  split at h
  · simp only [Option.some.injEq] at h; rw [← h]
  · split at h
    · simp only [Option.some.injEq] at h; rw [← h]
    · split at h
      · simp at h
      · split at h
        · rw [Option.ite_none_right_eq_some] at h
          obtain ⟨_, h⟩ := h
          simp only [Option.some.injEq] at h; rw [← h]; rfl
        · simp at h
  · simp at h
theorem clear_sound (hR : R P ρ w0 H w) {ats : Array TypeId} {args : Array Value} {t ty e : Nat} {z x x' : Value} {H' : AH} (h1 : ats[0]? = some t) (h2 : args[0]? = some x') (ht : P.underlying t = some (.slice e)) (hz : zeroOf P e = some z)
    (h : clearS z.cells.toList x H = some H') (hx : VRel ρ x x') : ∃ w', R P ρ w0 H' w' ∧ (Builtin.clear_ ats ty args).run P w = .ok (.tuple #[]) w' := by
  unfold clearS at h
  split at h
  · rename_i n c
    simp only [Option.some.injEq] at h; subst h
    cases hx with
    | snil =>
      refine ⟨w, hR, ?_⟩
      simp only [Builtin.clear_, h1, h2, Sem.run_bind, run_underlying' ht, Result.andThen_ok]
      rfl
  · rename_i a n c
    cases hx with
    | slc _ a' _ _ c' r =>
      split at h
      · simp only [Option.some.injEq] at h; subst h
        refine ⟨w, hR, ?_⟩
        simp only [Builtin.clear_, h1, h2, Sem.run_bind, run_underlying' ht, Result.andThen_ok]
        rfl
      · rename_i m
        split at h
        · simp at h
        · rename_i hs
          simp only [Bool.or_eq_true, Bool.not_eq_true', not_or, Bool.not_eq_true, Option.isSome_eq_false_iff, Option.isNone_iff_eq_none, Bool.not_eq_false] at hs
          obtain ⟨⟨hsp, hlit⟩, hpl⟩ := hs
          split at h
          · rename_i cs fx hg
            rw [Option.ite_none_right_eq_some] at h
            obtain ⟨hfit, h⟩ := h
            simp only [Option.some.injEq] at h; subst h
            have hza : z.cells.toList.toArray = z.cells := by simp
            rw [hza] at *
            have hmem : ∀ v ∈ repl ((m + 1) * z.cells.toList.length) z.cells, v ∈ z.cells.toList := by
              intro v hv
              simp only [repl, Array.toList_map, List.mem_map, Array.toList_range, List.mem_range] at hv
              obtain ⟨i, hi, rfl⟩ := hv
              have hpos : 0 < z.cells.size := by
                apply Nat.pos_of_ne_zero
                intro h0
                simp [h0] at hi
              rw [getElem!_pos z.cells _ (Nat.mod_lt _ hpos)]
              simp
            have hl : LRel ρ (repl ((m + 1) * z.cells.toList.length) z.cells) (repl ((m + 1) * z.cells.toList.length) z.cells) := by
              apply LRel.refl_lit
              rw [List.all_eq_true] at hlit ⊢
              exact fun v hv => hlit v (hmem v hv)
            have hp : (repl ((m + 1) * z.cells.toList.length) z.cells).all plain1 = true := by
              rw [List.all_eq_true] at hpl ⊢
              exact fun v hv => hpl v (hmem v hv)
            rcases r with ⟨ra, rc⟩ | hrest
            · obtain ⟨w1, q1, q2⟩ := hR.stored ra hsp hg 0 (by simpa using hfit) hl hp
              rw [Nat.add_zero] at q1
              rw [add_zero] at q2
              refine ⟨w1, q1, ?_⟩
              have e : (Builtin.zeroCells z.cells (m + 1)).toList = repl ((m + 1) * z.cells.toList.length) z.cells := by simp [Builtin.zeroCells, repl]
              simp only [Builtin.clear_, h1, h2, Sem.run_bind, run_underlying' ht, Result.andThen_ok, run_zero' hz, e, q2]
              rfl
            · rcases hrest with ⟨h1, _⟩ | ⟨h1, _⟩ <;> simp at h1
          · simp at h
  · simp at h
theorem delMap_next {kd : Nat} {m k : Value} {H' : AH} (h : delMap kd m k H = some H') : H'.next = H.next := by
  unfold delMap at h
  split at h
  · simp only [Option.some.injEq] at h; rw [← h]
  · split at h
    · simp only [Option.map_eq_some_iff] at h
      obtain ⟨q, _, rfl⟩ := h
      split <;> rfl
    · simp at h
  · simp at h
theorem store1_next {p x : Value} {H' : AH} (h : store1 p x H = some H') : H'.next = H.next := by
  unfold store1 at h
  split at h
  · split at h
    · simp at h
    · split at h
      · rw [Option.ite_none_right_eq_some] at h
        obtain ⟨_, h⟩ := h
        simp only [Option.some.injEq] at h; rw [← h]; rfl
      · simp at h
  · simp at h
theorem storeN_next {n : Nat} {p x : Value} {H' : AH} (h : storeN n p x H = some H') : H'.next = H.next := by
  unfold storeN at h
  split at h
  · split at h
    · simp at h
    · split at h
      · rw [Option.ite_none_right_eq_some] at h
        obtain ⟨_, h⟩ := h
        simp only [Option.some.injEq] at h; rw [← h]; rfl
      · simp at h
  · simp at h
theorem callV_sound {call : CallT} (hcall : CallOk P call) (hR : R P ρ w0 H w) {f f' : Value} {args : List Value} {args' : Array Value} {K : Value → AH → Prop} (h : callV call f args H K) (hf : VRel ρ f f') (ha : LRel ρ args args'.toList) :
    ∃ d, (Deferred.ofValue f' args').run P w = .ok d w ∧ ((∃ g as, (invoke d.target d.args).run P w = .ok (.enter g as) w ∧ Calls P g as w (fun e w' => ∃ v', e = .returned v' ∧ Post P ρ w0 H.next K v' w')) ∨
      (∃ v' w', (invoke d.target d.args).run P w = .ok (.value v') w' ∧ Post P ρ w0 H.next K v' w')) := by
  unfold callV at h
  split at h
  · rename_i g first cap
    cases hf with
    | func _ f1 f1' c1 c1' e1 r1 e2 r2 =>
      have hrel : LRel ρ (f1 ++ args ++ c1) ((⟨f1'⟩ ++ args' ++ ⟨c1'⟩ : Array Value).toList) := by
        simp only [Array.toList_append]
        exact (LRel.append (LRel.append ⟨e1, r1⟩ ha) ⟨e2, r2⟩)
      refine ⟨_, rfl, ?_⟩
      rcases hcall _ _ _ _ h with ⟨he, hc⟩ | hx
      · refine .inl ⟨g, ⟨f1'⟩ ++ args' ++ ⟨c1'⟩, ?_, hc ρ w0 w _ hR hrel⟩
        show (callFunc g (⟨f1'⟩ ++ args' ++ ⟨c1'⟩)).run P w = _
        exact run_callFunc' he _ w
      · obtain ⟨v', w', h1, h2⟩ := hx ρ w0 w _ hR hrel
        exact .inr ⟨v', w', h1, h2⟩
  · exact h.elim
theorem evM_sound {call : CallT} (hcall : CallOk P call) (hR : R P ρ w0 H w) (hT : TRel ρ T a) {o : Oper} (hok : ∀ x ∈ o.op.operands.toList, opOk P x = true) (hty : opTyOk P o.op = true) {K : Value → AH → Prop} (h : evM P call T o.op H K) :
    Comes' P (execOp a.eval o) w (Post P ρ w0 H.next K) := by
  have hg := hR.glob
  have val : ∀ {s : Sem Value}, execOp a.eval o = (do pure (.value (← s)) : Sem Next) → (∃ v' w', s.run P w = .ok v' w' ∧ Post P ρ w0 H.next K v' w') → Comes' P (execOp a.eval o) w (Post P ρ w0 H.next K) := by
    rintro s hs ⟨v', w', h1, h2⟩
    exact .inl ⟨v', w', by rw [hs]; simp [h1], h2⟩
  have unit : ∀ {s : Sem Unit}, execOp a.eval o = (do s; pure .skip : Sem Next) → (∃ w', s.run P w = .ok () w' ∧ Post P ρ w0 H.next K undef w') → Comes' P (execOp a.eval o) w (Post P ρ w0 H.next K) := by
    rintro s hs ⟨w', h1, h2⟩
    exact .inr (.inl ⟨w', by rw [hs]; simp [h1], h2⟩)
  cases hop : o.op with
  | store t p x =>
    rw [hop] at h hok
    simp only [evM] at h
    have hp := ev_rel hg hT (hok p (by simp [Op.operands]))
    have hx := ev_rel hg hT (hok x (by simp [Op.operands]))
    split at h
    · rename_i n h1 h2
      obtain ⟨H', hs, hk⟩ := opt_inv h
      obtain ⟨w', r1, r2⟩ := storeN_sound hR h2 hs hp hx
      exact unit (by simp only [execOp, hop]) ⟨w', r2, post_same (by rw [storeN_next hs]; exact Nat.le_refl _) r1 (.any _) hk⟩
    · rename_i h1 h2
      obtain ⟨H', hs, hk⟩ := opt_inv h
      obtain ⟨w', r1, r2⟩ := store1_sound hR h2 hs hp hx
      exact unit (by simp only [execOp, hop]) ⟨w', r2, post_same (by rw [store1_next hs]; exact Nat.le_refl _) r1 (.any _) hk⟩
    · exact h.elim
  | mapUpdate t m k x =>
    rw [hop] at h hok
    simp only [evM] at h
    have hm := ev_rel hg hT (hok m (by simp [Op.operands]))
    have hk := ev_rel hg hT (hok k (by simp [Op.operands]))
    have hx := ev_rel hg hT (hok x (by simp [Op.operands]))
    split at h
    · rename_i kt e ht
      split at h
      · rename_i kd hkd
        obtain ⟨H', hs, hk'⟩ := opt_inv h
        obtain ⟨w', r1, r2⟩ := setMap_sound hR ht hkd hs hm hk hx
        exact unit (by simp only [execOp, hop]) ⟨w', r2, post_same (by rw [setMap_next hs]; exact Nat.le_refl _) r1 (.any _) hk'⟩
      · exact h.elim
    · exact h.elim
  | insert t m k x =>
    rw [hop] at h hok
    simp only [evM] at h
    have hm := ev_rel hg hT (hok m (by simp [Op.operands]))
    have hk := ev_rel hg hT (hok k (by simp [Op.operands]))
    have hx := ev_rel hg hT (hok x (by simp [Op.operands]))
    split at h
    · rename_i kt e ht
      split at h
      · rename_i kd hkd
        obtain ⟨H', hs, hk'⟩ := opt_inv h
        obtain ⟨w', r1, r2⟩ := setMap_sound hR ht hkd hs hm hk hx
        exact unit (by simp only [execOp, hop]) ⟨w', r2, post_same (by rw [setMap_next hs]; exact Nat.le_refl _) r1 (.any _) hk'⟩
      · exact h.elim
    · exact h.elim
  | mapEntry t m k =>
    rw [hop] at h hok hty
    simp only [evM] at h
    have hm := ev_rel hg hT (hok m (by simp [Op.operands]))
    have hk := ev_rel hg hT (hok k (by simp [Op.operands]))
    split at h
    · rename_i kt e ht
      split at h
      · rename_i kd z hkd hz
        obtain ⟨v, H', hs, hk'⟩ := opt2_inv h
        have hlz : litV z = true := by simp [opTyOk, ht, hz] at hty; exact hty.2
        obtain ⟨v', w', r1, r2, r3⟩ := entryM_sound hR ht hkd hz hlz hs hm hk
        exact val (by simp only [execOp, hop]) ⟨v', w', r3, post_same (by rw [entryM_next hs]; exact Nat.le_refl _) r1 r2 hk'⟩
      · exact h.elim
    · exact h.elim
  | entryStore t m s x =>
    rw [hop] at h hok
    simp only [evM] at h
    have hm := ev_rel hg hT (hok m (by simp [Op.operands]))
    have hs' := ev_rel hg hT (hok s (by simp [Op.operands]))
    have hx := ev_rel hg hT (hok x (by simp [Op.operands]))
    obtain ⟨H', hs, hk'⟩ := opt_inv h
    obtain ⟨w', r1, r2⟩ := entrySt_sound (t := t) hR hs hm hs' hx
    exact unit (by simp only [execOp, hop]) ⟨w', r2, post_same (by rw [entrySt_next hs]; exact Nat.le_refl _) r1 (.any _) hk'⟩
  | range t x =>
    rw [hop] at h hok
    simp only [evM] at h
    have hx := ev_rel hg hT (hok x (by simp [Op.operands]))
    split at h
    · rename_i ht
      obtain ⟨obj, m, hm, hk'⟩ := mk_inv h
      obtain ⟨ρ', v', w', r1, r2, r3, r4, r5⟩ := rangeS_sound hR ht hm hx
      exact val (by simp only [execOp, hop]) ⟨v', w', r5, ρ', _, _, r1, r2, Nat.le_succ _, r3, r4, hk'⟩
    · rename_i kt et ht
      obtain ⟨obj, m, hm, hk'⟩ := mk_inv h
      obtain ⟨ρ', v', w', r1, r2, r3, r4, r5⟩ := rangeM_sound hR ht hm hx
      exact val (by simp only [execOp, hop]) ⟨v', w', r5, ρ', _, _, r1, r2, Nat.le_succ _, r3, r4, hk'⟩
    · exact h.elim
  | next it b =>
    rw [hop] at h hok
    have hx := ev_rel hg hT (hok it (by simp [Op.operands]))
    cases b with
    | true =>
      simp only [evM] at h
      obtain ⟨v, H', hs, hk'⟩ := opt2_inv h
      obtain ⟨w', r0, r1, r2, r3⟩ := nextS_sound (ty := o.type) hR hs hx
      exact val (by simp only [execOp, hop]) ⟨v, w', r3, post_same (by rw [r0]; exact Nat.le_refl _) r1 r2 hk'⟩
    | false =>
      simp only [evM] at h
      obtain ⟨v, v', H', w', r0, r1, r2, r3, hk'⟩ := nextM_sound (ty := o.type) hR h hx
      exact val (by simp only [execOp, hop]) ⟨v', w', r3, post_same (by rw [r0]; exact Nat.le_refl _) r1 r2 hk'⟩
  | call c =>
    rw [hop] at h hok hty
    simp only [evM, evCallM] at h
    have hargs := args_rel hg hT c.args.toList (fun x hx => hok x (by simp only [Op.operands, Call.operands, Array.toList_append, List.mem_append]; exact .inr hx))
    have hargs' : LRel ρ (c.args.toList.map (ev T)) (c.args.map a.eval).toList := by rw [Array.toList_map]; exact hargs
    have hat : ∀ (i : Nat) x, c.args[i]? = some x → VRel ρ (ev T x) (a.eval x) ∧ (c.args.map a.eval)[i]? = some (a.eval x) := fun i x hx =>
      ⟨ev_rel hg hT (hok x (by simp only [Op.operands, Call.operands, Array.toList_append, List.mem_append]; exact .inr (List.mem_of_getElem? (i := i) (by simpa using hx)))), by simp [hx]⟩
    split at h
    · rename_i g hc
      rcases hcall _ _ _ _ h with ⟨he, hcl⟩ | hx
      · refine .inr (.inr ⟨g, c.args.map a.eval, w, ?_, hcl ρ w0 w _ hR hargs'⟩)
        simp only [execOp, hop, resolve, hc, Act.eval, Deferred.ofValue, Sem.run_bind, Sem.run_pure, Result.andThen_ok, invoke]
        have := run_callFunc' he (c.args.map a.eval) w
        simpa using this
      · obtain ⟨v', w', h1, h2⟩ := hx ρ w0 w _ hR hargs'
        refine .inl ⟨v', w', ?_, h2⟩
        simp only [execOp, hop, resolve, hc, Act.eval, Deferred.ofValue, Sem.run_bind, Sem.run_pure, Result.andThen_ok, invoke]
        simpa using h1
    · rename_i f hnf hc
      have hf := ev_rel hg hT (hok f (by simp only [Op.operands, Call.operands, hc, Array.toList_append, List.mem_append]; exact .inl (by simp)))
      obtain ⟨d, h1, h2⟩ := callV_sound hcall hR h hf hargs'
      rcases h2 with ⟨g, as, h2, h3⟩ | ⟨v', w', h2, h3⟩
      · refine .inr (.inr ⟨g, as, w, ?_, h3⟩)
        simp only [execOp, hop, resolve, hc, Sem.run_bind, h1, Result.andThen_ok]
        exact h2
      · refine .inl ⟨v', w', ?_, h3⟩
        simp only [execOp, hop, resolve, hc, Sem.run_bind, h1, Result.andThen_ok]
        exact h2
    · rename_i hc
      have app_case : ∀ (s x : Operand) (e : Nat) (d2 : TypeDesc) (t t2 : Nat), c.args[0]? = some s → c.args[1]? = some x → c.argTypes[0]? = some t → P.underlying t = some (.slice e) → c.argTypes[1]? = some t2 → P.underlying t2 = some d2 →
          (d2 = .string ∨ ∃ q, d2 = .slice q) → (match sizeO P e, bytesO' P e, zeroOf P e with
            | some z, some b, some zv => match zv.cells.size == z with
              | true => opt2 (app z b (ev T s) (ev T x) H) K
              | false => False
            | _, _, _ => False) → Comes' P (execOp a.eval o) w (Post P ρ w0 H.next K) := by
        intro s x e d2 t t2 hs hx ht1 ht2 ht3 ht4 hd h
        split at h
        · rename_i z b zv hz hb hzv
          split at h
          · rename_i hzz
            obtain ⟨v, H', hap, hk'⟩ := opt2_inv h
            obtain ⟨ρ', v', w', r1, r2, r3, r4, r5, r6⟩ := app_sound (ty := o.type) hR ht1 ht3 (hat 0 s hs).2 (hat 1 x hx).2 ht2 ht4 hd hz hb hzv (eq_of_beq hzz) hap (hat 0 s hs).1 (hat 1 x hx).1
            exact .inl ⟨v', w', by simp [execOp, hop, resolve, hc, invoke, builtin, r6], ρ', v, H', r1, r2, r3, r4, r5, hk'⟩
          · exact h.elim
        · exact h.elim
      split at h
      · rename_i s x e q hs hx hu1 hu2
        simp only [Option.bind_eq_some_iff] at hu1 hu2
        obtain ⟨t, h1, h2⟩ := hu1
        obtain ⟨t2, h3, h4⟩ := hu2
        exact app_case s x e _ t t2 hs hx h1 h2 h3 h4 (.inr ⟨_, rfl⟩) h
      · rename_i s x e hs hx hu1 hu2
        simp only [Option.bind_eq_some_iff] at hu1 hu2
        obtain ⟨t, h1, h2⟩ := hu1
        obtain ⟨t2, h3, h4⟩ := hu2
        exact app_case s x e _ t t2 hs hx h1 h2 h3 h4 (.inl rfl) h
      · exact h.elim
    · rename_i hc
      split at h
      · rename_i d x e hd hx hu1
        simp only [Option.bind_eq_some_iff] at hu1
        obtain ⟨t, h1, h2⟩ := hu1
        split at h
        · rename_i z hz
          obtain ⟨v, H', hcp, hk'⟩ := opt2_inv h
          obtain ⟨w', r0, r1, r2, r3⟩ := copy_sound (ty := o.type) hR h1 (hat 0 d hd).2 (hat 1 x hx).2 h2 hz hcp (hat 0 d hd).1 (hat 1 x hx).1
          exact .inl ⟨v, w', by simp [execOp, hop, resolve, hc, invoke, builtin, r3], post_same (by rw [r0]; exact Nat.le_refl _) r1 r2 hk'⟩
        · exact h.elim
      · exact h.elim
    · rename_i hc
      split at h
      · rename_i m k kt e hm hk hu1
        simp only [Option.bind_eq_some_iff] at hu1
        obtain ⟨t, h1, h2⟩ := hu1
        split at h
        · rename_i kd hkd
          obtain ⟨H', hdl, hk'⟩ := opt_inv h
          obtain ⟨w', r1, r2⟩ := delMap_sound (ty := o.type) hR h1 (hat 0 m hm).2 (hat 1 k hk).2 h2 hkd hdl (hat 0 m hm).1 (hat 1 k hk).1
          exact .inl ⟨.tuple #[], w', by simp [execOp, hop, resolve, hc, invoke, builtin, r2], post_same (by rw [delMap_next hdl]; exact Nat.le_refl _) r1 (.any _) hk'⟩
        · exact h.elim
      · exact h.elim
    · rename_i hc
      split at h
      · rename_i x e hx hu1
        simp only [Option.bind_eq_some_iff] at hu1
        obtain ⟨t, h1, h2⟩ := hu1
        split at h
        · rename_i z hz
          obtain ⟨H', hcl, hk'⟩ := opt_inv h
          obtain ⟨w', r1, r2⟩ := clear_sound (ty := o.type) hR h1 (hat 0 x hx).2 h2 hz hcl (hat 0 x hx).1
          exact .inl ⟨.tuple #[], w', by simp [execOp, hop, resolve, hc, invoke, builtin, r2], post_same (by rw [clearS_next hcl]; exact Nat.le_refl _) r1 (.any _) hk'⟩
        · exact h.elim
      · exact h.elim
    · exact h.elim
  | _ => rw [hop] at h; simp [evM] at h
end
end Go.AM
end
section
namespace Go.AM
open Go.RowKit (Below)
section
variable {P : Program} {ρ : Inj} {T : Env} {a : Act} {w0 w : World} {H : AH} {call : CallT}
def operOk (P : Program) (N : Nat) (o : Oper) : Bool :=
  o.op.operands.toList.all (opOk P) && opTyOk P o.op && (match o.dst with | some d => decide (d < N) | none => true)
theorem operOk_inv {N : Nat} {o : Oper} (h : operOk P N o = true) : (∀ x ∈ o.op.operands.toList, opOk P x = true) ∧ opTyOk P o.op = true ∧ ∀ d, o.dst = some d → d < N := by
  simp only [operOk, Bool.and_eq_true, List.all_eq_true] at h
  exact ⟨h.1.1, h.1.2, fun d hd => by have := h.2; rw [hd] at this; simpa using this⟩
theorem TRel.put (hT : TRel ρ T a) {d : Option Nat} {v v' : Value} (hd : ∀ x, d = some x → x < a.tmps.size) (hv : VRel ρ v v') : TRel ρ (updO T d v) (a.put d v') := by
  cases d with
  | none => exact hT
  | some d =>
    intro t
    have hlt := hd d rfl
    simp only [updO, upd, Act.put]
    by_cases e : t = d
    · subst e
      simp [hlt]; exact hv
    · simp only [e, if_false]
      have := hT t
      simpa [Array.getElem?_setIfInBounds_ne (Ne.symm e)] using this
theorem put_defers (d : Option Nat) (v : Value) : (a.put d v).defers = a.defers := by cases d <;> rfl
theorem put_size (d : Option Nat) (v : Value) : (a.put d v).tmps.size = a.tmps.size := by cases d <;> simp [Act.put]
theorem gd_want (hT : TRel ρ T a) {ops : Array Oper} {j : Nat} {b : Bool} (h : gval ops.toList T j = .bool b) : yielded ops a.tmps j = some b := by
  unfold gval at h
  unfold yielded
  rw [Array.getElem?_toList] at h
  cases ho : ops[j]? with
  | none => rw [ho] at h; simp [undef] at h
  | some o =>
    rw [ho] at h
    simp only at h
    cases hd : o.dst with
    | none => rw [hd] at h; simp [undef] at h
    | some d =>
      rw [hd] at h
      simp only at h
      have := hT d
      rw [h] at this
      have hv := this.flat rfl
      simp only [Array.getD_eq_getD_getElem?] at hv
      simp only [Option.bind_some, hd]
      cases ht : a.tmps[d]? with
      | none => rw [ht] at hv; simp [undef] at hv
      | some u => rw [ht] at hv; simp at hv; subst hv; rfl
theorem gd_skip_want (hT : TRel ρ T a) {ops : Array Oper} {j : Nat} (h : isSkip (gval ops.toList T j) = true) : yielded ops a.tmps j = none := by
  unfold gval at h
  unfold yielded
  rw [Array.getElem?_toList] at h
  cases ho : ops[j]? with
  | none => rfl
  | some o =>
    rw [ho] at h
    simp only at h
    cases hd : o.dst with
    | none => simp [hd]
    | some d =>
      rw [hd] at h
      simp only at h
      obtain ⟨x, hx⟩ := skip_tuple (hT d) h
      simp only [Array.getD_eq_getD_getElem?] at hx
      simp only [Option.bind_some, hd]
      cases ht : a.tmps[d]? with
      | none => rfl
      | some u => rw [ht] at hx; simp at hx; subst hx; rfl
theorem ifB_inv {v : Value} {A B : Prop} (h : ifB v A B) : (v = .bool true ∧ A) ∨ (v = .bool false ∧ B) := by
  unfold ifB at h
  split at h
  · exact .inl ⟨rfl, h⟩
  · exact .inr ⟨rfl, h⟩
  · exact h.elim
theorem guard_sound (hT : TRel ρ T a) {ops : Array Oper} {o : Oper} {j : Nat} {want : Bool} (hg : o.guard = some (j, want)) {m : (Value → AH → Prop) → Prop} {K : Value → AH → Prop}
    (h : gd (gval ops.toList T j) want m H K) : (Region.wanted o (yielded ops a.tmps) = true ∧ m K) ∨ (Region.wanted o (yielded ops a.tmps) = false ∧ K skipV H) := by
  unfold gd at h
  split at h
  · rename_i hs
    refine .inr ⟨?_, h⟩
    simp only [Region.wanted, hg, gd_skip_want hT hs]
    rfl
  have hw : ∀ b, gval ops.toList T j = .bool b → Region.wanted o (yielded ops a.tmps) = (b == want) := by
    intro b hb
    simp only [Region.wanted, hg, gd_want hT hb]
    cases b <;> cases want <;> rfl
  cases want with
  | true =>
    rcases ifB_inv h with ⟨e, hm⟩ | ⟨e, hk⟩
    · exact .inl ⟨by rw [hw _ e]; rfl, hm⟩
    · exact .inr ⟨by rw [hw _ e]; rfl, hk⟩
  | false =>
    rcases ifB_inv h with ⟨e, hk⟩ | ⟨e, hm⟩
    · exact .inr ⟨by rw [hw _ e]; rfl, hk⟩
    · exact .inl ⟨by rw [hw _ e]; rfl, hm⟩
theorem evA_post (hR : R P ρ w0 H w) (hT : TRel ρ T a) {o : Oper} (hok : ∀ x ∈ o.op.operands.toList, opOk P x = true) (hty : opTyOk P o.op = true) {K : Value → AH → Prop}
    (h : AM.mk (evA P T o.op) H K) : Comes' P (execOp a.eval o) w (Post P ρ w0 H.next K) := by
  obtain ⟨obj, m, hm, hk⟩ := mk_inv h
  have hnone : ρ.loc H.next = none := by
    cases hq : ρ.loc H.next with
    | none => rfl
    | some q => have := (hR.own _ _ hq).2.1; omega
  obtain ⟨ρ', v', w', r1, r2, r3, r4, r5⟩ := evA_sound (hR.new obj) hT hok hty hm hR.nxt (Nat.lt_succ_self _) hnone (AH.get_new_self _ _)
  exact .inl ⟨v', w', r5, ρ', _, _, r1, fun b hb => r2 b (by omega), Nat.le_succ _, r3, r4, hk⟩
theorem runOp_sound (hcall : CallOk P call) (hR : R P ρ w0 H w) (hT : TRel ρ T a) {o : Oper} (hok : ∀ x ∈ o.op.operands.toList, opOk P x = true) (hty : opTyOk P o.op = true) {K : Value → AH → Prop}
    (h : runOp P call T o.op H K) : Comes' P (execOp a.eval o) w (Post P ρ w0 H.next K) := by
  unfold runOp at h
  split at h
  · rename_i v hv
    have : ∃ x, (o.op = .move x ∨ o.op = .assign x) ∧ v = ev T x := by
      unfold moved at hv
      split at hv
      · rename_i x; simp at hv; exact ⟨_, .inl (by assumption), hv.symm⟩
      · rename_i x; simp at hv; exact ⟨_, .inr (by assumption), hv.symm⟩
      · simp at hv
    obtain ⟨x, hx, rfl⟩ := this
    have hr := ev_rel hR.glob hT (hok x (by rcases hx with e | e <;> rw [e] <;> simp [Op.operands]))
    refine .inl ⟨a.eval x, w, ?_, post_same (Nat.le_refl _) hR hr h⟩
    rcases hx with e | e <;> simp [execOp, e]
  · split at h
    · obtain ⟨v, hv, hk⟩ := opt_inv h
      obtain ⟨v', hr, hrun⟩ := evP_sound hR.glob hT hok hty hv
      exact .inl ⟨v', w, hrun w, post_same (Nat.le_refl _) hR hr hk⟩
    · obtain ⟨v, hv, hk⟩ := opt_inv h
      obtain ⟨v', hr, hrun⟩ := evR_sound hR hT hok hty hv
      exact .inl ⟨v', w, hrun, post_same (Nat.le_refl _) hR hr hk⟩
    · exact evA_post hR hT hok hty h
    · exact evM_sound hcall hR hT hok hty h
structure St (P : Program) (w0 : World) (ρ0 : Inj) (n0 N : Nat) (ρ : Inj) (T : Env) (H : AH) (a : Act) (w : World) : Prop where
  le : ρ0.le ρ
  hole : ∀ b, b < n0 → ρ.loc b = ρ0.loc b
  nn : n0 ≤ H.next
  r : R P ρ w0 H w
  t : TRel ρ T a
  d : a.defers = []
  s : a.tmps.size = N
def Nx (P : Program) (w0 : World) (ρ0 : Inj) (n0 N : Nat) (K : Env → AH → Prop) (a : Act) (w : World) : Prop :=
  ∃ ρ T H, St P w0 ρ0 n0 N ρ T H a w ∧ K T H
theorem upon_of_comes {ops : Array Oper} {o : Oper} {next : Act → World → Prop} {Q : Exit → Act → World → Prop} {QV : Value → World → Prop} (h : Comes' P (execOp a.eval o) w QV)
    (hn : ∀ v' w', QV v' w' → next (a.put o.dst v') w') : o.wp P a w next Q := by
  unfold Oper.wp
  rcases h with ⟨v', w', h1, h2⟩ | ⟨w', h1, h2⟩ | ⟨f, args, w1, h1, h2⟩
  · rw [h1]; exact hn _ _ h2
  · rw [h1]; exact hn _ _ h2
  · rw [h1]
    simp only [Oper.upon]
    refine Calls.mono h2 fun e w' he => ?_
    obtain ⟨v', rfl, hq⟩ := he
    exact hn _ _ hq
variable {ρ0 : Inj} {n0 N : Nat}
theorem St.put (h : St P w0 ρ0 n0 N ρ T H a w) {d : Option Nat} (hd : ∀ x, d = some x → x < N) {ρ' : Inj} {v v' : Value} {H' : AH} {w' : World} (hle : ρ.le ρ') (hh : ∀ b, b < H.next → ρ'.loc b = ρ.loc b)
    (hn : H.next ≤ H'.next) (hR : R P ρ' w0 H' w') (hv : VRel ρ' v v') : St P w0 ρ0 n0 N ρ' (updO T d v) H' (a.put d v') w' where
  le := Inj.le_trans h.le hle
  hole b hb := by rw [hh b (Nat.lt_of_lt_of_le hb h.nn)]; exact h.hole b hb
  nn := Nat.le_trans h.nn hn
  r := hR
  t := (h.t.mono hle).put (by rw [h.s]; exact hd) hv
  d := by rw [put_defers]; exact h.d
  s := by rw [put_size]; exact h.s
theorem stepW_sound (hcall : CallOk P call) (h : St P w0 ρ0 n0 N ρ T H a w) {ops : Array Oper} {i : Nat} {o : Oper} (hi : ops[i]? = some o) (ho : operOk P N o = true) {Q : Exit → Act → World → Prop}
    {K : Env → AH → Prop} (hk : stepW P call ops.toList o T H K) {next : Act → World → Prop} (hn : ∀ a w, Nx P w0 ρ0 n0 N K a w → next a w) : wpOp P ops Q i next a w := by
  obtain ⟨hok, hty, hd⟩ := operOk_inv ho
  unfold wpOp
  rw [hi]
  simp only
  have run : runOp P call T o.op H (fun v H' => K (updO T o.dst v) H') → o.wp P a w next Q := fun hr =>
    upon_of_comes (ops := ops) (runOp_sound hcall h.r h.t hok hty hr) (by
      rintro v' w' ⟨ρ', v, H', r1, r2, r3, r4, r5, r6⟩
      exact hn _ _ ⟨ρ', _, H', h.put hd r1 r2 r3 r4 r5, r6⟩)
  unfold stepW at hk
  split at hk
  · rename_i hg
    have : Region.wanted o (yielded ops a.tmps) = true := by simp [Region.wanted, hg]
    rw [this, if_pos rfl]
    exact .inl (run hk)
  · rename_i j want hg
    rcases guard_sound h.t hg hk with ⟨e, hm⟩ | ⟨e, hm⟩
    · rw [e, if_pos rfl]
      exact .inl (run hm)
    · rw [e]
      simp only [Bool.false_eq_true, if_false]
      exact hn _ _ ⟨ρ, _, H, h.put hd ρ.le_refl (fun _ _ => rfl) (Nat.le_refl _) h.r .skip, hm⟩
theorem evOps_sound (hcall : CallOk P call) {ops : Array Oper} (hall : ∀ o ∈ ops.toList, operOk P N o = true) {Q : Exit → Act → World → Prop} {K : Env → AH → Prop}
    (hq : ∀ a w, Nx P w0 ρ0 n0 N K a w → Q .normal a w) : ∀ (l : List Oper) (i : Nat), ops.toList.drop i = l → ∀ (ρ : Inj) (T : Env) (H : AH) (a : Act) (w : World), St P w0 ρ0 n0 N ρ T H a w → evOps P call ops.toList l T H K →
      wpOps P ops Q (List.range' i (ops.size - i)) a w := by
  intro l
  induction l with
  | nil =>
    intro i hl ρ T H a w h hk
    have : ops.size - i = 0 := by
      have := congrArg List.length hl
      simpa using this
    rw [this]
    exact hq _ _ ⟨ρ, T, H, h, hk⟩
  | cons o l ih =>
    intro i hl ρ T H a w h hk
    have hlt : i < ops.size := by
      have := congrArg List.length hl
      simp at this; omega
    have hi : ops[i]? = some o := by
      have := congrArg (·[0]?) hl
      simpa using this
    have hl' : ops.toList.drop (i + 1) = l := by
      rw [← List.drop_drop, hl]; rfl
    obtain ⟨n, hn⟩ : ∃ n, ops.size - i = n + 1 := ⟨ops.size - i - 1, by omega⟩
    rw [hn, List.range'_succ, wpOps_cons]
    have hom : o ∈ ops.toList := List.mem_of_getElem? (i := i) (by simpa using hi)
    refine stepW_sound hcall h hi (hall o hom) hk ?_
    rintro a' w' ⟨ρ', T', H', h', hk'⟩
    have := ih (i + 1) hl' ρ' T' H' a' w' h' hk'
    rwa [show ops.size - (i + 1) = n by omega] at this
end
end Go.AM
end
section
namespace Go.AM
section
variable {P : Program} {T T' : Env} {call : CallT}
theorem args_congr {l : List Operand} (h : ∀ x ∈ l, ev T x = ev T' x) : l.map (ev T) = l.map (ev T') := List.map_congr_left h
theorem call_args {c : Call} (h : ∀ x ∈ c.operands, ev T x = ev T' x) : (∀ x ∈ c.args.toList, ev T x = ev T' x) ∧ (∀ f, c.callee = .value f → ev T f = ev T' f) := by
  constructor
  · intro x hx
    exact h x (by simp only [Call.operands]; exact Array.mem_append.2 (.inr (by simpa using hx)))
  · intro f hf
    exact h f (by simp [Call.operands, hf])
theorem evCallP_congr (c : Call) (h : ∀ x ∈ c.operands, ev T x = ev T' x) : evCallP P T c = evCallP P T' c := by
  obtain ⟨ha, _⟩ := call_args h
  have hx : ∀ (i : Nat) x, c.args[i]? = some x → ev T x = ev T' x := fun i x hx => ha x (by simpa using Array.mem_of_getElem? hx)
  unfold evCallP
  rw [args_congr ha]
  cases c.callee with
  | builtin b =>
    cases b <;> try rfl
    simp only
    cases (c.argTypes[0]?).bind P.underlying with
    | none => rfl
    | some d =>
      cases h0 : c.args[0]? with
      | none => cases d <;> rfl
      | some x => have := hx 0 x h0; cases d <;> first | rfl | simp only [this]
  | _ => rfl
theorem parts_congr {ps : Array (Nat × Operand)} (hp : ∀ x ∈ (ps.toList.map fun p => p.2).toArray, ev T x = ev T' x) : (ps.toList.map fun p => (p.1, ev T p.2)) = (ps.toList.map fun p => (p.1, ev T' p.2)) :=
  List.map_congr_left fun p hm => by rw [hp p.2 (by simp; exact ⟨p.1, by simpa using hm⟩)]
theorem optmap_congr {o : Option Operand} (h : ∀ x, o = some x → ev T x = ev T' x) : o.map (ev T) = o.map (ev T') := by
  cases o with
  | none => rfl
  | some x => simp [h x rfl]
theorem moved_congr {op : Op} (h : ∀ x ∈ op.operands, ev T x = ev T' x) : moved T op = moved T' op := by
  unfold moved
  split <;> first | rfl | (rw [h _ (by simp [Op.operands])])
theorem evP_congr {op : Op} (h : ∀ x ∈ op.operands, ev T x = ev T' x) : evP P T op = evP P T' op := by
  cases op <;> simp only [Op.operands] at h <;> simp only [evP]
  case pick c x y => rw [h c (by simp), h x (by simp), h y (by simp)]
  case build t ps => rw [parts_congr h]
  case makeFunc fn first captured =>
    have h1 := args_congr (l := first.toList) (T := T) (T' := T') fun x hx => h x (by simp at hx; simp [hx])
    have h2 := args_congr (l := captured.toList) (T := T) (T' := T') fun x hx => h x (by simp at hx; simp [hx])
    cases fn <;> simp only [evP, h1, h2]
  case call c => exact evCallP_congr c h
  case slice t x lo hi mx =>
    have h0 := h x (by simp)
    rw [h0, optmap_congr (o := lo) (T := T) (T' := T') (fun y hy => h y (by subst hy; simp)), optmap_congr (o := hi) (T := T) (T' := T') (fun y hy => h y (by subst hy; simp)),
      optmap_congr (o := mx) (T := T) (T' := T') (fun y hy => h y (by subst hy; simp))]
  all_goals (first | rfl | (simp_all; done))
theorem evR_congr {op : Op} (h : ∀ x ∈ op.operands, ev T x = ev T' x) (H : AH) : evR P T op H = evR P T' op H := by
  cases op <;> simp only [Op.operands] at h <;> simp only [evR]
  case call c =>
    obtain ⟨ha, _⟩ := call_args h
    have hx : ∀ (i : Nat) x, c.args[i]? = some x → ev T x = ev T' x := fun i x hx => ha x (by simpa using Array.mem_of_getElem? hx)
    cases c.callee with
    | builtin b =>
      cases b <;> try rfl
      cases (c.argTypes[0]?).bind P.underlying with
      | none => rfl
      | some d =>
        cases h0 : c.args[0]? with
        | none => cases d <;> rfl
        | some x => have := hx 0 x h0; cases d <;> first | rfl | simp only [this]
    | _ => rfl
  case slice t x lo hi mx =>
    have h0 := h x (by simp)
    rw [h0, optmap_congr (o := lo) (T := T) (T' := T') (fun y hy => h y (by subst hy; simp)), optmap_congr (o := hi) (T := T) (T' := T') (fun y hy => h y (by subst hy; simp)),
      optmap_congr (o := mx) (T := T) (T' := T') (fun y hy => h y (by subst hy; simp))]
  all_goals (first | rfl | (simp_all; done))
theorem evA_congr {op : Op} (h : ∀ x ∈ op.operands, ev T x = ev T' x) : evA P T op = evA P T' op := by
  cases op <;> simp only [Op.operands] at h
  case buildSlice t n ps => simp only [evA]; rw [parts_congr h]
  case makeMap t r =>
    cases r with
    | none => rfl
    | some x => simp only [evA]; rw [h x (by simp)]
  all_goals simp only [evA]
  all_goals (first | rfl | (simp_all; done))
theorem evM_congr {op : Op} (h : ∀ x ∈ op.operands, ev T x = ev T' x) (H : AH) (K : Value → AH → Prop) : evM P call T op H K = evM P call T' op H K := by
  cases op <;> simp only [Op.operands] at h
  case call c =>
    simp only [evM]
    obtain ⟨ha, hf⟩ := call_args h
    have hx : ∀ (i : Nat) x, c.args[i]? = some x → ev T x = ev T' x := fun i x hx => ha x (by simpa using Array.mem_of_getElem? hx)
    unfold evCallM
    rw [args_congr ha]
    cases hc : c.callee with
    | value f => have e := hf f hc; cases f <;> simp only [e]
    | invoke r m => rfl
    | builtin b =>
      cases h0 : c.args[0]? with
      | none => cases b <;> rfl
      | some x =>
        have e0 := hx 0 x h0
        cases h1 : c.args[1]? with
        | none =>
          cases (c.argTypes[0]?).bind P.underlying with
          | none => cases b <;> rfl
          | some d => cases b <;> first | rfl | (cases d <;> first | rfl | simp only [e0])
        | some y =>
          have e1 := hx 1 y h1
          cases (c.argTypes[0]?).bind P.underlying with
          | none => cases b <;> rfl
          | some d =>
            cases (c.argTypes[1]?).bind P.underlying with
            | none => cases b <;> first | rfl | (cases d <;> first | rfl | simp only [e0, e1])
            | some d2 => cases b <;> first | rfl | (cases d <;> first | rfl | (simp only [e0, e1]; done) | (cases d2 <;> first | rfl | (simp only [e0, e1]; done)))
  case next it b => cases b <;> simp only [evM] <;> rw [h it (by simp)]
  all_goals simp only [evM]
  all_goals (first | rfl | (simp_all; done))
theorem runOp_congr {op : Op} (h : ∀ x ∈ op.operands, ev T x = ev T' x) (H : AH) (K : Value → AH → Prop) : runOp P call T op H K = runOp P call T' op H K := by
  unfold runOp
  rw [moved_congr h, evP_congr h, evR_congr h, evA_congr h, evM_congr h]
theorem evR_new {op : Op} {H : AH} {v : Value} (o : AObj) (h : evR P T op H = some v) : evR P T op (H.new o) = some v := by
  have g : ∀ b, H.get b ≠ .dead → (H.new o).get b = H.get b := fun b hb => AH.get_new_ne _ _ (by have := AH.lt_of_get hb; omega)
  have row : ∀ b i n l, (H.get b).row i n = some l → (H.new o).get b = H.get b := fun b i n l hl => g b (by intro e; rw [e] at hl; simp [AObj.row] at hl)
  have cell : ∀ b i l, (H.get b).cell i = some l → (H.new o).get b = H.get b := fun b i l hl => g b (by intro e; rw [e] at hl; simp [AObj.cell] at hl)
  have ent : ∀ m es, entriesOf m H = some es → entriesOf m (H.new o) = some es := by
    intro m es hm
    unfold entriesOf at hm ⊢
    split at hm
    · exact hm
    · rename_i r
      split at hm
      · rename_i es' c b hg
        rw [g r (by rw [hg]; simp), hg]; exact hm
      · simp at hm
    · simp at hm
  unfold evR at h ⊢
  split at h
  · split at h
    · simp only [loadN] at h ⊢
      split at h
      · split at h
        · simp at h
        · rename_i hs
          rw [if_neg hs]
          rw [Option.map_eq_some_iff] at h
          obtain ⟨l, hl, e⟩ := h
          rw [row _ _ _ _ hl, hl, ← e]; rfl
      · simp at h
    · simp only [load1] at h ⊢
      split at h
      · split at h
        · simp at h
        · rename_i hs
          rw [if_neg hs, cell _ _ _ h]; exact h
      · simp at h
    · simp at h
  · split at h
    · split at h
      · unfold look at h ⊢
        rw [Option.bind_eq_some_iff] at h
        obtain ⟨es, he, h⟩ := h
        rw [ent _ _ he]; exact h
      · simp at h
    · simp at h
  · split at h
    · split at h
      · unfold strOf at h ⊢
        split at h
        · exact h
        · split at h
          · rename_i hz
            rw [if_pos hz]; exact h
          rename_i hz
          rw [if_neg hz]
          split at h
          · simp at h
          · rename_i hs
            rw [if_neg hs]
            rw [Option.bind_eq_some_iff] at h
            obtain ⟨l, hl, h⟩ := h
            rw [row _ _ _ _ hl, hl]; exact h
        · simp at h
      · simp at h
    · simp at h
  · split at h
    · split at h
      · unfold slSlc at h ⊢
        split at h
        · exact h
        · rename_i a n c _
          by_cases hc : c = 0
          · subst hc
            simp only [beq_self_eq_true, Bool.true_or] at h ⊢
            exact h
          have : (H.new o).get a.block = H.get a.block := g _ (by intro e; rw [e] at h; simp [fits, hc] at h)
          rw [this]; exact h
        · simp at h
      · simp at h
    · simp at h
  · split at h
    · unfold lenMap at h ⊢
      split at h
      · exact h
      · rename_i r _
        split at h
        · rename_i es' c b hg
          rw [g r (by rw [hg]; simp), hg]; exact h
        · simp at h
      · simp at h
    · simp at h
  · unfold entryR at h ⊢
    split at h
    · rename_i r _
      split at h
      · rename_i m since seen last hg
        rw [g r (by rw [hg]; simp), hg]
        simp only
        split at h
        · rename_i stamp hst
          try simp only [hst]
          split at h
          · rename_i es cl rw_ hgm
            rw [g m (by rw [hgm]; simp), hgm]; exact h
          · simp at h
        · simp at h
      · simp at h
    · simp at h
  · simp at h
end
end Go.AM
end
section
namespace Go.AM
open Go.RowKit (Below)
section
variable {P : Program}
theorem inRd_no {d : Option Nat} {l : List Nat} (h : inRd d l = false) (x : Nat) (hx : d = some x) : x ∉ l := by
  subst hx
  intro hm
  simp only [inRd] at h
  rw [List.contains_iff_mem.2 hm] at h
  exact Bool.noConfusion h
theorem sameDst_no {a b : Option Nat} (h : sameDst a b = false) (x : Nat) (hx : a = some x) : b ≠ some x := by
  subst hx
  rintro rfl
  simp [sameDst] at h
structure Fair (P : Program) (ops : List Oper) (l0 pre : List (Nat × Nat)) (i B : Nat) (o : Oper) : Prop where
  at_ : ops[i]? = some o
  deps : ∀ e ∈ depsOf o, ∃ p ∈ pre, p.1 = e
  mask : ∀ x, B.testBit x = true → ∃ e ∈ depsOf o, e = x ∨ (maskOf l0 e).testBit x = true
  new : ∀ p ∈ pre, p.1 ≠ i
  muts : ∀ p ∈ pre, ∀ oj, ops[p.1]? = some oj → isM P oj = true → B.testBit p.1 = true
  dst : ∀ p ∈ pre, ∀ oj, ops[p.1]? = some oj → ∀ t, oj.dst = some t → o.dst ≠ some t
  ord : ∀ p ∈ pre, ∀ oj, ops[p.1]? = some oj → B.testBit p.1 = true ∨ ((∀ t, oj.dst = some t → t ∉ reads ops o) ∧ (∀ t, o.dst = some t → t ∉ reads ops oj))
  nosel : ∀ cs b, o.op ≠ .select cs b
theorem fold_mask {l0 : List (Nat × Nat)} {x : Nat} : ∀ (l : List Nat) (s : Nat), (l.foldl (fun s e => s ||| 2 ^ e ||| maskOf l0 e) s).testBit x = true → s.testBit x = true ∨ ∃ e ∈ l, e = x ∨ (maskOf l0 e).testBit x = true := by
  intro l
  induction l with
  | nil => intro s h; exact .inl h
  | cons e l ih =>
    intro s h
    rcases ih _ h with h | ⟨e', he', h⟩
    · simp only [Nat.testBit_or, Bool.or_eq_true, Nat.testBit_two_pow, decide_eq_true_eq] at h
      rcases h with (h | h) | h
      · exact .inl h
      · exact .inr ⟨e, by simp, .inl h⟩
      · exact .inr ⟨e, by simp, .inr h⟩
    · exact .inr ⟨e', by simp [he'], h⟩
theorem drawGo_fair {ops : List Oper} {l0 : List (Nat × Nat)} : ∀ (suf pre : List (Nat × Nat)) (d : List Done) (done muts : Nat),
    (∀ p ∈ pre, ∀ oj, ops[p.1]? = some oj → (⟨p.1, oj.dst, reads ops oj⟩ : Done) ∈ d) → d.length = pre.length →
    (∀ x, done.testBit x = true ↔ ∃ p ∈ pre, p.1 = x) →
    (∀ p ∈ pre, ∀ oj, ops[p.1]? = some oj → isM P oj = true → muts.testBit p.1 = true) →
    drawGo P ops l0 suf d done muts = true →
    (∀ p1 i B s1, suf = p1 ++ (i, B) :: s1 → ∃ o, Fair P ops l0 (pre ++ p1) i B o) ∧ pre.length + suf.length = ops.length ∧ ∀ i, i < ops.length → ∃ p ∈ pre ++ suf, p.1 = i := by
  intro suf
  induction suf with
  | nil =>
    intro pre d done muts hd hl hdone hm h
    simp only [drawGo, Bool.and_eq_true, beq_iff_eq, List.all_eq_true, List.mem_range] at h
    refine ⟨fun p1 i B s1 h => by simp at h, by simp; omega, fun i hi => ?_⟩
    obtain ⟨p, hp, e⟩ := (hdone i).1 (h.2 i hi)
    exact ⟨p, by simp [hp], e⟩
  | cons q suf ih =>
    obtain ⟨i, B⟩ := q
    intro pre d done muts hd hl hdone hm h
    simp only [drawGo] at h
    cases ho : ops[i]? with
    | none => rw [ho] at h; simp at h
    | some o =>
      rw [ho] at h
      simp only [Bool.and_eq_true, Bool.not_eq_true', List.all_eq_true, Bool.or_eq_true] at h
      obtain ⟨⟨⟨⟨⟨⟨h1, h2⟩, h3⟩, h4⟩, h5⟩, h6⟩, h7⟩ := h
      have hF : Fair P ops l0 pre i B o := by
        refine ⟨ho, fun e he => (hdone e).1 (h2 e he), ?_, ?_, ?_, ?_, ?_, ?_⟩
        · intro x hx
          rw [eq_of_beq h3] at hx
          rcases fold_mask _ _ hx with h | h
          · simp at h
          · exact h
        · rintro p hp rfl
          rw [(hdone p.1).2 ⟨p, hp, rfl⟩] at h1; exact Bool.noConfusion h1
        · intro p hp oj hj hmj
          have := congrArg (·.testBit p.1) (eq_of_beq h4)
          simp only [Nat.testBit_and] at this
          rw [hm p hp oj hj hmj] at this
          simpa using this
        · intro p hp oj hj t ht
          have := (h5 _ (hd p hp oj hj)).1
          exact sameDst_no (by simpa using this) t ht
        · intro p hp oj hj
          rcases (h5 _ (hd p hp oj hj)).2 with h | h
          · exact .inl h
          · simp only [Bool.or_eq_false_iff] at h
            exact .inr ⟨inRd_no h.1, inRd_no h.2⟩
        · intro cs b e
          rw [e] at h6; exact Bool.noConfusion h6
      obtain ⟨r1, r2, r3⟩ := ih (pre ++ [(i, B)]) _ _ _ (by
          intro p hp oj hj
          rcases List.mem_append.1 hp with hp | hp
          · exact List.mem_cons_of_mem _ (hd p hp oj hj)
          · simp only [List.mem_singleton] at hp; subst hp
            rw [ho] at hj; simp only [Option.some.injEq] at hj; subst hj
            exact List.mem_cons_self) (by simp [hl]) (by
          intro x
          simp only [Nat.testBit_or, Bool.or_eq_true, Nat.testBit_two_pow, decide_eq_true_eq, hdone x]
          constructor
          · rintro (⟨p, hp, e⟩ | e)
            · exact ⟨p, by simp [hp], e⟩
            · exact ⟨(i, B), by simp, e⟩
          · rintro ⟨p, hp, e⟩
            rcases List.mem_append.1 hp with hp | hp
            · exact .inl ⟨p, hp, e⟩
            · simp only [List.mem_singleton] at hp; subst hp; exact .inr e) (by
          intro p hp oj hj hmj
          rcases List.mem_append.1 hp with hp | hp
          · split
            · rw [Nat.testBit_or, hm p hp oj hj hmj]; rfl
            · exact hm p hp oj hj hmj
          · simp only [List.mem_singleton] at hp; subst hp
            rw [ho] at hj; simp only [Option.some.injEq] at hj; subst hj
            rw [hmj]
            simp [Nat.testBit_or, Nat.testBit_two_pow]) h7
      refine ⟨?_, by simp at r2 ⊢; omega, by simpa using r3⟩
      intro p1 j B' s1 he
      cases p1 with
      | nil =>
        simp only [List.nil_append, List.cons.injEq, Prod.mk.injEq] at he
        obtain ⟨⟨rfl, rfl⟩, rfl⟩ := he
        exact ⟨o, by simpa using hF⟩
      | cons z p1 =>
        simp only [List.cons_append, List.cons.injEq] at he
        obtain ⟨rfl, he⟩ := he
        obtain ⟨o', ho'⟩ := r1 p1 j B' s1 he
        exact ⟨o', by simpa using ho'⟩
structure Draw (P : Program) (ops : List Oper) (l0 : List (Nat × Nat)) : Prop where
  fair : ∀ pre i B suf, l0 = pre ++ (i, B) :: suf → ∃ o, Fair P ops l0 pre i B o
  len : l0.length = ops.length
  all : ∀ i, i < ops.length → ∃ p ∈ l0, p.1 = i
theorem drawOk_draw {ops : List Oper} {l0 : List (Nat × Nat)} (h : drawOk P ops l0 = true) : Draw P ops l0 := by
  obtain ⟨h1, h2, h3⟩ := drawGo_fair l0 [] [] 0 0 (by simp) rfl (by simp) (by simp) h
  exact ⟨fun pre i B suf e => by simpa using h1 pre i B suf e, by simpa using h2, by simpa using h3⟩
section
variable {ops : List Oper} {l0 : List (Nat × Nat)} (D : Draw P ops l0)
include D
theorem Draw.one {p q : Nat × Nat} (hp : p ∈ l0) (hq : q ∈ l0) (e : p.1 = q.1) : p = q := by
  obtain ⟨s, t, hs⟩ := List.append_of_mem hp
  have hp2 := hq
  rw [hs] at hq
  rcases List.mem_append.1 hq with h | h
  · obtain ⟨o, F⟩ := D.fair s p.1 p.2 t hs
    exact absurd e.symm (F.new q h)
  · rcases List.mem_cons.1 h with h | h
    · exact h.symm
    · obtain ⟨s', t', ht⟩ := List.append_of_mem h
      obtain ⟨o, F⟩ := D.fair (s ++ p :: s') q.1 q.2 t' (by rw [hs, ht]; simp)
      exact absurd e (F.new p (by simp))
theorem Draw.mask {i B : Nat} (h : (i, B) ∈ l0) : maskOf l0 i = B := by
  have : ∀ l : List (Nat × Nat), (∀ p ∈ l, p ∈ l0) → (i, B) ∈ l → maskOf l i = B := by
    intro l
    induction l with
    | nil => intro _ h; simp at h
    | cons q l ih =>
      intro hs hm
      unfold maskOf
      split
      · rename_i e
        have := D.one (hs q (by simp)) h (eq_of_beq e)
        rw [this]
      · rename_i e
        rcases List.mem_cons.1 hm with hm | hm
        · rw [← hm] at e; simp at e
        · exact ih (fun p hp => hs p (by simp [hp])) hm
  exact this l0 (fun _ h => h) h
theorem Draw.writer {p q : Nat × Nat} (hp : p ∈ l0) (hq : q ∈ l0) {o o' : Oper} (ho : ops[p.1]? = some o) (ho' : ops[q.1]? = some o') {t : Nat} (ht : o.dst = some t) (ht' : o'.dst = some t) : p = q := by
  obtain ⟨s, r, hs⟩ := List.append_of_mem hp
  rw [hs] at hq
  rcases List.mem_append.1 hq with h | h
  · obtain ⟨o2, F⟩ := D.fair s p.1 p.2 r hs
    have := F.at_; rw [ho] at this; simp only [Option.some.injEq] at this; subst this
    exact absurd ht (F.dst q h o' ho' t ht')
  · rcases List.mem_cons.1 h with h | h
    · exact h.symm
    · obtain ⟨s', t', ht2⟩ := List.append_of_mem h
      obtain ⟨o2, F⟩ := D.fair (s ++ p :: s') q.1 q.2 t' (by rw [hs, ht2]; simp)
      have := F.at_; rw [ho'] at this; simp only [Option.some.injEq] at this; subst this
      exact absurd ht' (F.dst p (by simp) o ho t ht)
end
theorem mem_reads {ops : List Oper} {o : Oper} {x : Operand} {t : Nat} (hx : x ∈ o.op.operands) (e : x = .tmp t) : t ∈ reads ops o := by
  subst e
  refine List.mem_append_left _ (List.mem_flatMap.2 ⟨.tmp t, by simpa using hx, ?_⟩)
  simp [optSlot]
theorem ev_reads {ops : List Oper} {o : Oper} {T T' : Env} (h : ∀ t ∈ reads ops o, T t = T' t) : ∀ x ∈ o.op.operands, ev T x = ev T' x := by
  intro x hx
  cases x with
  | tmp t => exact h t (mem_reads hx rfl)
  | _ => rfl
theorem gval_reads {ops : List Oper} {o : Oper} {T T' : Env} (h : ∀ t ∈ reads ops o, T t = T' t) {j : Nat} {b : Bool} (hg : o.guard = some (j, b)) : gval ops T j = gval ops T' j := by
  unfold gval
  cases hj : ops[j]? with
  | none => rfl
  | some oj =>
    simp only
    cases hd : oj.dst with
    | none => rfl
    | some d => exact h d (List.mem_append_right _ (by simp [hg, hj, hd]))
end
end Go.AM
end
section
namespace Go.AM
open Go.RowKit (Below)
section
variable {P : Program} {w0 : World} {ρ0 : Inj} {n0 N : Nat} {call : CallT} {ops : Array Oper} {l0 : List (Nat × Nat)}
def Lst (listed : Array Bool) (i : Nat) : Prop := listed.getD i false = true
def Pend (P : Program) (n0 : Nat) (ops : List Oper) (H : AH) (ps : List (Nat × (AH → Prop))) (ρ : Inj) (bl : Option Nat) (i : Nat) (o : Oper) (Ti : Env) (v : Value) : Prop :=
  (bl = none ∧ v = skipV ∧ ∃ j want, o.guard = some (j, want) ∧ skips (gval ops Ti j) want) ∨
  ((∀ j want, o.guard = some (j, want) → gval ops Ti j = .bool want) ∧
    ((bl = none ∧ moved Ti o.op = some v) ∨ (bl = none ∧ evP P Ti o.op = some v) ∨
     (bl = none ∧ evR P Ti o.op H = some v ∧ ∃ c, (i, c) ∈ ps ∧ ∀ Hx, c Hx → evR P Ti o.op Hx = some v) ∨
     (∃ b obj m, bl = some b ∧ evA P Ti o.op = some (obj, m) ∧ v = m b ∧ H.get b = obj ∧ ρ.loc b = none ∧ ρ.base ≤ b ∧ n0 ≤ b ∧ b < H.next ∧ ∃ c, (i, c) ∈ ps ∧ ∀ Hx, c Hx → Hx.get b = obj)))
structure Inv (P : Program) (w0 : World) (ρ0 : Inj) (n0 N : Nat) (ops : Array Oper) (l0 pre l : List (Nat × Nat)) (ps : List (Nat × (AH → Prop))) (T0 T : Env) (H : AH) (ρ : Inj) (TS : Env) (bl : Nat → Option Nat)
    (listed : Array Bool) (a : Act) (w : World) : Prop where
  split : l0 = pre ++ l
  size : listed.size = ops.size
  later : ∀ p ∈ l, ¬ Lst listed p.1
  muts : ∀ p ∈ pre, ∀ o, ops.toList[p.1]? = some o → isM P o = true → Lst listed p.1
  closed : ∀ p ∈ l0, Lst listed p.1 → ∀ x, p.2.testBit x = true → Lst listed x
  st : St P w0 ρ0 n0 N ρ TS H a w
  ts1 : ∀ t, ∀ p ∈ pre, ∀ o, ops.toList[p.1]? = some o → o.dst = some t → ¬ Lst listed p.1 → TS t = T0 t
  ts2 : ∀ t, (∀ p ∈ pre, ∀ o, ops.toList[p.1]? = some o → o.dst = some t → Lst listed p.1) → TS t = T t
  t0 : ∀ t, (∀ p ∈ pre, ∀ o, ops.toList[p.1]? = some o → o.dst ≠ some t) → T t = T0 t
  pend : ∀ pr i B sf o, pre = pr ++ (i, B) :: sf → ¬ Lst listed i → ops.toList[i]? = some o → ∃ Ti v, (∀ d, o.dst = some d → T d = v) ∧
    (∀ t, (∀ p ∈ pr, ∀ oj, ops.toList[p.1]? = some oj → oj.dst ≠ some t) → Ti t = T0 t) ∧ (∀ t, ∀ p ∈ pr, ∀ oj, ops.toList[p.1]? = some oj → oj.dst = some t → Ti t = T t) ∧
    Pend P n0 ops.toList H ps ρ (bl i) i o Ti v
  inj : ∀ i j b, bl i = some b → bl j = some b → i = j
  fresh : ∀ i b, bl i = some b → b < H.next
section
variable (D : Draw P ops.toList l0) {pre l : List (Nat × Nat)} {ps : List (Nat × (AH → Prop))} {T0 T TS : Env} {H : AH} {ρ : Inj} {bl : Nat → Option Nat} {listed : Array Bool} {a : Act} {w : World}
  (I : Inv P w0 ρ0 n0 N ops l0 pre l ps T0 T H ρ TS bl listed a w)
include D I
theorem Inv.ahead {pr sf : List (Nat × Nat)} {i B : Nat} {o : Oper} (hs : l0 = pr ++ (i, B) :: sf) (F : Fair P ops.toList l0 pr i B o) (hd : ∀ e ∈ depsOf o, Lst listed e) : ∀ x, B.testBit x = true → Lst listed x := by
  intro x hx
  obtain ⟨e, he, h⟩ := F.mask x hx
  rcases h with rfl | h
  · exact hd e he
  · obtain ⟨q, hq, rfl⟩ := F.deps e he
    have hq0 : q ∈ l0 := by rw [hs]; simp [hq]
    rw [D.mask (i := q.1) (B := q.2) hq0] at h
    exact I.closed q hq0 (hd _ he) x h
theorem Inv.reads_pend {pr sf : List (Nat × Nat)} {i B : Nat} {o : Oper} (hs : pre = pr ++ (i, B) :: sf) (F : Fair P ops.toList l0 pr i B o) (hi : ¬ Lst listed i) (hd : ∀ e ∈ depsOf o, Lst listed e)
    {Ti : Env} (h0 : ∀ t, (∀ p ∈ pr, ∀ oj, ops.toList[p.1]? = some oj → oj.dst ≠ some t) → Ti t = T0 t) (h1 : ∀ t, ∀ p ∈ pr, ∀ oj, ops.toList[p.1]? = some oj → oj.dst = some t → Ti t = T t) :
    ∀ t ∈ reads ops.toList o, Ti t = TS t := by
  intro t ht
  have hs0 : l0 = pr ++ (i, B) :: (sf ++ l) := by rw [I.split, hs]; simp
  have hB := I.ahead D hs0 F hd
  have hin : ∀ p ∈ pre, p ∈ l0 := fun p hp => by rw [I.split]; simp [hp]
  by_cases h : ∃ p ∈ pr, ∃ oj, ops.toList[p.1]? = some oj ∧ oj.dst = some t
  · obtain ⟨p, hp, oj, ho, hdt⟩ := h
    rw [h1 t p hp oj ho hdt]
    refine (I.ts2 t fun q hq o' ho' hdt' => ?_).symm
    have := D.writer (hin q hq) (hin p (by rw [hs]; simp [hp])) ho' ho hdt' hdt
    subst this
    rcases F.ord q hp oj ho with h | h
    · exact hB _ h
    · exact absurd ht (h.1 t hdt)
  · have hno : ∀ p ∈ pr, ∀ oj, ops.toList[p.1]? = some oj → oj.dst ≠ some t := fun p hp oj ho hdt => h ⟨p, hp, oj, ho, hdt⟩
    rw [h0 t hno]
    by_cases h' : ∃ p ∈ pre, ∃ oj, ops.toList[p.1]? = some oj ∧ oj.dst = some t
    · obtain ⟨p, hp, oj, ho, hdt⟩ := h'
      refine (I.ts1 t p hp oj ho hdt ?_).symm
      rw [hs] at hp
      rcases List.mem_append.1 hp with hp' | hp'
      · exact absurd hdt (hno p hp' oj ho)
      · rcases List.mem_cons.1 hp' with rfl | hp'
        · exact hi
        · obtain ⟨s, r, hr⟩ := List.append_of_mem hp'
          obtain ⟨o2, F2⟩ := D.fair (pr ++ (i, B) :: s) p.1 p.2 (r ++ l) (by rw [hs0, hr]; simp)
          have := F2.at_; rw [ho] at this; simp only [Option.some.injEq] at this; subst this
          intro hl
          rcases F2.ord (i, B) (by simp) o F.at_ with h | h
          · exact hi (I.closed p (hin p (by rw [hs]; simp [hp'])) hl _ h)
          · exact h.2 t hdt ht
    · have hno' : ∀ p ∈ pre, ∀ oj, ops.toList[p.1]? = some oj → oj.dst ≠ some t := fun p hp oj ho hdt => h' ⟨p, hp, oj, ho, hdt⟩
      rw [I.ts2 t (fun p hp oj ho hdt => absurd hdt (hno' p hp oj ho)), I.t0 t hno']
theorem Inv.reads_head {l' : List (Nat × Nat)} {i B : Nat} {o : Oper} (hl : l = (i, B) :: l') (F : Fair P ops.toList l0 pre i B o) (hd : ∀ e ∈ depsOf o, Lst listed e) : ∀ t ∈ reads ops.toList o, T t = TS t := by
  intro t ht
  have hB := I.ahead D (by rw [I.split, hl]) F hd
  refine (I.ts2 t fun q hq o' ho' hdt' => ?_).symm
  rcases F.ord q hq o' ho' with h | h
  · exact hB _ h
  · exact absurd ht (h.1 t hdt')
end
def stepV (P : Program) (call : CallT) (ops : List Oper) (o : Oper) (T : Env) (H : AH) (KV : Value → AH → Prop) : Prop :=
  match o.guard with
  | none => runOp P call T o.op H KV
  | some (j, want) => gd (gval ops T j) want (runOp P call T o.op H) H KV
theorem stepW_stepV {ops : List Oper} {o : Oper} {T : Env} {H : AH} {K : Env → AH → Prop} (h : stepW P call ops o T H K) : stepV P call ops o T H (fun v H' => K (updO T o.dst v) H') := h
theorem stepV_congr {ops : List Oper} {o : Oper} {T T' : Env} {H : AH} {KV : Value → AH → Prop} (h : ∀ t ∈ reads ops o, T t = T' t) : stepV P call ops o T H KV = stepV P call ops o T' H KV := by
  unfold stepV
  split
  · rw [runOp_congr (ev_reads h)]
  · rename_i j want hg
    rw [gval_reads h hg]
    congr 1
    funext K
    rw [runOp_congr (ev_reads h)]
theorem stepV_sound (hcall : CallOk P call) {ρ : Inj} {T : Env} {H : AH} {a : Act} {w : World} (hR : R P ρ w0 H w) (hT : TRel ρ T a) {i : Nat} {o : Oper} (hi : ops[i]? = some o) (ho : operOk P N o = true) {Q : Exit → Act → World → Prop}
    {KV : Value → AH → Prop} (hk : stepV P call ops.toList o T H KV) {next : Act → World → Prop}
    (hn : ∀ v' w', Post P ρ w0 H.next KV v' w' → next (a.put o.dst v') w') : wpOp P ops Q i next a w := by
  obtain ⟨hok, hty, hd⟩ := operOk_inv ho
  unfold wpOp
  rw [hi]
  simp only
  have run : runOp P call T o.op H KV → o.wp P a w next Q := fun hr =>
    upon_of_comes (ops := ops) (runOp_sound hcall hR hT hok hty hr) hn
  unfold stepV at hk
  split at hk
  · rename_i hg
    have : Region.wanted o (yielded ops a.tmps) = true := by simp [Region.wanted, hg]
    rw [this, if_pos rfl]
    exact .inl (run hk)
  · rename_i j want hg
    rcases guard_sound hT hg hk with ⟨e, hm⟩ | ⟨e, hm⟩
    · rw [e, if_pos rfl]
      exact .inl (run hm)
    · rw [e]
      simp only [Bool.false_eq_true, if_false]
      exact hn _ _ (post_same (Nat.le_refl _) hR .skip hm)
theorem pend_sound {ρ : Inj} {Ti TS : Env} {H : AH} {a : Act} {w : World} (hR : R P ρ w0 H w) (hT : TRel ρ TS a) {i : Nat} {o : Oper} (hi : ops[i]? = some o) (ho : operOk P N o = true) {Q : Exit → Act → World → Prop}
    {ps : List (Nat × (AH → Prop))} {bl : Option Nat} {v : Value} (hrd : ∀ t ∈ reads ops.toList o, Ti t = TS t) (hp : Pend P n0 ops.toList H ps ρ bl i o Ti v) {next : Act → World → Prop}
    (hn : ∀ ρ' v' w', ρ.le ρ' → (∀ y, (∀ b, bl = some b → y ≠ b) → ρ'.loc y = ρ.loc y) → (∀ b, bl = some b → n0 ≤ b) → R P ρ' w0 H w' → VRel ρ' v v' → next (a.put o.dst v') w') : wpOp P ops Q i next a w := by
  obtain ⟨hok, hty, hd⟩ := operOk_inv ho
  have hev := ev_reads hrd
  unfold wpOp
  rw [hi]
  simp only
  rcases hp with ⟨hb, rfl, j, want, hg, hgv⟩ | ⟨hg, hp⟩
  · have : Region.wanted o (yielded ops a.tmps) = false := by
      rw [gval_reads hrd hg] at hgv
      rcases hgv with hgv | hgv
      · simp only [Region.wanted, hg, gd_want hT hgv]
        cases want <;> rfl
      · simp only [Region.wanted, hg, gd_skip_want hT hgv]
        rfl
    rw [this]
    simp only [Bool.false_eq_true, if_false]
    exact hn ρ _ w ρ.le_refl (fun _ _ => rfl) (fun b h => by rw [hb] at h; simp at h) hR .skip
  · have : Region.wanted o (yielded ops a.tmps) = true := by
      cases hq : o.guard with
      | none => simp [Region.wanted, hq]
      | some g =>
        obtain ⟨j, want⟩ := g
        have hgv := hg j want hq
        rw [gval_reads hrd hq] at hgv
        simp only [Region.wanted, hq, gd_want hT hgv]
        cases want <;> rfl
    rw [this, if_pos rfl]
    refine .inl ?_
    have value : ∀ v' w', (execOp a.eval o).run P w = .ok (.value v') w' → next (a.put o.dst v') w' → o.wp P a w next Q := by
      intro v' w' h1 h2
      unfold Oper.wp
      rw [h1]; exact h2
    rcases hp with ⟨hb, hmv⟩ | ⟨hb, hpv⟩ | ⟨hb, hrv, _⟩ | ⟨b, obj, m, hb, hav, rfl, hgt, hloc, hbase, hn0, hlt, _⟩
    · rw [moved_congr hev] at hmv
      have : ∃ x, (o.op = .move x ∨ o.op = .assign x) ∧ v = ev TS x := by
        unfold moved at hmv
        split at hmv
        · simp at hmv; exact ⟨_, .inl (by assumption), hmv.symm⟩
        · simp at hmv; exact ⟨_, .inr (by assumption), hmv.symm⟩
        · simp at hmv
      obtain ⟨x, hx, rfl⟩ := this
      have hr := ev_rel hR.glob hT (hok x (by rcases hx with e | e <;> rw [e] <;> simp [Op.operands]))
      refine value (a.eval x) w (by rcases hx with e | e <;> simp [execOp, e]) (hn ρ _ w ρ.le_refl (fun _ _ => rfl) (fun b h => by rw [hb] at h; simp at h) hR hr)
    · rw [evP_congr hev] at hpv
      obtain ⟨v', hr, hrun⟩ := evP_sound hR.glob hT hok hty hpv
      exact value v' w (hrun w) (hn ρ _ w ρ.le_refl (fun _ _ => rfl) (fun b h => by rw [hb] at h; simp at h) hR hr)
    · rw [evR_congr hev] at hrv
      obtain ⟨v', hr, hrun⟩ := evR_sound hR hT hok hty hrv
      exact value v' w hrun (hn ρ _ w ρ.le_refl (fun _ _ => rfl) (fun b h => by rw [hb] at h; simp at h) hR hr)
    · rw [evA_congr hev] at hav
      obtain ⟨ρ', v', w', r1, r2, r3, r4, r5⟩ := evA_sound hR hT hok hty hav hbase hlt hloc hgt
      exact value v' w' r5 (hn ρ' _ w' r1 (fun y hy => r2 y (hy b hb)) (fun b' h => by rw [hb] at h; simp only [Option.some.injEq] at h; omega) r3 r4)
end
end Go.AM
end
section
namespace Go.AM
open Go.RowKit (Below)
section
variable {P : Program} {w0 : World} {ρ0 : Inj} {n0 N : Nat} {call : CallT} {ops : Array Oper} {l0 : List (Nat × Nat)}
  (D : Draw P ops.toList l0) {pre l : List (Nat × Nat)} {ps : List (Nat × (AH → Prop))} {T0 T TS : Env} {H : AH} {ρ : Inj} {bl : Nat → Option Nat} {listed : Array Bool} {a : Act} {w : World}
theorem Lst.set {listed : Array Bool} {i j : Nat} (h : Lst listed j) : Lst (listed.setIfInBounds i true) j := getD_set_true h
theorem Lst.set_ne {listed : Array Bool} {i j : Nat} (h : Lst (listed.setIfInBounds i true) j) (e : j ≠ i) : Lst listed j := by
  unfold Lst at *; rwa [getD_set_ne false (Ne.symm e)] at h
theorem Lst.self {listed : Array Bool} {i : Nat} (h : i < listed.size) : Lst (listed.setIfInBounds i true) i := by
  simp [Lst, h]
theorem updO_ne {d : Option Nat} {v : Value} {t : Nat} (h : d ≠ some t) : updO T d v t = T t := by
  cases d with
  | none => rfl
  | some d => simp only [updO, upd]; rw [if_neg (by rintro rfl; exact h rfl)]
theorem updO_self {v : Value} {t : Nat} : updO T (some t) v t = v := by simp [updO, upd]
theorem Pend.rho {ops : List Oper} {ρ ρ' : Inj} {bl : Option Nat} {i : Nat} {o : Oper} {Ti : Env} {v : Value} (h : Pend P n0 ops H ps ρ bl i o Ti v) (hb : ρ'.base = ρ.base) (hl : ∀ b, bl = some b → ρ'.loc b = ρ.loc b) : Pend P n0 ops H ps ρ' bl i o Ti v := by
  rcases h with h | ⟨h1, h | h | h | ⟨b, obj, m, h2, h3, h4, h5, h6, h7, h8, h9, h10⟩⟩
  · exact .inl h
  · exact .inr ⟨h1, .inl h⟩
  · exact .inr ⟨h1, .inr (.inl h)⟩
  · exact .inr ⟨h1, .inr (.inr (.inl h))⟩
  · exact .inr ⟨h1, .inr (.inr (.inr ⟨b, obj, m, h2, h3, h4, h5, by rw [hl b h2]; exact h6, by rw [hb]; exact h7, h8, h9, h10⟩))⟩
include D in
theorem Inv.late (I : Inv P w0 ρ0 n0 N ops l0 pre l ps T0 T H ρ TS bl listed a w) {pr sf : List (Nat × Nat)} {i B : Nat} {o : Oper} (hs : pre = pr ++ (i, B) :: sf) (F : Fair P ops.toList l0 pr i B o) (hi : ¬ Lst listed i)
    (hd : ∀ e ∈ depsOf o, Lst listed e) (hdN : ∀ d, o.dst = some d → d < N) {v v' : Value} {ρ' : Inj} {w' : World} (hv : ∀ d, o.dst = some d → T d = v) (hle : ρ.le ρ') (hl : ∀ y, (∀ b, bl i = some b → y ≠ b) → ρ'.loc y = ρ.loc y)
    (hn : ∀ b, bl i = some b → n0 ≤ b) (hR : R P ρ' w0 H w') (hr : VRel ρ' v v') :
    Inv P w0 ρ0 n0 N ops l0 pre l ps T0 T H ρ' (updO TS o.dst v) bl (listed.setIfInBounds i true) (a.put o.dst v') w' := by
  have hs0 : l0 = pr ++ (i, B) :: (sf ++ l) := by rw [I.split, hs]; simp
  have hB := I.ahead D hs0 F hd
  have hin : ∀ p ∈ pre, p ∈ l0 := fun p hp => by rw [I.split]; simp [hp]
  have hip : (i, B) ∈ pre := by rw [hs]; simp
  have ho : ops.toList[i]? = some o := F.at_
  have hne : ∀ p ∈ l0, p ≠ (i, B) → p.1 ≠ i := fun p hp hne e => hne (D.one hp (hin _ hip) e)
  have hlt : i < listed.size := by
    rw [I.size]
    rcases Nat.lt_or_ge i ops.size with g | g
    · exact g
    · rw [List.getElem?_eq_none (by simpa using g)] at ho; simp at ho
  refine { split := I.split, size := by simp [I.size], later := ?_, muts := fun p hp o ho hm => (I.muts p hp o ho hm).set, closed := ?_, st := ?_, ts1 := ?_, ts2 := ?_, t0 := I.t0, pend := ?_, inj := I.inj, fresh := I.fresh }
  · intro p hp hL
    refine I.later p hp (hL.set_ne fun e => ?_)
    obtain ⟨s, r, hr'⟩ := List.append_of_mem hp
    obtain ⟨o2, F2⟩ := D.fair (pre ++ s) p.1 p.2 r (by rw [I.split, hr']; simp)
    exact F2.new (i, B) (by simp [hip]) e.symm
  · intro p hp hL x hx
    by_cases e : p = (i, B)
    · subst e; exact (hB x hx).set
    · exact (I.closed p hp (hL.set_ne (hne p hp e)) x hx).set
  · exact { le := Inj.le_trans I.st.le hle, hole := fun b hb => by rw [hl b (fun b' h => by have := hn b' h; omega)]; exact I.st.hole b hb, nn := I.st.nn, r := hR,
            t := (I.st.t.mono hle).put (by rw [I.st.s]; exact hdN) hr, d := by rw [put_defers]; exact I.st.d, s := by rw [put_size]; exact I.st.s }
  · intro t p hp o' ho' hdt hL
    have hpi : p ≠ (i, B) := by rintro rfl; exact hL (Lst.self hlt)
    have : o.dst ≠ some t := fun e => hpi (D.writer (hin p hp) (hin _ hip) ho' ho hdt e)
    rw [updO_ne this]
    exact I.ts1 t p hp o' ho' hdt fun h => hL h.set
  · intro t ht
    by_cases e : o.dst = some t
    · rw [e, updO_self]; exact (hv t e).symm
    · rw [updO_ne e]
      refine I.ts2 t fun p hp o' ho' hdt => (ht p hp o' ho' hdt).set_ne fun e' => ?_
      have hq := D.one (hin p hp) (hin _ hip) e'
      subst hq
      rw [ho] at ho'; simp only [Option.some.injEq] at ho'; subst ho'
      exact e hdt
  · intro pr' k B' sf' o' hs' hk ho'
    have hki : k ≠ i := by rintro rfl; exact hk (Lst.self hlt)
    obtain ⟨Ti, u, h1, h2, h3, h4⟩ := I.pend pr' k B' sf' o' hs' (fun h => hk h.set) ho'
    exact ⟨Ti, u, h1, h2, h3, h4.rho hle.1 fun b hb => hl b fun b' hb' e => hki (I.inj k i b hb (e ▸ hb'))⟩
theorem Pend.later {ops : List Oper} {ρ : Inj} {bl : Option Nat} {i : Nat} {o : Oper} {Ti : Env} {v : Value} (h : Pend P n0 ops H ps ρ bl i o Ti v) (H' : AH) (hH : H' = H ∨ ∃ ob, H' = H.new ob) {ps' : List (Nat × (AH → Prop))} (hps : ∀ x ∈ ps, x ∈ ps') :
    Pend P n0 ops H' ps' ρ bl i o Ti v := by
  have hnx : H.next ≤ H'.next := by
    rcases hH with rfl | ⟨ob, rfl⟩
    · exact Nat.le_refl _
    · exact Nat.le_succ _
  rcases h with h | ⟨h1, h | h | ⟨h2, h3, c, h4, h5⟩ | ⟨b, obj, m, h2, h3, h4, h5, h6, h7, h8, h9, c, h10, h11⟩⟩
  · exact .inl h
  · exact .inr ⟨h1, .inl h⟩
  · exact .inr ⟨h1, .inr (.inl h)⟩
  · refine .inr ⟨h1, .inr (.inr (.inl ⟨h2, ?_, c, hps _ h4, h5⟩))⟩
    rcases hH with rfl | ⟨ob, rfl⟩
    · exact h3
    · exact evR_new ob h3
  · refine .inr ⟨h1, .inr (.inr (.inr ⟨b, obj, m, h2, h3, h4, ?_, h6, h7, h8, by omega, c, hps _ h10, h11⟩))⟩
    rcases hH with rfl | ⟨ob, rfl⟩
    · exact h5
    · rw [AH.get_new_ne _ _ (by omega)]; exact h5
include D in
theorem Inv.go (I : Inv P w0 ρ0 n0 N ops l0 pre l ps T0 T H ρ TS bl listed a w) {i B : Nat} {l' : List (Nat × Nat)} {o : Oper} (hl : l = (i, B) :: l') (F : Fair P ops.toList l0 pre i B o) (hM : isM P o = false) {v : Value} {H' : AH}
    (hH : H' = H ∨ ∃ ob, H' = H.new ob) {ps' : List (Nat × (AH → Prop))} (hps : ∀ x ∈ ps, x ∈ ps') {bi : Option Nat} (hbi : ∀ b, bi = some b → b = H.next ∧ b < H'.next)
    (hp : Pend P n0 ops.toList H' ps' ρ bi i o T v) :
    Inv P w0 ρ0 n0 N ops l0 (pre ++ [(i, B)]) l' ps' T0 (updO T o.dst v) H' ρ TS (fun k => if k = i then bi else bl k) listed a w := by
  have ho : ops.toList[i]? = some o := F.at_
  have hin : ∀ p ∈ pre, p ∈ l0 := fun p hp => by rw [I.split]; simp [hp]
  have hil : (i, B) ∈ l0 := by rw [I.split, hl]; simp
  have hiu : ¬ Lst listed i := I.later (i, B) (by rw [hl]; simp)
  have huniq : ∀ p ∈ pre, ∀ o', ops.toList[p.1]? = some o' → ∀ t, o'.dst = some t → o.dst ≠ some t := fun p hp o' ho' t ht e =>
    F.new p hp (congrArg Prod.fst (D.writer (hin p hp) hil ho' ho ht e))
  have hnx : H.next ≤ H'.next := by
    rcases hH with rfl | ⟨ob, rfl⟩
    · exact Nat.le_refl _
    · exact Nat.le_succ _
  refine { split := by rw [I.split, hl]; simp, size := I.size, later := fun p hp => I.later p (by rw [hl]; simp [hp]), muts := ?_, closed := I.closed, st := ?_, ts1 := ?_, ts2 := ?_, t0 := ?_, pend := ?_, inj := ?_, fresh := ?_ }
  · intro p hp o' ho' hm
    rcases List.mem_append.1 hp with hp | hp
    · exact I.muts p hp o' ho' hm
    · simp only [List.mem_singleton] at hp; subst hp
      rw [ho] at ho'; simp only [Option.some.injEq] at ho'; subst ho'
      rw [hM] at hm; exact Bool.noConfusion hm
  · rcases hH with rfl | ⟨ob, rfl⟩
    · exact I.st
    · exact { le := I.st.le, hole := I.st.hole, nn := Nat.le_succ_of_le I.st.nn, r := I.st.r.new ob, t := I.st.t, d := I.st.d, s := I.st.s }
  · intro t p hp o' ho' hdt hL
    rcases List.mem_append.1 hp with hp | hp
    · exact I.ts1 t p hp o' ho' hdt hL
    · simp only [List.mem_singleton] at hp; subst hp
      rw [ho] at ho'; simp only [Option.some.injEq] at ho'; subst ho'
      have hno : ∀ p ∈ pre, ∀ oj, ops.toList[p.1]? = some oj → oj.dst ≠ some t := fun p hp oj hj e => huniq p hp oj hj t e hdt
      rw [I.ts2 t (fun p hp oj hj e => absurd e (hno p hp oj hj)), I.t0 t hno]
  · intro t ht
    have hne : o.dst ≠ some t := fun e => hiu (ht (i, B) (by simp) o ho e)
    rw [updO_ne hne]
    exact I.ts2 t fun p hp o' ho' hdt => ht p (by simp [hp]) o' ho' hdt
  · intro t ht
    rw [updO_ne (ht (i, B) (by simp) o ho)]
    exact I.t0 t fun p hp o' ho' => ht p (by simp [hp]) o' ho'
  · intro pr k B' sf o' hs hk ho'
    by_cases e : k = i
    · subst e
      rw [ho] at ho'; simp only [Option.some.injEq] at ho'; subst ho'
      have hpr : pr = pre ∧ sf = [] := by
        rcases List.eq_nil_or_concat sf with h | ⟨sf', z, h⟩
        · subst h
          have := List.append_inj' hs (by simp)
          exact ⟨this.1.symm, rfl⟩
        · exfalso
          subst h
          have hs2 : pre ++ [(k, B)] = (pr ++ (k, B') :: sf') ++ [z] := by rw [hs]; simp
          have := List.append_inj' hs2 (by simp)
          exact F.new (k, B') (by rw [this.1]; simp) rfl
      obtain ⟨rfl, rfl⟩ := hpr
      refine ⟨T, v, fun d hd => by rw [hd, updO_self], I.t0, fun t p hp oj hj hdt => (updO_ne (huniq p hp oj hj t hdt)).symm, ?_⟩
      simp only [if_true]; exact hp
    · have hs' : ∃ sf', pre = pr ++ (k, B') :: sf' := by
        rcases List.eq_nil_or_concat sf with h | ⟨sf', z, h⟩
        · subst h
          have := List.append_inj' hs (by simp)
          simp only [List.cons.injEq, Prod.mk.injEq, and_true] at this
          exact absurd this.2.1.symm e
        · subst h
          have hs2 : pre ++ [(i, B)] = (pr ++ (k, B') :: sf') ++ [z] := by rw [hs]; simp
          exact ⟨sf', (List.append_inj' hs2 (by simp)).1⟩
      obtain ⟨sf', hs'⟩ := hs'
      obtain ⟨Ti, u, h1, h2, h3, h4⟩ := I.pend pr k B' sf' o' hs' hk ho'
      have hkp : (k, B') ∈ pre := by rw [hs']; simp
      refine ⟨Ti, u, fun d hd => by rw [updO_ne (huniq _ hkp o' ho' d hd)]; exact h1 d hd, h2, fun t p hp oj hj hdt => by
        rw [updO_ne (huniq p (by rw [hs']; simp [hp]) oj hj t hdt)]; exact h3 t p hp oj hj hdt, ?_⟩
      rw [if_neg e]
      exact h4.later H' hH hps
  · intro x y b hx hy
    split at hx
    · rename_i ex
      split at hy
      · rename_i ey; rw [ex, ey]
      · have := I.fresh y b hy; have := (hbi b hx).1; omega
    · split at hy
      · have := I.fresh x b hx; have := (hbi b hy).1; omega
      · exact I.inj x y b hx hy
  · intro x b hx
    split at hx
    · exact (hbi b hx).2
    · exact Nat.lt_of_lt_of_le (I.fresh x b hx) hnx
include D in
theorem Inv.head (I : Inv P w0 ρ0 n0 N ops l0 pre l ps T0 T H ρ TS bl listed a w) {i B : Nat} {l' : List (Nat × Nat)} {o : Oper} (hl : l = (i, B) :: l') (F : Fair P ops.toList l0 pre i B o)
    (hd : ∀ e ∈ depsOf o, Lst listed e) (hdN : ∀ d, o.dst = some d → d < N) {v v' : Value} {ρ' : Inj} {H' : AH} {w' : World} (hle : ρ.le ρ') (hlo : ∀ b, b < H.next → ρ'.loc b = ρ.loc b) (hnx : H.next ≤ H'.next)
    (hR : R P ρ' w0 H' w') (hr : VRel ρ' v v') (hpend : ∀ k c, (k, c) ∈ ps → B.testBit k = false → c H') :
    Inv P w0 ρ0 n0 N ops l0 (pre ++ [(i, B)]) l' ps T0 (updO T o.dst v) H' ρ' (updO TS o.dst v) bl (listed.setIfInBounds i true) (a.put o.dst v') w' := by
  have ho : ops.toList[i]? = some o := F.at_
  have hin : ∀ p ∈ pre, p ∈ l0 := fun p hp => by rw [I.split]; simp [hp]
  have hs0 : l0 = pre ++ (i, B) :: l' := by rw [I.split, hl]
  have hil : (i, B) ∈ l0 := by rw [hs0]; simp
  have hiu : ¬ Lst listed i := I.later (i, B) (by rw [hl]; simp)
  have hB := I.ahead D hs0 F hd
  have huniq : ∀ p ∈ pre, ∀ o', ops.toList[p.1]? = some o' → ∀ t, o'.dst = some t → o.dst ≠ some t := fun p hp o' ho' t ht e =>
    F.new p hp (congrArg Prod.fst (D.writer (hin p hp) hil ho' ho ht e))
  have hlt : i < listed.size := by
    rw [I.size]
    rcases Nat.lt_or_ge i ops.size with g | g
    · exact g
    · rw [List.getElem?_eq_none (by simpa using g)] at ho; simp at ho
  refine { split := by rw [hs0]; simp, size := by simp [I.size], later := ?_, muts := ?_, closed := ?_, st := I.st.put hdN hle hlo hnx hR hr, ts1 := ?_, ts2 := ?_, t0 := ?_, pend := ?_, inj := I.inj, fresh := fun k b hb => Nat.lt_of_lt_of_le (I.fresh k b hb) hnx }
  · intro p hp hL
    refine I.later p (by rw [hl]; simp [hp]) (hL.set_ne fun e => ?_)
    obtain ⟨s, r, hr'⟩ := List.append_of_mem hp
    obtain ⟨o2, F2⟩ := D.fair (pre ++ (i, B) :: s) p.1 p.2 r (by rw [hs0, hr']; simp)
    exact F2.new (i, B) (by simp) e.symm
  · intro p hp o' ho' hm
    rcases List.mem_append.1 hp with hp | hp
    · exact (I.muts p hp o' ho' hm).set
    · simp only [List.mem_singleton] at hp; subst hp; exact Lst.self hlt
  · intro p hp hL x hx
    by_cases e : p.1 = i
    · have := D.one hp hil e
      subst this; exact (hB x hx).set
    · exact (I.closed p hp (hL.set_ne e) x hx).set
  · intro t p hp o' ho' hdt hL
    rcases List.mem_append.1 hp with hp | hp
    · rw [updO_ne (huniq p hp o' ho' t hdt)]
      exact I.ts1 t p hp o' ho' hdt fun h => hL h.set
    · simp only [List.mem_singleton] at hp; subst hp; exact absurd (Lst.self hlt) hL
  · intro t ht
    by_cases e : o.dst = some t
    · rw [e, updO_self, updO_self]
    · rw [updO_ne e, updO_ne e]
      exact I.ts2 t fun p hp o' ho' hdt => (ht p (by simp [hp]) o' ho' hdt).set_ne (F.new p hp)
  · intro t ht
    rw [updO_ne (ht (i, B) (by simp) o ho)]
    exact I.t0 t fun p hp o' ho' => ht p (by simp [hp]) o' ho'
  · intro pr k B' sf o' hs hk ho'
    have hki : k ≠ i := by rintro rfl; exact hk (Lst.self hlt)
    have hs' : ∃ sf', pre = pr ++ (k, B') :: sf' := by
      rcases List.eq_nil_or_concat sf with h | ⟨sf', z, h⟩
      · subst h
        have := List.append_inj' hs (by simp)
        simp only [List.cons.injEq, Prod.mk.injEq, and_true] at this
        exact absurd this.2.1.symm hki
      · subst h
        have hs2 : pre ++ [(i, B)] = (pr ++ (k, B') :: sf') ++ [z] := by rw [hs]; simp
        exact ⟨sf', (List.append_inj' hs2 (by simp)).1⟩
    obtain ⟨sf', hs'⟩ := hs'
    have hku : ¬ Lst listed k := fun h => hk h.set
    obtain ⟨Ti, u, h1, h2, h3, h4⟩ := I.pend pr k B' sf' o' hs' hku ho'
    have hkp : (k, B') ∈ pre := by rw [hs']; simp
    have hkB : B.testBit k = false := by
      cases hq : B.testBit k with
      | false => rfl
      | true => exact absurd (hB k hq) hku
    refine ⟨Ti, u, fun d hd => by rw [updO_ne (huniq _ hkp o' ho' d hd)]; exact h1 d hd, h2, fun t p hp oj hj hdt => by
      rw [updO_ne (huniq p (by rw [hs']; simp [hp]) oj hj t hdt)]; exact h3 t p hp oj hj hdt, ?_⟩
    rcases h4 with h | ⟨g, h | h | ⟨q2, q3, c, q4, q5⟩ | ⟨b, obj, m, q2, q3, q4, q5, q6, q7, q8, q9, c, q10, q11⟩⟩
    · exact .inl h
    · exact .inr ⟨g, .inl h⟩
    · exact .inr ⟨g, .inr (.inl h)⟩
    · exact .inr ⟨g, .inr (.inr (.inl ⟨q2, q5 _ (hpend k c q4 hkB), c, q4, q5⟩))⟩
    · exact .inr ⟨g, .inr (.inr (.inr ⟨b, obj, m, q2, q3, q4, q11 _ (hpend k c q10 hkB), by rw [hlo b q9]; exact q6, by rw [hle.1]; exact q7, q8, Nat.lt_of_lt_of_le q9 hnx, c, q10, q11⟩))⟩
end
end Go.AM
end
section
namespace Go.AM
open Go.RowKit (Below)
section
variable {P : Program} {w0 : World} {ρ0 : Inj} {n0 N : Nat} {call : CallT} {ops : Array Oper} {l0 : List (Nat × Nat)}
  (D : Draw P ops.toList l0) {pre l : List (Nat × Nat)} {ps : List (Nat × (AH → Prop))} {T0 T TS : Env} {H : AH} {ρ : Inj} {bl : Nat → Option Nat} {listed : Array Bool} {a : Act} {w : World} {K : Env → AH → Prop}
theorem gd_abs {g : Value} {want : Bool} {m : (Value → AH → Prop) → Prop} {KV : Value → AH → Prop} (h : gd g want m H KV) : (g = .bool want ∧ m KV) ∨ (skips g want ∧ KV skipV H) := by
  unfold gd at h
  split at h
  · rename_i hs; exact .inr ⟨.inr hs, h⟩
  cases want with
  | true =>
    rcases ifB_inv h with ⟨e, h⟩ | ⟨e, h⟩
    · exact .inl ⟨e, h⟩
    · exact .inr ⟨.inl e, h⟩
  | false =>
    rcases ifB_inv h with ⟨e, h⟩ | ⟨e, h⟩
    · exact .inr ⟨.inl e, h⟩
    · exact .inl ⟨e, h⟩
theorem stepV_abs {ops : List Oper} {o : Oper} {KV : Value → AH → Prop} (h : stepV P call ops o T H KV) :
    ((∃ j want, o.guard = some (j, want) ∧ skips (gval ops T j) want) ∧ KV skipV H) ∨ ((∀ j want, o.guard = some (j, want) → gval ops T j = .bool want) ∧ runOp P call T o.op H KV) := by
  unfold stepV at h
  split at h
  · rename_i hg
    exact .inr ⟨fun j want e => by rw [hg] at e; simp at e, h⟩
  · rename_i j want hg
    rcases gd_abs h with ⟨e, h⟩ | ⟨e, h⟩
    · exact .inr ⟨fun j' want' e' => by rw [hg] at e'; simp only [Option.some.injEq, Prod.mk.injEq] at e'; obtain ⟨rfl, rfl⟩ := e'; exact e, h⟩
    · exact .inl ⟨⟨j, want, hg, e⟩, h⟩
theorem gdO_of {ops : List Oper} {o : Oper} {c : Prop} (hg : ∀ j want, o.guard = some (j, want) → gval ops T j = .bool want) (h : gdO ops T o c) : c := by
  unfold gdO at h
  split at h
  · exact h
  · rename_i j want e
    rw [hg j want e] at h
    cases want <;> exact h
include D in
theorem Inv.advance : ∀ (l pre : List (Nat × Nat)) (ps : List (Nat × (AH → Prop))) (T : Env) (H : AH) (bl : Nat → Option Nat), Inv P w0 ρ0 n0 N ops l0 pre l ps T0 T H ρ TS bl listed a w → evDraw P call ops.toList l ps T H K →
    ∃ pre' l' ps' T' H' bl', Inv P w0 ρ0 n0 N ops l0 pre' l' ps' T0 T' H' ρ TS bl' listed a w ∧ evDraw P call ops.toList l' ps' T' H' K ∧
      (l' = [] ∨ ∃ i B l'' o, l' = (i, B) :: l'' ∧ ops.toList[i]? = some o ∧ isM P o = true) := by
  intro l
  induction l with
  | nil => intro pre ps T H bl I h; exact ⟨pre, [], ps, T, H, bl, I, h, .inl rfl⟩
  | cons q l ih =>
    obtain ⟨i, B⟩ := q
    intro pre ps T H bl I h
    obtain ⟨o, F⟩ := D.fair pre i B l I.split
    by_cases hM : isM P o = true
    · exact ⟨pre, _, ps, T, H, bl, I, h, .inr ⟨i, B, l, o, rfl, F.at_, hM⟩⟩
    · have hM' : isM P o = false := by simpa using hM
      have h' := h
      unfold evDraw at h
      rw [F.at_] at h
      simp only at h
      have moved_no : ∀ v, moved T o.op = some v → cls P o.op = .P := by
        intro v hv
        unfold moved at hv
        split at hv
        · rename_i e; rw [e]; rfl
        · rename_i e; rw [e]; rfl
        · simp at hv
      have fin : ∀ (ps' : List (Nat × (AH → Prop))) (v : Value) (H' : AH) (bi : Option Nat), (H' = H ∨ ∃ ob, H' = H.new ob) → (∀ x ∈ ps, x ∈ ps') → (∀ b, bi = some b → b = H.next ∧ b < H'.next) →
          Pend P n0 ops.toList H' ps' ρ bi i o T v → evDraw P call ops.toList l ps' (updO T o.dst v) H' K →
          ∃ pre' l' ps' T' H' bl', Inv P w0 ρ0 n0 N ops l0 pre' l' ps' T0 T' H' ρ TS bl' listed a w ∧ evDraw P call ops.toList l' ps' T' H' K ∧
            (l' = [] ∨ ∃ i B l'' o, l' = (i, B) :: l'' ∧ ops.toList[i]? = some o ∧ isM P o = true) := by
        intro ps' v H' bi e1 e2 e3 e4 e5
        exact ih _ ps' _ H' _ (I.go D rfl F hM' e1 e2 e3 e4) e5
      have self : ∀ x ∈ ps, x ∈ ps := fun x h => h
      have cons : ∀ z, ∀ x ∈ ps, x ∈ z :: ps := fun z x h => List.mem_cons_of_mem _ h
      cases hc : cls P o.op with
      | P =>
        rw [hc] at h
        simp only at h
        rcases stepV_abs (stepW_stepV h) with ⟨hg, hk⟩ | ⟨hg, hr⟩
        · exact fin ps skipV H none (.inl rfl) self (fun b e => by simp at e) (.inl ⟨rfl, rfl, hg⟩) hk
        · unfold runOp at hr
          split at hr
          · rename_i v hv
            exact fin ps v H none (.inl rfl) self (fun b e => by simp at e) (.inr ⟨hg, .inl ⟨rfl, hv⟩⟩) hr
          · rw [hc] at hr
            obtain ⟨v, hv, hk⟩ := opt_inv hr
            exact fin ps v H none (.inl rfl) self (fun b e => by simp at e) (.inr ⟨hg, .inr (.inl ⟨rfl, hv⟩)⟩) hk
      | R =>
        rw [hc] at h
        simp only at h
        rcases stepV_abs (stepW_stepV h) with ⟨hg, hk⟩ | ⟨hg, hr⟩
        · exact fin _ skipV H none (.inl rfl) (cons _) (fun b e => by simp at e) (.inl ⟨rfl, rfl, hg⟩) hk
        · unfold runOp at hr
          split at hr
          · rename_i v hv
            rw [moved_no v hv] at hc; exact absurd hc (by simp)
          · rw [hc] at hr
            obtain ⟨v, hv, hk⟩ := opt_inv hr
            exact fin _ v H none (.inl rfl) (cons _) (fun b e => by simp at e)
              (.inr ⟨hg, .inr (.inr (.inl ⟨rfl, hv, _, List.mem_cons_self, fun Hx hx => (gdO_of hg hx).trans hv⟩))⟩) hk
      | A =>
        rw [hc] at h
        simp only at h
        rcases stepV_abs (stepW_stepV h) with ⟨hg, hk⟩ | ⟨hg, hr⟩
        · exact fin _ skipV H none (.inl rfl) (cons _) (fun b e => by simp at e) (.inl ⟨rfl, rfl, hg⟩) hk
        · unfold runOp at hr
          split at hr
          · rename_i v hv
            rw [moved_no v hv] at hc; exact absurd hc (by simp)
          · rw [hc] at hr
            obtain ⟨obj, m, hm, hk⟩ := mk_inv hr
            have hnone : ρ.loc H.next = none := by
              cases hq : ρ.loc H.next with
              | none => rfl
              | some q => have := (I.st.r.own _ _ hq).2.1; omega
            exact fin _ (m H.next) (H.new obj) (some H.next) (.inr ⟨obj, rfl⟩) (cons _) (fun b e => by simp only [Option.some.injEq] at e; subst e; exact ⟨rfl, Nat.lt_succ_self _⟩)
              (.inr ⟨hg, .inr (.inr (.inr ⟨H.next, obj, m, rfl, hm, rfl, AH.get_new_self _ _, hnone, I.st.r.nxt, I.st.nn, Nat.lt_succ_self _, _, List.mem_cons_self, fun Hx hx => (gdO_of hg hx).trans (AH.get_new_self _ _)⟩))⟩) hk
      | M => unfold isM at hM; rw [hc] at hM; exact absurd rfl hM
theorem pendAll_inv {B : Nat} {R : Prop} : ∀ (ps : List (Nat × (AH → Prop))), pendAll B H R ps → R ∧ ∀ k c, (k, c) ∈ ps → B.testBit k = false → c H := by
  intro ps
  induction ps with
  | nil => intro h; exact ⟨h, fun k c h => by simp at h⟩
  | cons p ps ih =>
    obtain ⟨j, c⟩ := p
    intro h
    unfold pendAll at h
    split at h
    · rename_i hb
      obtain ⟨h1, h2⟩ := ih h
      refine ⟨h1, fun k c' hm hk => ?_⟩
      rcases List.mem_cons.1 hm with e | e
      · simp only [Prod.mk.injEq] at e; obtain ⟨rfl, rfl⟩ := e; rw [hb] at hk; exact Bool.noConfusion hk
      · exact h2 k c' e hk
    · obtain ⟨h1, h2⟩ := ih h.2
      refine ⟨h1, fun k c' hm hk => ?_⟩
      rcases List.mem_cons.1 hm with e | e
      · simp only [Prod.mk.injEq] at e; obtain ⟨rfl, rfl⟩ := e; exact h.1
      · exact h2 k c' e hk
theorem countP_lt {α : Type} (p q : α → Bool) : ∀ l : List α, (∀ x, q x = true → p x = true) → (∃ x ∈ l, p x = true ∧ q x = false) → l.countP q < l.countP p := by
  intro l
  have le : ∀ l : List α, (∀ x, q x = true → p x = true) → l.countP q ≤ l.countP p := fun l h => List.countP_mono_left fun x _ => h x
  induction l with
  | nil => rintro _ ⟨x, hx, _⟩; simp at hx
  | cons y l ih =>
    rintro h ⟨x, hx, h1, h2⟩
    rw [List.countP_cons, List.countP_cons]
    rcases List.mem_cons.1 hx with rfl | hx
    · rw [h1, h2]; have := le l h; simp; omega
    · have := ih h ⟨x, hx, h1, h2⟩
      by_cases hq : q y = true
      · rw [hq, h y hq]; simpa using this
      · rw [if_neg hq]
        split <;> omega
def Ready (P : Program) (w0 : World) (ρ0 : Inj) (n0 N : Nat) (call : CallT) (ops : Array Oper) (l0 : List (Nat × Nat)) (T0 : Env) (K : Env → AH → Prop) (listed : Array Bool) (a : Act) (w : World) : Prop :=
  ∃ pre l ps T H ρ TS bl, Inv P w0 ρ0 n0 N ops l0 pre l ps T0 T H ρ TS bl listed a w ∧ evDraw P call ops.toList l ps T H K ∧
    (l = [] ∨ ∃ i B l' o, l = (i, B) :: l' ∧ ops.toList[i]? = some o ∧ isM P o = true)
theorem deps_of_ready {o : Oper} {listed : Array Bool} (h : ∀ e ∈ o.after, Region.binds .any e = true → listed.getD e.on false = true) : ∀ e ∈ depsOf o, Lst listed e := by
  intro e he
  simp only [depsOf, List.mem_map, List.mem_filter] at he
  obtain ⟨x, ⟨h1, h2⟩, rfl⟩ := he
  exact h x (by simpa using h1) h2
theorem Ready.done (h : Ready P w0 ρ0 n0 N call ops l0 T0 K listed a w) (hall : ∀ p ∈ l0, Lst listed p.1) : Nx P w0 ρ0 n0 N K a w := by
  obtain ⟨pre, l, ps, T, H, ρ, TS, bl, I, hk, hl⟩ := h
  have : l = [] := by
    cases l with
    | nil => rfl
    | cons p l => exact absurd (hall p (by rw [I.split]; simp)) (I.later p (by simp))
  subst this
  have : TS = T := funext fun t => I.ts2 t fun p hp o ho _ => hall p (by rw [I.split]; simp [hp])
  subst this
  exact ⟨ρ, TS, H, I.st, hk⟩
include D in
theorem not_ready {listed : Array Bool} (hsz : listed.size = ops.size) (h : Region.ready .any ops listed = []) : ∀ p ∈ l0, Lst listed p.1 := by
  have key : ∀ (n : Nat) (pr sf : List (Nat × Nat)), pr.length = n → l0 = pr ++ sf → ∀ p ∈ pr, Lst listed p.1 := by
    intro n
    induction n with
    | zero => intro pr sf hl _ p hp; rw [List.eq_nil_of_length_eq_zero hl] at hp; simp at hp
    | succ n ih =>
      intro pr sf hl hs p hp
      rcases List.eq_nil_or_concat pr with e | ⟨pr', z, e⟩
      · subst e; simp at hl
      · rw [List.concat_eq_append] at e
        subst e
        have hs' : l0 = pr' ++ (z.1, z.2) :: sf := by rw [hs]; simp
        have ihp := ih pr' _ (by simpa using hl) hs'
        rcases List.mem_append.1 hp with hp | hp
        · exact ihp p hp
        · simp only [List.mem_singleton] at hp; subst hp
          apply Classical.byContradiction
          intro hu
          obtain ⟨o, F⟩ := D.fair pr' p.1 p.2 sf hs'
          have hlt : p.1 < listed.size := by
            rw [hsz]
            rcases Nat.lt_or_ge p.1 ops.size with g | g
            · exact g
            · have := F.at_; rw [List.getElem?_eq_none (by simpa using g)] at this; simp at this
          have : p.1 ∈ Region.ready .any ops listed := by
            rw [mem_ready]
            refine ⟨?_, o, by simpa using F.at_, fun e he hb => ?_⟩
            · unfold Lst at hu
              simp only [Array.getD_eq_getD_getElem?, Array.getElem?_eq_getElem hlt, Option.getD_some] at hu ⊢
              simpa using hu
            · obtain ⟨q, hq, hqe⟩ := F.deps e.on (by simp only [depsOf, List.mem_map, List.mem_filter]; exact ⟨e, ⟨by simpa using he, hb⟩, rfl⟩)
              have := ihp q hq
              rwa [hqe] at this
          rw [h] at this; simp at this
  exact fun p hp => key _ l0 [] rfl (by simp) p hp
include D in
theorem draw_sound (hcall : CallOk P call) (hok : ∀ o ∈ ops.toList, operOk P N o = true) {Q : Exit → Act → World → Prop} (hq : ∀ a w, Nx P w0 ρ0 n0 N K a w → Q .normal a w) :
    ∀ (fuel : Nat) (listed : Array Bool) (a : Act) (w : World), listed.size = ops.size → Ready P w0 ρ0 n0 N call ops l0 T0 K listed a w → l0.countP (fun p => !listed.getD p.1 false) ≤ fuel → wpAny P .any ops Q fuel listed a w := by
  intro fuel
  induction fuel with
  | zero =>
    intro listed a w hsz h hc
    have hall : ∀ p ∈ l0, Lst listed p.1 := by
      intro p hp
      have : l0.countP (fun p => !listed.getD p.1 false) = 0 := by omega
      rw [List.countP_eq_zero] at this
      have := this p hp
      simpa [Lst] using this
    refine ⟨?_, hq _ _ (h.done hall)⟩
    apply List.eq_nil_iff_forall_not_mem.2
    intro i hi
    rw [mem_ready] at hi
    obtain ⟨hu, o, ho, _⟩ := hi
    have hlt : i < ops.size := by
      rcases Nat.lt_or_ge i ops.size with g | g
      · exact g
      · rw [Array.getElem?_eq_none g] at ho; simp at ho
    obtain ⟨p, hp, rfl⟩ := D.all i (by simpa using hlt)
    have := hall p hp
    unfold Lst at this
    simp only [Array.getD_eq_getD_getElem?] at this hu
    cases hq : listed[p.1]? <;> simp_all
  | succ fuel ih =>
    intro listed a w hsz h hc
    refine ⟨fun hr => hq _ _ (h.done (not_ready D hsz hr)), fun i hi => ?_⟩
    rw [mem_ready] at hi
    obtain ⟨hu, o, ho, hdeps⟩ := hi
    have hd := deps_of_ready hdeps
    have hlt : i < listed.size := by
      rw [hsz]
      rcases Nat.lt_or_ge i ops.size with g | g
      · exact g
      · rw [Array.getElem?_eq_none g] at ho; simp at ho
    have hiu : ¬ Lst listed i := by
      unfold Lst
      simp only [Array.getD_eq_getD_getElem?, Array.getElem?_eq_getElem hlt, Option.getD_some] at hu ⊢
      simp [hu]
    obtain ⟨q, hq0, hqi⟩ := D.all i (by rw [hsz] at hlt; simpa using hlt)
    have next : ∀ a' w', Ready P w0 ρ0 n0 N call ops l0 T0 K (listed.setIfInBounds i true) a' w' → wpAny P .any ops Q fuel (listed.setIfInBounds i true) a' w' := by
      intro a' w' h'
      refine ih _ a' w' (by simp [hsz]) h' ?_
      have : l0.countP (fun p => !(listed.setIfInBounds i true).getD p.1 false) < l0.countP (fun p => !listed.getD p.1 false) := by
        refine countP_lt _ _ l0 (fun x hx => ?_) ⟨q, hq0, ?_, ?_⟩
        · cases hg : listed.getD x.1 false with
          | false => rfl
          | true => rw [getD_set_true hg] at hx; exact Bool.noConfusion hx
        · unfold Lst at hiu; rw [hqi]; simpa using hiu
        · rw [hqi]; have := Lst.self (listed := listed) hlt; unfold Lst at this; rw [this]; rfl
      omega
    have hoL : ops.toList[i]? = some o := by simpa using ho
    have hoo := hok o (List.mem_of_getElem? hoL)
    obtain ⟨hok1, hty, hdN⟩ := operOk_inv hoo
    obtain ⟨pre, l, ps, T, H, ρ, TS, bl, I, hk, hl⟩ := h
    have hqm : q ∈ pre ++ l := by rw [← I.split]; exact hq0
    obtain ⟨qi, B⟩ := q
    simp only at hqi
    subst hqi
    rcases List.mem_append.1 hqm with hqp | hql
    ·
      obtain ⟨pr, sf, hs⟩ := List.append_of_mem hqp
      have hs0 : l0 = pr ++ (qi, B) :: (sf ++ l) := by rw [I.split, hs]; simp
      obtain ⟨o', F⟩ := D.fair pr qi B _ hs0
      have := F.at_; rw [hoL] at this; simp only [Option.some.injEq] at this; subst this
      obtain ⟨Ti, v, h1, h2, h3, h4⟩ := I.pend pr qi B sf o hs hiu hoL
      refine pend_sound I.st.r I.st.t ho hoo (I.reads_pend D hs F hiu hd h2 h3) h4 ?_
      intro ρ' v' w' r1 r2 r3 r4 r5
      exact next _ _ ⟨pre, l, ps, T, H, ρ', _, bl, I.late D hs F hiu hd hdN h1 r1 r2 r3 r4 r5, hk, hl⟩
    · rcases hl with rfl | ⟨j, B', l', o', rfl, hj, hM⟩
      · simp at hql
      · obtain ⟨o2, F⟩ := D.fair pre j B' l' I.split
        have e2 := F.at_; rw [hj] at e2; simp only [Option.some.injEq] at e2; subst e2
        rcases List.mem_cons.1 hql with e | hql'
        ·
          simp only [Prod.mk.injEq] at e
          obtain ⟨rfl, rfl⟩ := e
          rw [hoL] at hj; simp only [Option.some.injEq] at hj; subst hj
          have hrd := I.reads_head D rfl F hd
          have hk' := hk
          unfold evDraw at hk'
          rw [hoL] at hk'
          have hcM : cls P o.op = .M := by
            unfold isM at hM
            cases hc : cls P o.op with
            | M => rfl
            | P => rw [hc] at hM; exact Bool.noConfusion hM
            | R => rw [hc] at hM; exact Bool.noConfusion hM
            | A => rw [hc] at hM; exact Bool.noConfusion hM
          simp only [hcM] at hk'
          have hk2 := stepW_stepV hk'
          rw [stepV_congr hrd] at hk2
          refine stepV_sound hcall I.st.r I.st.t ho hoo hk2 ?_
          rintro v' w' ⟨ρ', v, H', r1, r2, r3, r4, r5, r6⟩
          obtain ⟨r7, r8⟩ := pendAll_inv _ r6
          have I' := I.head D rfl F hd hdN r1 r2 r3 r4 r5 r8
          obtain ⟨pre2, l2, ps2, T2, H2, bl2, I2, hk3, hl3⟩ := Inv.advance D l' _ ps _ H' bl I' r7
          exact next _ _ ⟨pre2, l2, ps2, T2, H2, ρ', _, bl2, I2, hk3, hl3⟩
        ·
          exfalso
          obtain ⟨s, r, hr'⟩ := List.append_of_mem hql'
          have hs0 : l0 = (pre ++ (j, B') :: s) ++ (qi, B) :: r := by rw [I.split, hr']; simp
          obtain ⟨o3, F3⟩ := D.fair _ qi B r hs0
          have e3 := F3.at_; rw [hoL] at e3; simp only [Option.some.injEq] at e3; subst e3
          have hB := I.ahead D hs0 F3 hd
          exact I.later (j, B') (by simp) (hB j (F3.muts (j, B') (by simp) o' hj hM))
end
section
variable {P : Program} {w0 : World} {ρ0 : Inj} {n0 N : Nat} {call : CallT} {ops : Array Oper} {l0 : List (Nat × Nat)} {T : Env} {H : AH} {ρ : Inj} {a : Act} {w : World} {K : Env → AH → Prop}
theorem evDraw_sound (hmix : P.follows .mixedOrders = true) (hcall : CallOk P call) (hok : ∀ o ∈ ops.toList, operOk P N o = true) (hd : drawOk P ops.toList l0 = true) (h : St P w0 ρ0 n0 N ρ T H a w)
    (hk : evDraw P call ops.toList l0 [] T H K) {Q : Exit → Act → World → Prop} (hq : ∀ a w, Nx P w0 ρ0 n0 N K a w → Q .normal a w) {id : Nat} : (Code.region id ops true).wp P Q a w := by
  have D := drawOk_draw hd
  refine wp_region_any hmix ?_
  have none : ∀ i, ¬ Lst (Array.replicate ops.size false) i := by
    intro i hL
    unfold Lst at hL
    simp only [Array.getD_eq_getD_getElem?, Array.getElem?_replicate] at hL
    split at hL <;> simp at hL
  have I : Inv P w0 ρ0 n0 N ops l0 [] l0 [] T T H ρ T (fun _ => Option.none) (Array.replicate ops.size false) a { w with drawn := w.drawn + 1 } :=
    { split := rfl, size := by simp, later := fun p _ => none p.1, muts := fun p hp => by simp at hp, closed := fun p _ hL => absurd hL (none p.1),
      st := { le := h.le, hole := h.hole, nn := h.nn, r := h.r.drew, t := h.t, d := h.d, s := h.s }, ts1 := fun t p hp => by simp at hp, ts2 := fun t _ => rfl, t0 := fun t _ => rfl,
      pend := fun pr i B sf o hs => by simp at hs, inj := fun i j b hb => by simp at hb, fresh := fun i b hb => by simp at hb }
  obtain ⟨pre, l, ps, T', H', bl, I', hk', hl⟩ := Inv.advance D l0 [] [] T H _ I hk
  refine draw_sound (T0 := T) D hcall hok hq ops.size _ a _ (by simp) ⟨pre, l, ps, T', H', ρ, T, bl, I', hk', hl⟩ ?_
  have := D.len
  have h2 : l0.countP (fun p => !(Array.replicate ops.size false).getD p.1 false) ≤ l0.length := List.countP_le_length
  rw [this] at h2
  simpa using h2
end
end Go.AM
end
section
namespace Go.AM
open Go.RowKit (Below)
section
variable {P : Program} {w0 : World} {ρ0 : Inj} {n0 N : Nat} {call : CallT} {kp : Keep}
def codeOk (P : Program) (N : Nat) : Code → Bool
  | .region _ ops _ => ops.toList.all (operOk P N)
  | .seq a b => codeOk P N a && codeOk P N b
  | .cond c a b => opOk P c && codeOk P N a && codeOk P N b
  | .block _ c => codeOk P N c
  | .loop c => codeOk P N c
  | .scope c => codeOk P N c
  | _ => true
def QC (P : Program) (w0 : World) (ρ0 : Inj) (n0 N : Nat) (K : AExit → Env → AH → Prop) : Exit → Act → World → Prop
  | .normal, a, w => Nx P w0 ρ0 n0 N (K .normal) a w
  | .exit id, a, w => Nx P w0 ρ0 n0 N (K (.exit id)) a w
  | .goto l, a, w => Nx P w0 ρ0 n0 N (K (.goto l)) a w
  | .ret, a, w => Nx P w0 ρ0 n0 N (K .ret) a w
  | _, _, _ => False
theorem restr_rel {ρ : Inj} {T : Env} {a : Act} (h : TRel ρ T a) (keep : List Nat) : TRel ρ (restr keep T) a := by
  intro t
  unfold restr
  induction keep with
  | nil => exact .any _
  | cons s keep ih =>
    simp only [List.map_cons, envL]
    split
    · rename_i e; rw [e]; exact h s
    · exact ih
theorem St.restr {ρ : Inj} {T : Env} {H : AH} {a : Act} {w : World} (h : St P w0 ρ0 n0 N ρ T H a w) (keep : List Nat) : St P w0 ρ0 n0 N ρ (restr keep T) H a w :=
  { h with t := restr_rel h.t keep }
theorem loop_sound {c : Code} {keep : List Nat}
    (ih : ∀ (T : Env) (H : AH) (K : AExit → Env → AH → Prop) (ρ : Inj) (a : Act) (w : World), evCode P call kp c T H K → St P w0 ρ0 n0 N ρ T H a w → c.wp P (QC P w0 ρ0 n0 N K) a w)
    {T : Env} {H : AH} {K : AExit → Env → AH → Prop} {ρ : Inj} {a : Act} {w : World} (h : LoopW keep (fun T H K => evCode P call kp c T H K) T H K) (hst : St P w0 ρ0 n0 N ρ T H a w) :
    (Code.loop c).wp P (QC P w0 ρ0 n0 N K) a w := by
  intro b k cs
  have key := h (fun T H => ∀ ρ a w, St P w0 ρ0 n0 N ρ T H a w → ∃ e a' w', QC P w0 ρ0 n0 N K e a' w' ∧ Arrives P (lone (b.at a (.code c :: .inLoop c :: k)) cs w) b k cs e a' w') (by
    intro T H hB ρ a w hst
    obtain ⟨e, a₁, w₁, hq, harr⟩ := ih T H _ ρ a w hB hst b (.inLoop c :: k) cs
    cases e with
    | normal =>
      obtain ⟨ρ', T', H', hst', hX⟩ := hq
      obtain ⟨e₂, a₂, w₂, hq₂, harr₂⟩ := hX ρ' a₁ w₁ (hst'.restr keep)
      exact ⟨e₂, a₂, w₂, hq₂, .of_steps (Steps.trans harr (.one step_inLoop)) harr₂⟩
    | exit id => exact ⟨.exit id, a₁, w₁, hq, .pass (x := .inLoop c) rfl (fun _ _ => .inl (by simp)) harr⟩
    | goto l => exact ⟨.goto l, a₁, w₁, hq, .pass (x := .inLoop c) rfl (fun _ _ => .inl (by simp)) harr⟩
    | ret => exact ⟨.ret, a₁, w₁, hq, .pass (x := .inLoop c) rfl (fun _ _ => .inl (by simp)) harr⟩
    | panic ch => exact hq.elim
    | outgrown => exact hq.elim) ρ a w (hst.restr keep)
  obtain ⟨e, a', w', hq, harr⟩ := key
  exact ⟨e, a', w', hq, .of_steps (.one step_loop) harr⟩
theorem evCode_sound (hmix : P.follows .mixedOrders = true) (hcall : CallOk P call) : ∀ (c : Code), codeOk P N c = true → ∀ (T : Env) (H : AH) (K : AExit → Env → AH → Prop) (ρ : Inj) (a : Act) (w : World), evCode P call kp c T H K →
    St P w0 ρ0 n0 N ρ T H a w → c.wp P (QC P w0 ρ0 n0 N K) a w := by
  intro c
  induction c with
  | skip => intro _ T H K ρ a w h hst; exact wp_skip ⟨ρ, T, H, hst, h⟩
  | label l => intro _ T H K ρ a w h hst; exact wp_label ⟨ρ, T, H, hst, h⟩
  | exit id => intro _ T H K ρ a w h hst; exact wp_exit ⟨ρ, T, H, hst, h⟩
  | goto l => intro _ T H K ρ a w h hst; exact wp_goto ⟨ρ, T, H, hst, h⟩
  | ret => intro _ T H K ρ a w h hst; exact wp_ret ⟨ρ, T, H, hst, h⟩
  | seq x y ihx ihy =>
    intro hok T H K ρ a w h hst
    simp only [codeOk, Bool.and_eq_true] at hok
    obtain ⟨J, hb, ha⟩ := h
    refine wp_seq (wp_mono (ihx hok.1 T H _ ρ a w ha hst) ?_)
    intro e a' w' hq
    cases e with
    | normal =>
      obtain ⟨ρ', T', H', hst', hJ⟩ := hq
      exact ihy hok.2 T' H' K ρ' a' w' (hb T' H' hJ) hst'
    | _ => exact hq
  | cond c x y ihx ihy =>
    intro hok T H K ρ a w h hst
    simp only [codeOk, Bool.and_eq_true] at hok
    have hr := ev_rel hst.r.glob hst.t hok.1.1
    rcases ifB_inv h with ⟨e, h⟩ | ⟨e, h⟩
    · rw [e] at hr
      exact wp_cond_true (hr.flat rfl) (ihx hok.1.2 T H K ρ a w h hst)
    · rw [e] at hr
      exact wp_cond_false (hr.flat rfl) (ihy hok.2 T H K ρ a w h hst)
  | block id c ih =>
    intro hok T H K ρ a w h hst
    refine wp_block (wp_mono (ih hok T H _ ρ a w h hst) ?_)
    intro e a' w' hq
    cases e with
    | exit id' =>
      simp only [Exit.inBlock]
      by_cases hid : id' = id
      · rw [if_pos hid]
        subst hid
        obtain ⟨ρ', T', H', hst', hk⟩ := hq
        simp only [blkK, beq_self_eq_true] at hk
        exact ⟨ρ', T', H', hst', hk⟩
      · rw [if_neg hid]
        obtain ⟨ρ', T', H', hst', hk⟩ := hq
        have : (id' == id) = false := by simp [hid]
        simp only [blkK, this] at hk
        exact ⟨ρ', T', H', hst', hk⟩
    | _ => exact hq
  | loop c ih =>
    intro hok T H K ρ a w h hst
    exact loop_sound (fun T H K ρ a w h hst => ih hok T H K ρ a w h hst) h hst
  | scope c ih =>
    intro hok T H K ρ a w h hst
    refine wp_scope_straight (wp_mono (ih hok T H _ ρ a w h hst) ?_)
    intro e a' w' hq
    cases e with
    | goto l => obtain ⟨_, _, _, _, hk⟩ := hq; exact hk.elim
    | _ => exact hq
  | region id ops draw =>
    intro hok T H K ρ a w h hst
    simp only [codeOk, List.all_eq_true] at hok
    cases draw with
    | false =>
      have := evOps_sound (w0 := w0) (ρ0 := ρ0) (n0 := n0) hcall hok (Q := QC P w0 ρ0 n0 N K) (K := fun T' H' => K .normal T' H') (fun a w h => h) ops.toList 0 (by simp) ρ _ H a w (hst.restr _) h
      exact wp_region (by simpa [List.range_eq_range'] using this)
    | true =>
      simp only [evCode] at h
      split at h
      · rename_i hd
        exact evDraw_sound hmix hcall hok hd (hst.restr _) h (fun a w h => h)
      · exact h.elim
  | _ => intro _ T H K ρ a w h hst; exact h.elim
theorem resV_sound {ρ : Inj} {T : Env} {H : AH} {a : Act} {w : World} (hR : R P ρ w0 H w) (hT : TRel ρ T a) {r : ResultVar} {v : Value} (h : resV P T H r = some v) :
    ∃ v', VRel ρ v v' ∧ (match r with
      | .tmp t => (pure (a.tmps.getD t undef) : Sem Value)
      | .cell x t => do loadVar t (← asAddr (a.tmps.getD x undef))).run P w = .ok v' w := by
  cases r with
  | tmp t =>
    simp only [resV, Option.some.injEq] at h
    subst h
    exact ⟨_, hT t, rfl⟩
  | cell x t =>
    simp only [resV] at h
    have conv : ∀ v', (Instr.loadAt t (a.tmps.getD x undef)).run P w = .ok v' w → (do loadVar t (← asAddr (a.tmps.getD x undef)) : Sem Value).run P w = .ok v' w := by
      intro v' hv
      revert hv
      generalize a.tmps.getD x undef = p
      intro hv
      cases p with
      | pointer o =>
        cases o with
        | some A => simpa [Instr.loadAt, Instr.sureAddr, asAddr] using hv
        | none => simp [Instr.loadAt, Instr.sureAddr] at hv
      | _ => simp [Instr.loadAt, Instr.sureAddr] at hv
    split at h
    · rename_i n h1 h2
      obtain ⟨v', hr, hv⟩ := loadN_sound hR h1 h2 h (hT x)
      exact ⟨v', hr, conv v' hv⟩
    · rename_i h1 h2
      obtain ⟨v', hr, hv⟩ := load1_sound hR h1 h (hT x)
      exact ⟨v', hr, conv v' hv⟩
    · simp at h
theorem resAll_sound {ρ : Inj} {T : Env} {H : AH} {a : Act} {w : World} (hR : R P ρ w0 H w) (hT : TRel ρ T a) (f : ResultVar → Sem Value) (hf : ∀ r, f r = match r with
      | .tmp t => (pure (a.tmps.getD t undef) : Sem Value)
      | .cell x t => do loadVar t (← asAddr (a.tmps.getD x undef))) : ∀ (rs : List ResultVar) (K : List Value → Prop), resAll P T H rs K → ∃ vs vs', K vs ∧ LRel ρ vs vs' ∧ (rs.mapM f).run P w = .ok vs' w := by
  intro rs
  induction rs with
  | nil => intro K h; exact ⟨[], [], h, LRel.nil, rfl⟩
  | cons r rs ih =>
    intro K h
    obtain ⟨v, hv, h⟩ := opt_inv h
    obtain ⟨v', hr, hrun⟩ := resV_sound hR hT hv
    obtain ⟨vs, vs', hk, hl, hrun2⟩ := ih _ h
    refine ⟨v :: vs, v' :: vs', hk, LRel.cons hr hl, ?_⟩
    rw [← hf r] at hrun
    simp [hrun, hrun2]
theorem results_sound {ρ : Inj} {T : Env} {H : AH} {a : Act} {w : World} (hR : R P ρ w0 H w) (hT : TRel ρ T a) {fn : Func} {Q : Value → AH → Prop} (h : results P fn.results.toList T H Q) :
    ∃ v v', Q v H ∧ VRel ρ v v' ∧ (Go.results fn a.tmps).run P w = .ok v' w := by
  obtain ⟨vs, vs', hq, hl, hrun⟩ := resAll_sound hR hT _ (fun r => rfl) _ _ h
  refine ⟨one vs, if h : vs'.toArray.size = 1 then vs'.toArray[0] else .tuple vs'.toArray, hq, ?_, ?_⟩
  · match vs, vs', hl with
    | [], vs', hl => rw [hl.cases_nil]; exact LRel.nil.tuple
    | [x], vs', hl =>
      obtain ⟨y, k, rfl, hxy, hk⟩ := hl.cases_cons
      rw [hk.cases_nil]; exact hxy
    | x :: y :: l, vs', hl =>
      obtain ⟨x', k, rfl, _, hk⟩ := hl.cases_cons
      obtain ⟨y', k, rfl, _, _⟩ := hk.cases_cons
      simpa [one] using hl.tuple
  · unfold Go.results
    rw [Array.mapM_eq_mapM_toList]
    simp only [map_eq_pure_bind, bind_assoc, pure_bind, Sem.run_bind]
    erw [hrun]
    rfl
def MonoC (X : CallT) : Prop := ∀ f args H (K K' : Value → AH → Prop), (∀ v H', K v H' → K' v H') → X f args H K → X f args H K'
structure Good (P : Program) (f : FuncId) (fn : Func) : Prop where
  at_ : P.funcs[f]? = some fn
  enters : fn.body.isNone = false
  name : (fn.name == "runtime.NumGoroutine") = false
  ok : codeOk P fn.ntmps (bodyOf fn) = true
def CallW (P : Program) (kps : FuncId → Keep) (ext : CallT) : CallT := fun f args H Q =>
  ∀ X : CallT, MonoC X → (∀ f args H Q, (∃ fn, Good P f fn ∧ evBody P X (kps f) fn args H Q) ∨ ext f args H Q → X f args H Q) → X f args H Q
theorem Told.ok : CallOk P (Told P) := fun _ _ _ _ h => h
theorem Post.mono {ρ : Inj} {n : Nat} {K K' : Value → AH → Prop} {v' : Value} {w' : World} (hk : ∀ v H, K v H → K' v H) (h : Post P ρ w0 n K v' w') : Post P ρ w0 n K' v' w' := by
  obtain ⟨ρ', v, H', r1, r2, r3, r4, r5, r6⟩ := h
  exact ⟨ρ', v, H', r1, r2, r3, r4, r5, hk _ _ r6⟩
theorem Told.mono : MonoC (Told P) := fun _ _ _ _ _ hk h => h.imp (fun h => ⟨h.1, fun ρ w0 w args' hR ha => (h.2 ρ w0 w args' hR ha).mono fun _ _ ⟨v', e, hp⟩ => ⟨v', e, hp.mono hk⟩⟩)
  fun h ρ w0 w args' hR ha => let ⟨v', w', h1, h2⟩ := h ρ w0 w args' hR ha; ⟨v', w', h1, h2.mono hk⟩
theorem codeOk_mono {N' : Nat} (hN : N ≤ N') : ∀ c : Code, codeOk P N c = true → codeOk P N' c = true := by
  intro c
  induction c with
  | region id ops d =>
    simp only [codeOk, List.all_eq_true]
    intro h o ho
    have := h o ho
    simp only [operOk, Bool.and_eq_true] at this ⊢
    refine ⟨this.1, ?_⟩
    have h2 := this.2
    cases hd : o.dst with
    | none => rfl
    | some d => rw [hd] at h2; exact decide_eq_true (Nat.lt_of_lt_of_le (of_decide_eq_true h2) hN)
  | seq a b iha ihb => simp only [codeOk, Bool.and_eq_true]; exact fun h => ⟨iha h.1, ihb h.2⟩
  | cond c a b iha ihb => simp only [codeOk, Bool.and_eq_true]; exact fun h => ⟨⟨h.1.1, iha h.1.2⟩, ihb h.2⟩
  | block id c ih => exact ih
  | loop c ih => exact ih
  | scope c ih => exact ih
  | _ => intro _; rfl
theorem evBody_told (hmix : P.follows .mixedOrders = true) (hcall : CallOk P call) {f : FuncId} {fn : Func} (g : Good P f fn) {args : List Value} {H : AH} {Q : Value → AH → Prop} (h : evBody P call kp fn args H Q) : Told P f args H Q := by
  refine .inl ⟨⟨fn, g.at_, g.enters, g.name⟩, fun ρ w0 w args' hR ha => ?_⟩
  unfold evBody at h
  split at h
  · rename_i c hc
    have hok : codeOk P (max fn.ntmps args'.size) c = true := codeOk_mono (Nat.le_max_left _ _) _ (by have := g.ok; unfold bodyOf at this; rw [hc] at this; exact this)
    have hT : TRel ρ (argEnv args) { tmps := args' ++ Array.replicate (fn.ntmps - args'.size) undef, defers := [] } := by
      intro t
      unfold argEnv
      have hlen : args.length = args'.size := by rw [ha.1]; simp
      by_cases hlt : t < args.length
      · have e1 : args.getD t undef = args[t] := by simp [List.getD_eq_getElem?_getD, hlt]
        have e2 : (args' ++ Array.replicate (fn.ntmps - args'.size) undef).getD t undef = args'[t]'(by omega) := by
          rw [Array.getD_eq_getD_getElem?, Array.getElem?_append_left (by omega)]
          simp [show t < args'.size by omega]
        rw [e1, e2]
        exact ha.2 t _ _ (List.getElem?_eq_getElem hlt) (by simp [show t < args'.size by omega])
      · have e1 : args.getD t undef = undef := by simp [List.getD_eq_getElem?_getD, List.getElem?_eq_none (show args.length ≤ t by omega)]
        rw [e1]; exact .any _
    have hst : St P w0 ρ H.next (max fn.ntmps args'.size) ρ (argEnv args) H { tmps := args' ++ Array.replicate (fn.ntmps - args'.size) undef, defers := [] } w :=
      { le := ρ.le_refl, hole := fun _ _ => rfl, nn := Nat.le_refl _, r := hR, t := hT, d := rfl, s := by simp only [Array.size_append, Array.size_replicate]; omega }
    refine calls_of_wp g.at_ hc (wp_mono (evCode_sound hmix hcall c hok _ _ _ ρ _ w h hst) ?_)
    have fin : ∀ a' w', Nx P w0 ρ H.next (max fn.ntmps args'.size) (fun T H => results P fn.results.toList T H Q) a' w' →
        a'.defers = [] ∧ ∃ v, (Go.results fn a'.tmps).run P w' = .ok v w' ∧ ∃ v', Ending.returned v = .returned v' ∧ Post P ρ w0 H.next Q v' w' := by
      rintro a' w' ⟨ρ', T', H', hst', hk⟩
      obtain ⟨v, v', hq, hr, hrun⟩ := results_sound hst'.r hst'.t hk
      exact ⟨hst'.d, v', hrun, v', rfl, ρ', v, H', hst'.le, hst'.hole, hst'.nn, hst'.r, hr, hq⟩
    intro e a' w' hq
    cases e with
    | normal => exact fin a' w' hq
    | ret => exact fin a' w' hq
    | exit id => obtain ⟨_, _, _, _, hk⟩ := hq; exact hk.elim
    | goto id => obtain ⟨_, _, _, _, hk⟩ := hq; exact hk.elim
    | _ => exact hq.elim
  · exact h.elim
theorem callW_told (hmix : P.follows .mixedOrders = true) {kps : FuncId → Keep} {ext : CallT} (hext : CallOk P ext) {f : FuncId} {args : List Value} {H : AH} {Q : Value → AH → Prop} (h : CallW P kps ext f args H Q) : Told P f args H Q :=
  h (Told P) Told.mono fun f args H Q h => by
    rcases h with ⟨fn, g, hb⟩ | he
    · exact evBody_told hmix Told.ok g hb
    · exact hext _ _ _ _ he
end
end Go.AM
end
section
namespace Go.AM
section
variable {P : Program} {call call' : CallT} {kp : Keep} {T : Env} {H : AH}
def LeC (call call' : CallT) : Prop := ∀ f args H (K K' : Value → AH → Prop), (∀ v H', K v H' → K' v H') → call f args H K → call' f args H K'
theorem opt_mono {α : Type} {o : Option α} {K K' : α → Prop} (h : ∀ x, K x → K' x) (hh : opt o K) : opt o K' := by
  obtain ⟨x, e, hk⟩ := opt_inv hh
  rw [e]; exact h _ hk
theorem opt2_mono {α β : Type} {o : Option (α × β)} {K K' : α → β → Prop} (h : ∀ x y, K x y → K' x y) (hh : opt2 o K) : opt2 o K' := by
  obtain ⟨x, y, e, hk⟩ := opt2_inv hh
  rw [e]; exact h _ _ hk
theorem mk_mono {o : Option (AObj × (Nat → Value))} {K K' : Value → AH → Prop} (h : ∀ x y, K x y → K' x y) (hh : AM.mk o H K) : AM.mk o H K' := by
  obtain ⟨x, y, e, hk⟩ := mk_inv hh
  rw [e]; exact h _ _ hk
theorem ifB_mono {v : Value} {A A' B B' : Prop} (ha : A → A') (hb : B → B') (h : ifB v A B) : ifB v A' B' := by
  unfold ifB at *
  split at h <;> simp_all
set_option linter.unusedVariables false
theorem evCallM_mono (hc : LeC call call') {c : Call} {K K' : Value → AH → Prop} (hk : ∀ v H', K v H' → K' v H') (h : evCallM P call T c H K) : evCallM P call' T c H K' := by
  unfold evCallM at h ⊢
  split at h
  · rename_i e; (try simp only [e]); exact hc _ _ _ _ _ hk h
  · rename_i f hf e
    have : callV call' (ev T f) (c.args.toList.map (ev T)) H K' := by
      unfold callV at h ⊢
      split at h
      · rename_i e2; (try simp only [e2]); exact hc _ _ _ _ _ hk h
      · exact h.elim
    cases f with
    | func g => exact absurd rfl (hf g)
    | _ => (try simp only [e]); exact this
  · rename_i e
    (try simp only [e])
    split at h
    · rename_i e0 e1 e2 e3
      (try simp only [e0, e1, e2, e3])
      split at h
      · rename_i z b zv g1 g2 g3
        (try simp only [g1, g2, g3])
        split at h
        · rename_i g; (try simp only [g]); exact opt2_mono hk h
        · exact h.elim
      · exact h.elim
    · rename_i e0 e1 e2 e3
      (try simp only [e0, e1, e2, e3])
      split at h
      · rename_i z b zv g1 g2 g3
        (try simp only [g1, g2, g3])
        split at h
        · rename_i g; (try simp only [g]); exact opt2_mono hk h
        · exact h.elim
      · exact h.elim
    · exact h.elim
  · rename_i e
    (try simp only [e])
    split at h
    · rename_i e0 e1 e2
      (try simp only [e0, e1, e2])
      split at h
      · rename_i g; (try simp only [g]); exact opt2_mono hk h
      · exact h.elim
    · exact h.elim
  · rename_i e
    (try simp only [e])
    split at h
    · rename_i e0 e1 e2
      (try simp only [e0, e1, e2])
      split at h
      · rename_i g; (try simp only [g]); exact opt_mono (fun x => hk _ x) h
      · exact h.elim
    · exact h.elim
  · rename_i e
    (try simp only [e])
    split at h
    · rename_i e0 e1
      (try simp only [e0, e1])
      split at h
      · rename_i g; (try simp only [g]); exact opt_mono (fun x => hk _ x) h
      · exact h.elim
    · exact h.elim
  · exact h.elim
theorem nextM_mono {it : Value} {K K' : Value → AH → Prop} (hk : ∀ v H', K v H' → K' v H') (h : nextM it H K) : nextM it H K' := by
  unfold nextM at h ⊢
  split at h
  · split at h
    · exact hk _ _ h
    · split at h
      · exact ⟨h.1, fun e he hn => hk _ _ (h.2.1 e he hn), fun ho => hk _ _ (h.2.2 ho)⟩
      · exact h.elim
    · exact h.elim
  · exact h.elim
theorem evM_mono (hc : LeC call call') {op : Op} {K K' : Value → AH → Prop} (hk : ∀ v H', K v H' → K' v H') (h : evM P call T op H K) : evM P call' T op H K' := by
  unfold evM at h ⊢
  split at h
  · split at h
    · rename_i e0 e1; (try simp only [e0, e1]); exact opt_mono (fun x => hk _ x) h
    · rename_i e0 e1; (try simp only [e0, e1]); exact opt_mono (fun x => hk _ x) h
    · exact h.elim
  · split at h
    · rename_i e0; (try simp only [e0])
      split at h
      · rename_i e1; (try simp only [e1]); exact opt_mono (fun x => hk _ x) h
      · exact h.elim
    · exact h.elim
  · split at h
    · rename_i e0; (try simp only [e0])
      split at h
      · rename_i e1; (try simp only [e1]); exact opt_mono (fun x => hk _ x) h
      · exact h.elim
    · exact h.elim
  · split at h
    · rename_i e0; (try simp only [e0])
      split at h
      · rename_i e1 e2; (try simp only [e1, e2]); exact opt2_mono hk h
      · exact h.elim
    · exact h.elim
  · exact opt_mono (fun x => hk _ x) h
  · split at h
    · rename_i e0; (try simp only [e0]); exact mk_mono hk h
    · rename_i e0; (try simp only [e0]); exact mk_mono hk h
    · exact h.elim
  · exact opt2_mono hk h
  · exact nextM_mono hk h
  · exact evCallM_mono hc hk h
  · exact h.elim
theorem runOp_mono (hc : LeC call call') {op : Op} {K K' : Value → AH → Prop} (hk : ∀ v H', K v H' → K' v H') (h : runOp P call T op H K) : runOp P call' T op H K' := by
  unfold runOp at h ⊢
  split at h
  · rename_i e; (try simp only [e]); exact hk _ _ h
  · rename_i e; (try simp only [e])
    split at h
    · rename_i e; (try simp only [e]); exact opt_mono (fun x => hk _ _) h
    · rename_i e; (try simp only [e]); exact opt_mono (fun x => hk _ _) h
    · rename_i e; (try simp only [e]); exact mk_mono hk h
    · rename_i e; (try simp only [e]); exact evM_mono hc hk h
theorem stepW_mono (hc : LeC call call') {ops : List Oper} {o : Oper} {K K' : Env → AH → Prop} (hk : ∀ v H', K v H' → K' v H') (h : stepW P call ops o T H K) : stepW P call' ops o T H K' := by
  unfold stepW at h ⊢
  split at h
  · rename_i e; (try simp only [e]); exact runOp_mono hc (fun _ _ => hk _ _) h
  · rename_i j want e
    (try simp only [e])
    unfold gd at h ⊢
    generalize isSkip (gval ops T j) = sk at h ⊢
    cases sk with
    | true => exact hk _ _ h
    | false =>
      cases want with
      | true => exact ifB_mono (runOp_mono hc (fun _ _ => hk _ _)) (hk _ _) h
      | false => exact ifB_mono (hk _ _) (runOp_mono hc (fun _ _ => hk _ _)) h
theorem evOps_mono (hc : LeC call call') {ops : List Oper} {K K' : Env → AH → Prop} (hk : ∀ v H', K v H' → K' v H') : ∀ (l : List Oper) (T : Env) (H : AH), evOps P call ops l T H K → evOps P call' ops l T H K' := by
  intro l
  induction l with
  | nil => intro T H h; exact hk _ _ h
  | cons o l ih => intro T H h; exact stepW_mono hc (fun T' H' h => ih T' H' h) h
theorem pendAll_mono {B : Nat} {R R' : Prop} (hr : R → R') : ∀ ps : List (Nat × (AH → Prop)), pendAll B H R ps → pendAll B H R' ps := by
  intro ps
  induction ps with
  | nil => exact hr
  | cons p ps ih =>
    intro h
    unfold pendAll at h ⊢
    split at h
    · rename_i e; (try simp only [e]); exact ih h
    · rename_i e; (try simp only [e]); exact ⟨h.1, ih h.2⟩
theorem evDraw_mono (hc : LeC call call') {ops : List Oper} {K K' : Env → AH → Prop} (hk : ∀ v H', K v H' → K' v H') : ∀ (l : List (Nat × Nat)) (ps : List (Nat × (AH → Prop))) (T : Env) (H : AH), evDraw P call ops l ps T H K → evDraw P call' ops l ps T H K' := by
  intro l
  induction l with
  | nil => intro ps T H h; exact hk _ _ h
  | cons p l ih =>
    obtain ⟨i, B⟩ := p
    intro ps T H h
    unfold evDraw at h ⊢
    split at h
    · exact h.elim
    · rename_i o e
      (try simp only [e])
      split at h
      · rename_i e; (try simp only [e]); exact stepW_mono hc (fun T' H' h => ih _ T' H' h) h
      · rename_i e; (try simp only [e]); exact stepW_mono hc (fun T' H' h => ih _ T' H' h) h
      · rename_i e; (try simp only [e]); exact stepW_mono hc (fun T' H' h => ih _ T' H' h) h
      · rename_i e; (try simp only [e]); exact stepW_mono hc (fun T' H' h => pendAll_mono (ih _ T' H') _ h) h
theorem evCode_mono (hc : LeC call call') : ∀ (c : Code) (T : Env) (H : AH) (K K' : AExit → Env → AH → Prop), (∀ e T H, K e T H → K' e T H) → evCode P call kp c T H K → evCode P call' kp c T H K' := by
  intro c
  induction c with
  | seq a b iha ihb =>
    rintro T H K K' hk ⟨J, hb, ha⟩
    refine ⟨J, fun T' H' hJ => ihb _ _ _ _ hk (hb T' H' hJ), iha _ _ _ _ ?_ ha⟩
    intro e T H h
    cases e <;> first | exact h | exact hk _ _ _ h
  | cond c a b iha ihb => intro T H K K' hk h; exact ifB_mono (iha _ _ _ _ hk) (ihb _ _ _ _ hk) h
  | block id c ih =>
    intro T H K K' hk h
    refine ih _ _ _ _ ?_ h
    intro e T H h
    cases e with
    | exit id' =>
      simp only [blkK] at h ⊢
      split at h
      · rename_i e; (try simp only [e]); exact hk _ _ _ h
      · rename_i e; (try simp only [e]); exact hk _ _ _ h
    | _ => exact hk _ _ _ h
  | loop c ih =>
    intro T H K K' hk h X hX
    refine h X fun T H hB => hX T H (ih _ _ _ _ ?_ hB)
    intro e T H h
    cases e <;> first | exact h | exact hk _ _ _ h
  | scope c ih =>
    intro T H K K' hk h
    refine ih _ _ _ _ ?_ h
    intro e T H h
    cases e <;> first | exact h.elim | exact hk _ _ _ h
  | region id ops d =>
    intro T H K K' hk h
    cases d with
    | false => exact evOps_mono hc (fun T' H' h => hk _ _ _ h) _ _ _ h
    | true =>
      simp only [evCode] at h ⊢
      split at h
      · rename_i e; (try simp only [e]); exact evDraw_mono hc (fun T' H' h => hk _ _ _ h) _ _ _ _ h
      · exact h.elim
  | rangeFunc f ps a b => intro T H K K' hk h; exact h.elim
  | refuse => intro T H K K' hk h; exact h.elim
  | skip => intro T H K K' hk h; exact hk _ _ _ h
  | label l => intro T H K K' hk h; exact hk _ _ _ h
  | exit l => intro T H K K' hk h; exact hk _ _ _ h
  | goto l => intro T H K K' hk h; exact hk _ _ _ h
  | ret => intro T H K K' hk h; exact hk _ _ _ h
theorem resAll_mono {rs : List ResultVar} {K K' : List Value → Prop} (hk : ∀ vs, K vs → K' vs) (h : resAll P T H rs K) : resAll P T H rs K' := by
  induction rs generalizing K K' with
  | nil => exact hk _ h
  | cons r rs ih => exact opt_mono (fun v h => ih (fun vs h => hk _ h) h) h
theorem evBody_mono (hc : LeC call call') {fn : Func} {args : List Value} {Q Q' : Value → AH → Prop} (hq : ∀ v H, Q v H → Q' v H) (h : evBody P call kp fn args H Q) : evBody P call' kp fn args H Q' := by
  unfold evBody at h ⊢
  split at h
  · rename_i c e
    (try simp only [e])
    refine evCode_mono hc c _ _ _ _ ?_ h
    intro e T H h
    cases e <;> first | exact h.elim | exact resAll_mono (fun vs h => hq _ _ h) h
  · exact h.elim
theorem CallW.mono {kps : FuncId → Keep} {ext : CallT} : MonoC (CallW P kps ext) := fun f args H K K' hk h X hX hcl => hX _ _ _ _ _ hk (h X hX hcl)
theorem CallW.fold {kps : FuncId → Keep} {ext : CallT} {f : FuncId} {fn : Func} (g : Good P f fn) {args : List Value} {Q : Value → AH → Prop} (h : evBody P (CallW P kps ext) (kps f) fn args H Q) : CallW P kps ext f args H Q :=
  fun X hX hcl => hcl _ _ _ _ (.inl ⟨fn, g, evBody_mono (fun f args H K K' hk h => hX _ _ _ _ _ hk (h X hX hcl)) (fun _ _ h => h) h⟩)
theorem CallW.ext {kps : FuncId → Keep} {ext : CallT} {f : FuncId} {args : List Value} {Q : Value → AH → Prop} (h : ext f args H Q) : CallW P kps ext f args H Q :=
  fun _ _ hcl => hcl _ _ _ _ (.inr h)
end
end Go.AM
end
section
namespace Go.AM
open Go.RowKit (Below)
section
variable {P : Program}
noncomputable def snapObj (w : World) (b : Nat) : AObj :=
  match w.heap[b]? with
  | some (.cells _ _ _) => .ro (fun i => match w.cell? ⟨b, i, none⟩ with
    | some v => open Classical in if Closed w.heap.size v then some v else none
    | none => none)
  | some (.map es cl) => open Classical in if ∀ e ∈ es.toList, Closed w.heap.size e.key ∧ Closed w.heap.size e.val then .map es.toList cl false else .dead
  | _ => .dead
noncomputable def snap (w : World) : AH := { next := w.heap.size, raw := snapObj w }
theorem snap_R {w : World} (hg : P.globals.size ≤ w.heap.size) : R P ⟨w.heap.size, fun _ => none⟩ w (snap w) w where
  size := Nat.le_refl _
  glob := hg
  nxt := Nat.le_refl _
  below := Below.refl _ _
  ro b hb := by
    have hb : b < w.heap.size := hb
    have : (snap w).get b = snapObj w b := by simp [AH.get, snap, hb]
    rw [this]
    unfold snapObj
    split
    · intro i v hv
      simp only at hv
      split at hv
      · rename_i u hu
        split at hv
        · rename_i hc
          simp only [Option.some.injEq] at hv; subst hv
          exact ⟨hu, hc⟩
        · simp at hv
      · simp at hv
    · rename_i es cl hh
      split
      · rename_i hc
        exact ⟨rfl, by rw [hh], hc⟩
      · trivial
    · trivial
  own b l h := by simp at h
  inj b b' l l' h := by simp at h
theorem closed_rel {w : World} : ∀ {l : List Value}, (∀ v ∈ l, Closed w.heap.size v) → LRel ⟨w.heap.size, fun _ => none⟩ l l
  | [], _ => LRel.nil
  | v :: l, h => LRel.cons (h v (by simp)) (closed_rel fun x hx => h x (by simp [hx]))
theorem entry {f : FuncId} (hent : Enters P f) (hmix : P.follows .mixedOrders = true) {kps : FuncId → Keep} {ext : CallT} (hext : CallOk P ext) {args : Array Value} {w : World} (hg : P.globals.size ≤ w.heap.size) (hc : ∀ v ∈ args.toList, Closed w.heap.size v)
    (h : CallW P kps ext f args.toList (snap w) (fun v _ => v = .bool true)) : Calls P f args w (fun e w' => e = .returned (.bool true) ∧ Below w.heap.size w w') := by
  have ht : ∀ ρ w0 w' args', R P ρ w0 (snap w) w' → LRel ρ args.toList args'.toList → Calls P f args' w' (fun e w'' => ∃ v', e = .returned v' ∧ Post P ρ w0 (snap w).next (fun v _ => v = .bool true) v' w'') := by
    rcases callW_told hmix hext h with h | h
    · exact h.2
    · intro ρ w0 w' args' hR ha
      obtain ⟨v', w'', h1, _⟩ := h ρ w0 w' args' hR ha
      rw [run_callFunc' hent] at h1
      cases h1
  refine (ht _ _ _ args (snap_R hg) (closed_rel hc)).mono ?_
  rintro e w' ⟨v', rfl, ρ', v, H', _, _, _, hR, hv, rfl⟩
  have hb := hR.below
  exact ⟨by rw [hv.flat rfl], hb⟩
theorem closed_flat {n : Nat} {v : Value} (h : flat v = true) : Closed n v := by
  cases v <;> first | exact .bool _ | exact .int _ _ | exact .string _ | simp [flat] at h
end
open Go.WideShapes Go.ChangeShapes in
theorem post_of_below {H : Type} {enc : TypeId × Value → H} {P : Program} {f : Func} {s : ChangeSpec} {apart fresh handsOn again : Bool} {W W' : World} {args : Array Value} {v : Value} {ds gs : List (DataW H)} {before pa pv : List MemPlace}
    (hW : DataW.Whole enc P f.params.toList s.vars apart W args.toList ds gs before)
    (hres : ∀ (b : Nat) (sp : Nat → Bool) (hd : Bool), DataW.TrodAll enc P W' b sp hd f.resultTypes.toList (v.resultList f.resultTypes.size) (s.fn H (ds ++ gs)).results [])
    (hargs : ∀ sp : Nat → Bool, (∀ p ∈ before, sp p.block = true) → DataW.TrodAll enc P W' 0 sp true f.params.toList args.toList (s.fn H (ds ++ gs)).args pa)
    (hvars : ∀ sp : Nat → Bool, (∀ p ∈ before, sp p.block = true) → DataW.TrodVars enc P W' sp s.vars (s.fn H (ds ++ gs)).vars pv)
    (hps : before = pa ++ pv) (hb : Below W.heap.size W W')
    (hok : ∀ (j : Nat) (t : TypeId) (r : Value), f.resultTypes[j]? = some t → (v.resultList f.resultTypes.size)[j]? = some r → Value.okWide P W' .any 0 t r) :
    s.post enc P f apart fresh handsOn again W args v W' := by
  have hold : ∀ p ∈ before, (fun b => decide (b < W.heap.size)) p.block = true := fun p hp => by simpa using hW.lt p hp
  have hlt : ∀ p ∈ before, p.block < W.heap.size := fun p hp => hW.lt p hp
  refine ⟨ds, gs, before, [], pa, pv, hW, hres _ _ _, hargs _ hold, hvars _ hold, World.keptBut_mono (fun p hp => ⟨hp, ?_⟩) (hb.frame _), fun _ => ?_⟩
  · rw [hps, List.mem_append] at hp
    exact Or.inr hp
  · obtain ⟨_, _, _, _, _, hz, hn⟩ := hW
    refine ⟨hok, _, _, ([] ++ pa) ++ pv, ⟨[] ++ pa, pv, trodAll_append (hargs _ (fun _ _ => rfl)) (hres _ _ _), hvars _ (fun _ _ => rfl), rfl, ?_, ?_⟩, ?_⟩
    · intro b off hp
      have hin : MemPlace.cell b off ∈ before := by rw [hps]; simpa using hp
      rw [hb.frozen (p := ⟨b, off, none⟩) (hlt _ hin)]
      exact hz b off hin
    · intro ha
      have := hn ha
      rw [hps] at this
      simpa using this
    · intro p hp _
      rw [hps]
      simpa using hp
end Go.AM
end
section
namespace Go.AM
section
variable {P : Program}
theorem run_callFunc_ext {f : FuncId} {fn : Func} {e : Array Value → Sem Value} (hfn : P.funcs[f]? = some fn) (hb : fn.body.isNone = true) (hn : (fn.name == "runtime.NumGoroutine") = false) (hx : Extern.findNext fn = none) (he : Extern.find fn = some e)
    (args : Array Value) (w : World) {v : Value} {w' : World} (h : (e args).run P w = .ok v w') : (callFunc f args).run P w = .ok (.value v) w' := by
  unfold callFunc
  simp only [Sem.run_bind, run_program, Result.andThen_ok, hfn, hb, hn, Bool.false_eq_true, if_false, if_true, run_mark, hx, he]
  simp [h]
theorem atomicAdd_told {f : FuncId} {fn : Func} (hfn : P.funcs[f]? = some fn) (hb : fn.body.isNone = true) (hn : (fn.name == "runtime.NumGoroutine") = false) (hx : Extern.findNext fn = none) (he : Extern.find fn = some (Extern.Atomic.update (Op.intArith .add) .i64 true))
    {args : List Value} {H : AH} {K : Value → AH → Prop} (h : ∃ x y, args = [x, y] ∧ atomicAdd x y H K) : Told P f args H K := by
  refine .inr fun ρ w0 w args' hR ha => ?_
  obtain ⟨x, y, rfl, h⟩ := h
  obtain ⟨x', y', rfl, hx', hy'⟩ : ∃ x' y', args' = #[x', y'] ∧ VRel ρ x x' ∧ VRel ρ y y' := by
    have hl := ha.1
    obtain ⟨l⟩ := args'
    match l, hl with
    | [a, b], _ => exact ⟨a, b, rfl, ha.2 0 _ _ rfl rfl, ha.2 1 _ _ rfl rfl⟩
  unfold atomicAdd at h
  split at h
  · rename_i b o d
    obtain rfl := hy'.flat rfl
    split at h
    · rename_i c fx hg
      split at h
      · rename_i n hc
        cases hx' with
        | ptr _ A' r =>
          have hlt : o < c.length := (List.getElem?_eq_some_iff.1 hc).1
          obtain ⟨y0, hy0, hr0⟩ := hR.cell r (i := 0) (x := .int .i64 n) rfl (by simp only [Nat.add_zero]; rw [hg]; exact hc)
          obtain rfl := hr0.flat rfl
          rw [add_zero] at hy0
          obtain ⟨w', h1, h2⟩ := hR.stored r rfl hg 0 (vs := [.int .i64 (IntKind.i64.wrap (n + d))]) (vs' := [.int .i64 (IntKind.i64.wrap (n + d))]) (by simp; omega) (LRel.cons (.int _ _) LRel.nil) (by rfl)
          simp only [Nat.add_zero] at h1
          rw [splice_one hlt] at h1
          rw [add_zero] at h2
          refine ⟨.int .i64 (IntKind.i64.wrap (n + d)), w', run_callFunc_ext hfn hb hn hx he _ _ ?_, ρ, .int .i64 (IntKind.i64.wrap (n + d)), H.put b (.cells (c.set o (.int .i64 (IntKind.i64.wrap (n + d)))) fx), ρ.le_refl, fun _ _ => rfl, Nat.le_refl _, h1, .int _ _, h⟩
          have hst : (store A' (.int .i64 (IntKind.i64.wrap (n + d))) .atomic).run P w = .ok () w' := by
            simp [storeCells, add_zero] at h2
            simp [store, Sem.run, hy0] at h2 ⊢
            exact h2
          change Sem.run P (do
            let a' ← asAddr (.pointer (some A'))
            let old ← Extern.Atomic.read (.int .i64) a'
            let new ← Op.intArith .add .i64 (← asInt old) (← asInt (.int .i64 d))
            store a' new .atomic
            pure (if true then new else old)) w = _
          simp [Extern.Atomic.read, asAddr, asInt, asIntOf, hy0, Op.intArith, hst, Result.andThen]
      · exact h.elim
    · exact h.elim
  · exact h.elim
theorem atomicLoad_told {f : FuncId} {fn : Func} (hfn : P.funcs[f]? = some fn) (hb : fn.body.isNone = true) (hn : (fn.name == "runtime.NumGoroutine") = false) (hx : Extern.findNext fn = none) (he : Extern.find fn = some (Extern.Atomic.loadT (.int .i64)))
    {args : List Value} {H : AH} {K : Value → AH → Prop} (h : ∃ x, args = [x] ∧ atomicLoad x H K) : Told P f args H K := by
  refine .inr fun ρ w0 w args' hR ha => ?_
  obtain ⟨x, rfl, h⟩ := h
  obtain ⟨x', rfl, hx'⟩ : ∃ x', args' = #[x'] ∧ VRel ρ x x' := by
    have hl := ha.1
    obtain ⟨l⟩ := args'
    match l, hl with
    | [a], _ => exact ⟨a, rfl, ha.2 0 _ _ rfl rfl⟩
  unfold atomicLoad at h
  split at h
  · rename_i b o
    split at h
    · rename_i n hc
      cases hx' with
      | ptr _ A' r =>
        obtain ⟨y0, hy0, hr0⟩ := hR.cell r (i := 0) (x := .int .i64 n) rfl (by simp only [Nat.add_zero]; exact hc)
        obtain rfl := hr0.flat rfl
        rw [add_zero] at hy0
        refine ⟨.int .i64 n, w, run_callFunc_ext hfn hb hn hx he _ _ ?_, ρ, _, _, ρ.le_refl, fun _ _ => rfl, Nat.le_refl _, hR, .int _ _, h⟩
        change Sem.run P (do Extern.Atomic.read (.int .i64) (← asAddr (.pointer (some A')))) w = _
        simp [Extern.Atomic.read, asAddr, hy0]
    · exact h.elim
  · exact h.elim
theorem told_two {f : FuncId} {fn : Func} {e : Array Value → Sem Value} (hfn : P.funcs[f]? = some fn) (hb : fn.body.isNone = true) (hn : (fn.name == "runtime.NumGoroutine") = false) (hx : Extern.findNext fn = none) (he : Extern.find fn = some e)
    {x y v : Value} (fx : flat x = true) (fy : flat y = true) (fv : ∀ ρ : Inj, VRel ρ v v) (hr : ∀ w, (e #[x, y]).run P w = .ok v w) {H : AH} {K : Value → AH → Prop} (h : K v H) : Told P f [x, y] H K := by
  refine .inr fun ρ w0 w args' hR ha => ?_
  obtain ⟨x', y', rfl, hx', hy'⟩ : ∃ x' y', args' = #[x', y'] ∧ VRel ρ x x' ∧ VRel ρ y y' := by
    have hl := ha.1
    obtain ⟨l⟩ := args'
    match l, hl with
    | [a, b], _ => exact ⟨a, b, rfl, ha.2 0 _ _ rfl rfl, ha.2 1 _ _ rfl rfl⟩
  obtain rfl := hx'.flat fx
  obtain rfl := hy'.flat fy
  exact ⟨v, w, run_callFunc_ext hfn hb hn hx he _ _ (hr w), ρ, v, H, ρ.le_refl, fun _ _ => rfl, Nat.le_refl _, hR, fv _, h⟩
theorem byteCount_told {f : FuncId} {fn : Func} (hfn : P.funcs[f]? = some fn) (hb : fn.body.isNone = true) (hn : (fn.name == "runtime.NumGoroutine") = false) (hx : Extern.findNext fn = none) (he : Extern.find fn = some Extern.BytealgCount.count)
    {args : List Value} {H : AH} {K : Value → AH → Prop} (h : ∃ x y, args = [x, y] ∧ byteCount x y H K) : Told P f args H K := by
  obtain ⟨x, y, rfl, h⟩ := h
  unfold byteCount at h
  split at h
  · exact told_two hfn hb hn hx he rfl rfl (fun _ => .int _ _) (fun w => Lib.run_countString _ _ w) h
  · exact h.elim
theorem byteIndex_told {f : FuncId} {fn : Func} (hfn : P.funcs[f]? = some fn) (hb : fn.body.isNone = true) (hn : (fn.name == "runtime.NumGoroutine") = false) (hx : Extern.findNext fn = none) (he : Extern.find fn = some Extern.BytealgIndexByte.indexByte)
    {args : List Value} {H : AH} {K : Value → AH → Prop} (h : ∃ x y, args = [x, y] ∧ byteIndex x y H K) : Told P f args H K := by
  obtain ⟨x, y, rfl, h⟩ := h
  unfold byteIndex at h
  split at h
  · exact told_two hfn hb hn hx he rfl rfl (fun _ => .int _ _) (fun w => Lib.run_indexByteString _ _ w) h
  · exact h.elim
end
end Go.AM
end
section
namespace Go.AM
abbrev Cont := AExit → Env → AH → Prop
abbrev Stk := Nat → List Value → AH → Prop
def Stk.shift (S : Stk) : Stk := fun n => S (n + 1)
def Stk.cons (X : List Value → AH → Prop) (S : Stk) : Stk
  | 0 => X
  | n + 1 => S n
def nth : List Value → Nat → Value
  | l, 0 => l.headD undef
  | l, n + 1 => nth l.tail n
def envP : List Nat → List Value → Env
  | [], _ => fun _ => undef
  | k :: ks, l => fun n => if n = k then l.headD undef else envP ks l.tail n
def LoopL (B : List Value → AH → (List Value → AH → Prop) → Prop) (l : List Value) (H : AH) : Prop :=
  ∀ X : List Value → AH → Prop, (∀ l H, B l H X → X l H) → X l H
abbrev Plan := List (Nat × (Stk → Env → AH → Prop))
def Plan.get : Plan → Nat → Option (Stk → Env → AH → Prop)
  | [], _ => none
  | a :: l, p => match a.1 == p with | true => some a.2 | false => Plan.get l p
section
variable (P : Program) (call : CallT) (kp : Keep) (pl : Plan)
def evD : Code → Stk → Nat → Env → AH → Cont → Prop
  | .skip, _, _, T, H, K => K .normal T H
  | .label _, _, _, T, H, K => K .normal T H
  | .exit id, _, _, T, H, K => K (.exit id) T H
  | .goto l, _, _, T, H, K => K (.goto l) T H
  | .ret, _, _, T, H, K => K .ret T H
  | .seq a b, S, p, T, H, K => evD a S (2 * p) T H (seqK (match pl.get (2 * p + 1) with | some J => J S | none => fun T' H' => evD b S (2 * p + 1) T' H' K) K)
  | .cond c a b, S, p, T, H, K => ifB (ev T c) (evD a S (2 * p) T H K) (evD b S (2 * p + 1) T H K)
  | .block id c, S, p, T, H, K => evD c S (2 * p) T H (blkK id K)
  | .loop c, S, p, T, H, _ => match pl.get p with
    | some B => LoopL (fun l H X => B (S.cons X) (envP (kp.keep (firstReg c)) l) H) ((kp.keep (firstReg c)).map T) H
    | none => False
  | .scope c, S, p, T, H, K => evD c S (2 * p) T H (scopeK K)
  | .region id ops false, _, _, T, H, K => evOps P call ops.toList ops.toList (restr (kp.keep id) T) H (fun T' H' => K .normal T' H')
  | .region id ops true, _, _, T, H, K =>
    match drawOk P ops.toList (kp.order id) with
    | true => evDraw P call ops.toList (kp.order id) [] (restr (kp.keep id) T) H (fun T' H' => K .normal T' H')
    | false => False
  | _, _, _, _, _, _ => False
def joinK (b : Code) (p : Nat) (Kf : Stk → Cont) : Stk → Cont := fun S => seqK (match pl.get (2 * p + 1) with | some J => J S | none => fun T' H' => evD P call kp pl b S (2 * p + 1) T' H' (Kf S)) (Kf S)
def loopK (ks : List Nat) (Kf : Stk → Cont) : Stk → Cont := fun S => seqK (fun T' H' => S 0 (ks.map T') H') (Kf S.shift)
def obls : Code → Nat → (Stk → Cont) → List ((Stk → Env → AH → Prop) × (Stk → Env → AH → Prop))
  | .seq a b, p, Kf => (match pl.get (2 * p + 1) with | some J => [(J, fun S T H => evD P call kp pl b S (2 * p + 1) T H (Kf S))] | none => []) ++
      (obls a (2 * p) (joinK P call kp pl b p Kf) ++ obls b (2 * p + 1) Kf)
  | .cond _ a b, p, Kf => obls a (2 * p) Kf ++ obls b (2 * p + 1) Kf
  | .block id c, p, Kf => obls c (2 * p) (fun S => blkK id (Kf S))
  | .scope c, p, Kf => obls c (2 * p) (fun S => scopeK (Kf S))
  | .loop c, p, Kf => (match pl.get p with | some B => [(B, fun S T H => evD P call kp pl c S (2 * p) T H (loopK (kp.keep (firstReg c)) Kf S))] | none => []) ++
      obls c (2 * p) (loopK (kp.keep (firstReg c)) Kf)
  | _, _, _ => []
end
section
variable {P : Program} {call : CallT} {kp : Keep} {pl : Plan}
theorem envP_map (T : Env) : ∀ ks : List Nat, envP ks (ks.map T) = restr ks T
  | [] => rfl
  | k :: ks => by
    funext n
    have := congrFun (envP_map T ks) n
    simp only [envP, List.map_cons, List.headD_cons, List.tail_cons, restr, envL] at this ⊢
    by_cases h : n = k
    · subst h; simp
    · simp only [h, if_false]; exact this
theorem evD_sound : ∀ (code : Code) (p : Nat) (Kf : Stk → Cont), (∀ pr ∈ obls P call kp pl code p Kf, pr.1 = pr.2) → ∀ S T H, evD P call kp pl code S p T H (Kf S) → evCode P call kp code T H (Kf S) := by
  intro code
  induction code with
  | seq a b iha ihb =>
    intro p Kf ho S T H h
    simp only [obls, List.mem_append] at ho
    simp only [evCode]
    refine ⟨match pl.get (2 * p + 1) with | some J => J S | none => fun T' H' => evD P call kp pl b S (2 * p + 1) T' H' (Kf S), fun T' H' hj => ?_, ?_⟩
    · apply ihb (2 * p + 1) Kf (fun pr hp => ho pr (.inr (.inr hp)))
      cases hg : pl.get (2 * p + 1) with
      | none => rw [hg] at hj; exact hj
      | some J =>
        rw [hg] at hj
        have := ho (J, fun S T H => evD P call kp pl b S (2 * p + 1) T H (Kf S)) (.inl (by rw [hg]; simp))
        have e := congrFun (congrFun (congrFun this S) T') H'
        simp only at e
        rw [← e]; exact hj
    · exact iha (2 * p) (joinK P call kp pl b p Kf) (fun pr hp => ho pr (.inr (.inl hp))) S T H h
  | cond c a b iha ihb =>
    intro p Kf ho S T H h
    simp only [obls, List.mem_append] at ho
    simp only [evCode]
    simp only [evD] at h
    exact ifB_mono (iha _ _ (fun pr hp => ho pr (.inl hp)) S T H) (ihb _ _ (fun pr hp => ho pr (.inr hp)) S T H) h
  | block id c ih =>
    intro p Kf ho S T H h
    exact ih (2 * p) (fun S => blkK id (Kf S)) ho S T H h
  | scope c ih =>
    intro p Kf ho S T H h
    exact ih (2 * p) (fun S => scopeK (Kf S)) ho S T H h
  | loop c ih =>
    intro p Kf ho S T H h
    simp only [obls, List.mem_append] at ho
    simp only [evD] at h
    simp only [evCode]
    cases hg : pl.get p with
    | none => rw [hg] at h; exact h.elim
    | some B =>
      rw [hg] at h
      simp only at h
      intro X hX
      have hB := ho (B, fun S T H => evD P call kp pl c S (2 * p) T H (loopK (kp.keep (firstReg c)) Kf S)) (.inl (by rw [hg]; simp))
      have := h (fun l H => X (envP (kp.keep (firstReg c)) l) H) (fun l H hb => by
        apply hX
        have e := congrFun (congrFun (congrFun hB (S.cons fun l H => X (envP (kp.keep (firstReg c)) l) H)) (envP (kp.keep (firstReg c)) l)) H
        have := ih (2 * p) (loopK (kp.keep (firstReg c)) Kf) (fun pr hp => ho pr (.inr hp)) _ _ _ (Eq.mp e hb)
        have k : loopK (kp.keep (firstReg c)) Kf (S.cons fun l H => X (envP (kp.keep (firstReg c)) l) H) = seqK (fun T' H' => X (restr (kp.keep (firstReg c)) T') H') (Kf S) := by
          unfold loopK
          have : (fun (T' : Env) (H' : AH) => S.cons (fun l H => X (envP (kp.keep (firstReg c)) l) H) 0 (List.map T' (kp.keep (firstReg c))) H') = fun T' H' => X (restr (kp.keep (firstReg c)) T') H' := by
            funext T' H'; simp only [Stk.cons, envP_map]
          rw [this]; rfl
        rw [k] at this
        exact this)
      rw [envP_map] at this
      exact this
  | region id ops d =>
    intro p Kf ho S T H h
    cases d <;> exact h
  | _ => intro p Kf ho S T H h; exact h
theorem all_of_maps {α : Type} : ∀ {l : List (α × α)}, l.map (·.1) = l.map (·.2) → ∀ p ∈ l, p.1 = p.2
  | [], _ => by simp
  | a :: l, h => by
    simp only [List.map_cons, List.cons.injEq] at h
    intro p hp
    rcases List.mem_cons.1 hp with rfl | hp
    · exact h.1
    · exact all_of_maps h.2 p hp
def nostk : Stk := fun _ _ _ => False
theorem evBody_of (fn : Func) (args : List Value) (H : AH) (Q : Value → AH → Prop) (code : Code) (hc : fn.body = some code) {G : Prop}
    (ho : (obls P call kp pl code 1 (fun _ => bodyK P fn.results.toList Q)).map (·.1) = (obls P call kp pl code 1 (fun _ => bodyK P fn.results.toList Q)).map (·.2))
    (hg : G = evD P call kp pl code nostk 1 (argEnv args) H (bodyK P fn.results.toList Q)) (h : G) : evBody P call kp fn args H Q := by
  unfold evBody
  rw [hc]
  exact evD_sound code 1 (fun _ => bodyK P fn.results.toList Q) (all_of_maps ho) nostk _ _ (hg ▸ h)
end
end Go.AM
end
section
namespace Go.AM
section
variable {B : List Value → AH → (List Value → AH → Prop) → Prop} {l : List Value} {H : AH}
theorem LoopL.ind (I : Nat → List Value → AH → Prop)
    (h : ∀ n l H (X : List Value → AH → Prop), (∀ m, m < n → ∀ l' H', I m l' H' → X l' H') → I n l H → B l H X)
    (n : Nat) (h0 : I n l H) : LoopL B l H := by
  intro X hX
  have key : ∀ n l H, I n l H → X l H := by
    intro n
    induction n using Nat.strongRecOn with
    | _ n ih =>
      intro l H hI
      exact hX l H (h n l H X (fun m hm l' H' hI' => ih m hm _ _ hI') hI)
  exact key n _ _ h0
theorem LoopL.count (n : Nat) (I : Nat → List Value → AH → Prop)
    (h : ∀ i l H (X : List Value → AH → Prop), i ≤ n → (i < n → ∀ l' H', I (i + 1) l' H' → X l' H') → I i l H → B l H X)
    (h0 : I 0 l H) : LoopL B l H := by
  refine LoopL.ind (fun m l H => ∃ i, i ≤ n ∧ m = n - i ∧ I i l H) ?_ n ⟨0, by omega, by omega, h0⟩
  rintro m l H X hX ⟨i, hi, rfl, hI⟩
  exact h i l H X hi (fun hlt l' H' hI' => hX (n - (i + 1)) (by omega) l' H' ⟨i + 1, by omega, rfl, hI'⟩) hI
theorem LoopL.step (h : ∀ X : List Value → AH → Prop, (∀ l H, LoopL B l H → X l H) → B l H X) : LoopL B l H := by
  intro X hX
  exact hX _ _ (h X fun l H hl => hl X hX)
end
@[congr] theorem ifB_congr {v v' : Value} {A B : Prop} (h : v = v') : ifB v A B = ifB v' A B := by rw [h]
@[congr] theorem opt_congr {α : Type} {o o' : Option α} {K : α → Prop} (h : o = o') : opt o K = opt o' K := by rw [h]
@[congr] theorem opt2_congr {α β : Type} {o o' : Option (α × β)} {K : α → β → Prop} (h : o = o') : opt2 o K = opt2 o' K := by rw [h]
@[congr] theorem mk_congr {o o' : Option (AObj × (Nat → Value))} {H : AH} {K : Value → AH → Prop} (h : o = o') : AM.mk o H K = AM.mk o' H K := by rw [h]
@[congr] theorem call_congr {E : Sy} {f f' : FuncId} {a a' : List Value} {H H' : AH} {K : Value → AH → Prop} (h1 : f = f') (h2 : a = a') (h3 : H = H') : E.call f a H K = E.call f' a' H' K := by rw [h1, h2, h3]
@[congr] theorem callV_congr {c : CallT} {f f' : Value} {a a' : List Value} {H H' : AH} {K : Value → AH → Prop} (h1 : f = f') (h2 : a = a') (h3 : H = H') : callV c f a H K = callV c f' a' H' K := by rw [h1, h2, h3]
@[congr] theorem gd_congr {v v' : Value} {b : Bool} {m : (Value → AH → Prop) → Prop} {H : AH} {K : Value → AH → Prop} (h : v = v') : gd v b m H K = gd v' b m H K := by rw [h]
def zs (n : Nat) (v : Value) : List Value := List.replicate n v
@[simp] theorem zs_length (n : Nat) (v : Value) : (zs n v).length = n := List.length_replicate
@[simp] theorem zs_drop (n i : Nat) (v : Value) : (zs n v).drop i = zs (n - i) v := List.drop_replicate
@[simp] theorem zs_zero (v : Value) : zs 0 v = [] := rfl
@[simp] theorem zs_plain (n : Nat) (v : Value) (h : plain1 v = true) : (zs n v).all plain1 = true := by
  simp only [zs, List.all_replicate, h]; split <;> rfl
abbrev ptr (b off : Nat) : Value := .pointer (some ⟨b, off, none⟩)
abbrev slc (b off n c : Nat) : Value := .slice (some ⟨b, off, none⟩) n c
abbrev vi (n : Int) : Value := .int .i64 n
abbrev vb (b : Bool) : Value := .bool b
abbrev vs (s : ByteArray) : Value := .string s
abbrev nilS : Value := .slice none 0 0
def u8 (x : BitVec 8) : Value := .int .u8 (x.toNat : Int)
def u16 (x : BitVec 16) : Value := .int .u16 (x.toNat : Int)
def u32 (x : BitVec 32) : Value := .int .u32 (x.toNat : Int)
def u64 (x : BitVec 64) : Value := .int .u64 (x.toNat : Int)
@[simp] theorem nth_0 (v : Value) (l : List Value) : nth (v :: l) 0 = v := rfl
@[simp] theorem nth_s (v : Value) (l : List Value) (n : Nat) : nth (v :: l) (n + 1) = nth l n := rfl
@[simp] theorem nth_1 (a b : Value) (l : List Value) : nth (a :: b :: l) 1 = b := rfl
@[simp] theorem nth_2 (a b c : Value) (l : List Value) : nth (a :: b :: c :: l) 2 = c := rfl
@[simp] theorem nth_3 (a b c d : Value) (l : List Value) : nth (a :: b :: c :: d :: l) 3 = d := rfl
@[simp] theorem nth_4 (a b c d e : Value) (l : List Value) : nth (a :: b :: c :: d :: e :: l) 4 = e := rfl
@[simp] theorem nth_5 (a b c d e f : Value) (l : List Value) : nth (a :: b :: c :: d :: e :: f :: l) 5 = f := rfl
@[simp] theorem nth_6 (a b c d e f g : Value) (l : List Value) : nth (a :: b :: c :: d :: e :: f :: g :: l) 6 = g := rfl
@[simp] theorem nth_7 (a b c d e f g h : Value) (l : List Value) : nth (a :: b :: c :: d :: e :: f :: g :: h :: l) 7 = h := rfl
@[simp] theorem nth_8 (a b c d e f g h i : Value) (l : List Value) : nth (a :: b :: c :: d :: e :: f :: g :: h :: i :: l) 8 = i := rfl
@[simp] theorem nth_9 (a b c d e f g h i j : Value) (l : List Value) : nth (a :: b :: c :: d :: e :: f :: g :: h :: i :: j :: l) 9 = j := rfl
@[simp] theorem nth_10 (a b c d e f g h i j k : Value) (l : List Value) : nth (a :: b :: c :: d :: e :: f :: g :: h :: i :: j :: k :: l) 10 = k := rfl
@[simp] theorem nth_11 (a b c d e f g h i j k m : Value) (l : List Value) : nth (a :: b :: c :: d :: e :: f :: g :: h :: i :: j :: k :: m :: l) 11 = m := rfl
@[simp] theorem nth_12 (a b c d e f g h i j k m n : Value) (l : List Value) : nth (a :: b :: c :: d :: e :: f :: g :: h :: i :: j :: k :: m :: n :: l) 12 = n := rfl
@[simp] theorem nth_13 (a b c d e f g h i j k m n o : Value) (l : List Value) : nth (a :: b :: c :: d :: e :: f :: g :: h :: i :: j :: k :: m :: n :: o :: l) 13 = o := rfl
@[simp] theorem nth_14 (a b c d e f g h i j k m n o p : Value) (l : List Value) : nth (a :: b :: c :: d :: e :: f :: g :: h :: i :: j :: k :: m :: n :: o :: p :: l) 14 = p := rfl
@[simp] theorem nth_15 (a b c d e f g h i j k m n o p q : Value) (l : List Value) : nth (a :: b :: c :: d :: e :: f :: g :: h :: i :: j :: k :: m :: n :: o :: p :: q :: l) 15 = q := rfl
@[simp] theorem nth_16 (a b c d e f g h i j k m n o p q r : Value) (l : List Value) : nth (a :: b :: c :: d :: e :: f :: g :: h :: i :: j :: k :: m :: n :: o :: p :: q :: r :: l) 16 = r := rfl
@[simp] theorem nth_17 (a b c d e f g h i j k m n o p q r s : Value) (l : List Value) : nth (a :: b :: c :: d :: e :: f :: g :: h :: i :: j :: k :: m :: n :: o :: p :: q :: r :: s :: l) 17 = s := rfl
@[simp] theorem nth_18 (a b c d e f g h i j k m n o p q r s t : Value) (l : List Value) : nth (a :: b :: c :: d :: e :: f :: g :: h :: i :: j :: k :: m :: n :: o :: p :: q :: r :: s :: t :: l) 18 = t := rfl
@[simp] theorem nth_19 (a b c d e f g h i j k m n o p q r s t u : Value) (l : List Value) : nth (a :: b :: c :: d :: e :: f :: g :: h :: i :: j :: k :: m :: n :: o :: p :: q :: r :: s :: t :: u :: l) 19 = u := rfl
@[simp] theorem nth_n (a : Value) (l : List Value) (n : Nat) : nth (a :: l) (OfNat.ofNat (n + 1)) = nth l n := rfl
theorem nrfl {a b : Prop} (h : a = b) : a = b := Eq.trans h rfl
@[simp] theorem opt_some {α : Type} (x : α) (K : α → Prop) : opt (some x) K = K x := nrfl rfl
@[simp] theorem opt2_some {α β : Type} (x : α) (y : β) (K : α → β → Prop) : opt2 (some (x, y)) K = K x y := nrfl rfl
@[simp] theorem mk_some (o : AObj) (m : Nat → Value) (H : AH) (K : Value → AH → Prop) : AM.mk (some (o, m)) H K = K (m H.next) (H.new o) := nrfl rfl
theorem ifB_bool (b : Bool) (A B : Prop) : ifB (.bool b) A B = if b = true then A else B := by cases b <;> rfl
theorem ifB_dec {p : Prop} [Decidable p] (A B : Prop) : ifB (.bool (decide p)) A B = if p then A else B := by by_cases h : p <;> simp [h, ifB]
theorem ifB_split {p : Prop} [Decidable p] {A B : Prop} (h1 : p → A) (h2 : ¬p → B) : ifB (.bool (decide p)) A B := by rw [ifB_dec]; split <;> simp_all
@[simp] theorem ifB_true (A B : Prop) : ifB (.bool true) A B = A := nrfl rfl
@[simp] theorem ifB_false (A B : Prop) : ifB (.bool false) A B = B := nrfl rfl
@[simp] theorem gd_tt (m : (Value → AH → Prop) → Prop) (H : AH) (K : Value → AH → Prop) : gd (.bool true) true m H K = m K := nrfl rfl
@[simp] theorem gd_tf (m : (Value → AH → Prop) → Prop) (H : AH) (K : Value → AH → Prop) : gd (.bool true) false m H K = K skipV H := nrfl rfl
@[simp] theorem gd_ft (m : (Value → AH → Prop) → Prop) (H : AH) (K : Value → AH → Prop) : gd (.bool false) true m H K = K skipV H := nrfl rfl
@[simp] theorem gd_ff (m : (Value → AH → Prop) → Prop) (H : AH) (K : Value → AH → Prop) : gd (.bool false) false m H K = m K := nrfl rfl
@[simp] theorem gdC_bool (b want : Bool) (c : Prop) : gdC (.bool b) want c = (b = want → c) := by
  cases b <;> cases want <;> simp [gdC, ifB, isSkip]
@[simp] theorem allocW_eq (cs : List Value) (H : AH) (K : Value → AH → Prop) : allocW cs H K = K (ptr H.next 0) (H.new (.cells cs none)) := nrfl rfl
@[simp] theorem mapW_eq (H : AH) (K : Value → AH → Prop) : mapW H K = K (.map (some H.next)) (H.new (.map [] 0 true)) := nrfl rfl
@[simp] theorem mkPtr_eq (b : Nat) : mkPtr b = ptr b 0 := rfl
@[simp] theorem mkSlc_eq (n c b : Nat) : mkSlc n c b = slc b 0 n c := rfl
attribute [simp] AH.next_put AH.next_new AH.get_new_self
@[simp] theorem AH.get_new_lt (H : AH) (o : AObj) {x : Nat} (h : x < H.next) : (H.new o).get x = H.get x := AH.get_new_ne H o (Nat.ne_of_lt h)
@[simp] theorem AH.get_put_s (H : AH) {b : Nat} (o : AObj) (h : b < H.next) : (H.put b o).get b = o := AH.get_put_self H o h
@[simp] theorem addOff_ptr (b o n : Nat) : addOff (ptr b o) n = some (ptr b (o + n)) := by
  simp only [addOff, ptr, Addr.add]
  by_cases h : n = 0
  · subst h; simp
  · simp [h]
@[simp] theorem load1_ptr (b o : Nat) (H : AH) : load1 (ptr b o) H = (H.get b).cell o := by simp [load1]
@[simp] theorem loadN_ptr (n b o : Nat) (H : AH) : loadN n (ptr b o) H = ((H.get b).row o n).map fun l => .agg l.toArray := by simp [loadN]
@[simp] theorem cell_cells (c : List Value) (f : Option Nat) (i : Nat) : (AObj.cells c f).cell i = c[i]? := rfl
@[simp] theorem row_cells (c : List Value) (f : Option Nat) (i n : Nat) : (AObj.cells c f).row i n = if i + n ≤ c.length then some ((c.drop i).take n) else none := rfl
@[simp] theorem boxO_agg (a : Array Value) : boxO (.agg a) = some (.cells a.toList none, mkPtr) := rfl
@[simp] theorem store1_ptr (b o : Nat) (v : Value) (H : AH) : store1 (ptr b o) v H = if plain1 v = true then (match H.get b with
      | .cells c fx => if o < c.length then some (H.put b (.cells (c.set o v) fx)) else none
      | _ => none) else none := by
  simp only [store1, Option.isSome_none, Bool.false_or]
  cases h : plain1 v <;> simp
  cases H.get b <;> rfl
@[simp] theorem storeN_ptr (n b o : Nat) (a : Array Value) (H : AH) : storeN n (ptr b o) (.agg a) H = (match H.get b with
      | .cells c fx => if a.size = n ∧ o + n ≤ c.length ∧ a.toList.all plain1 then some (H.put b (.cells (splice c o a.toList) fx)) else none
      | _ => none) := by
  simp only [storeN, Option.isSome_none, Bool.false_eq_true, if_false]
  cases H.get b <;> rfl
theorem AH.ext' {H H' : AH} (h1 : H.next = H'.next) (h2 : H.raw = H'.raw) : H = H' := by cases H; cases H'; simp_all
@[simp] theorem AH.new_put (H : AH) (o o' : AObj) : (H.new o).put H.next o' = H.new o' := by
  refine AH.ext' (Eq.refl (H.next + 1)) ?_
  funext x
  simp only [AH.put, AH.new]
  split <;> rfl
theorem AH.new_put_eq (H : AH) (o o' : AObj) {b : Nat} (h : b = H.next) : (H.new o).put b o' = H.new o' := by subst h; exact AH.new_put H o o'
theorem AH.new_put_ne (H : AH) (o o' : AObj) {b : Nat} (h : b ≠ H.next) : (H.new o).put b o' = (H.put b o').new o := by
  refine AH.ext' (Eq.refl (H.next + 1)) ?_
  funext x
  simp only [AH.put, AH.new]
  by_cases h1 : x = b
  · subst h1; simp [h]
  · simp [h1]
@[simp] theorem AH.new_put_if (H : AH) (o o' : AObj) (b : Nat) : (H.new o).put b o' = if b = H.next then H.new o' else (H.put b o').new o := by
  by_cases h : b = H.next
  · rw [if_pos h]; exact AH.new_put_eq _ _ _ h
  · rw [if_neg h]; exact AH.new_put_ne _ _ _ h
@[simp] theorem AH.put_put (H : AH) (o o' : AObj) (b : Nat) : (H.put b o).put b o' = H.put b o' := by
  refine AH.ext' (Eq.refl H.next) ?_
  funext x
  simp only [AH.put]
  split <;> rfl
theorem AH.put_get (H : AH) {b : Nat} (h : b < H.next) : H.put b (H.get b) = H := by
  refine AH.ext' (Eq.refl H.next) ?_
  funext x
  simp only [AH.put, AH.get, if_pos h]
  split
  · rename_i e; rw [e]
  · rfl
@[simp] theorem lenSlc_slc (o : Option Addr) (n c : Nat) : lenSlc (.slice o n c) = some (.int .i64 n) := rfl
@[simp] theorem lenStr_str (s : ByteArray) : lenStr (.string s) = some (.int .i64 s.size) := rfl
@[simp] theorem ixSlc_slc (sz b o n c : Nat) (i : Nat) (h : i < n) : ixSlc sz (slc b o n c) (vi i) = some (ptr b (o + i * sz)) := by
  simp only [ixSlc]
  have : (0 : Int) ≤ i ∧ (i : Int) < n := by omega
  rw [if_pos this]
  simp only [Int.toNat_natCast, Addr.add]
  by_cases hz : i * sz = 0
  · simp [hz]
  · simp [hz]
theorem ixSlc_lit (sz b o n c i : Nat) (j : Int) (hj : j = (i : Int)) (h : i < n) : ixSlc sz (slc b o n c) (vi j) = some (ptr b (o + i * sz)) := by
  subst hj; exact ixSlc_slc sz b o n c i h
theorem ixArr_ptr (len sz b o i : Nat) (j : Int) (hj : j = (i : Int)) (h : i < len) : ixArr len sz (ptr b o) (vi j) = some (ptr b (o + i * sz)) := by
  subst hj
  simp only [ixArr]
  have : (0 : Int) ≤ i ∧ (i : Int) < len := by omega
  rw [if_pos this]
  simp only [Int.toNat_natCast, Addr.add]
  by_cases hz : i * sz = 0
  · simp [hz]
  · simp [hz]
@[simp] theorem ixArr_nat (len sz b o i : Nat) (h : i < len) : ixArr len sz (ptr b o) (vi (i : Int)) = some (ptr b (o + i * sz)) := ixArr_ptr len sz b o i _ rfl h
@[simp] theorem ixArr_num (len sz b o i : Nat) (h : i < len) : ixArr len sz (ptr b o) (vi (no_index (OfNat.ofNat i))) = some (ptr b (o + i * sz)) := ixArr_ptr len sz b o i _ rfl h
@[simp] theorem ixSlc_num (sz b o n c i : Nat) (h : i < n) : ixSlc sz (slc b o n c) (vi (no_index (OfNat.ofNat i))) = some (ptr b (o + i * sz)) := ixSlc_slc sz b o n c i h
@[simp] theorem part1_agg (a : Array Value) (i : Nat) : part1 (.agg a) i = a[i]? := rfl
@[simp] theorem partN_agg (a : Array Value) (i n : Nat) : partN (.agg a) i n = some (.agg (a.extract i (i + n))) := rfl
@[simp] theorem ext_tuple (a b : Value) (l : List Value) (i : Nat) : ext (.tuple (a :: b :: l).toArray) i = (a :: b :: l)[i]? := by
  have : isSkip (.tuple (a :: b :: l).toArray) = false := by cases a <;> rfl
  simp [ext, this]
@[simp] theorem ext_bool (b : Bool) (i : Nat) : ext (.tuple #[.bool b]) i = [Value.bool b][i]? := by
  have : isSkip (.tuple #[.bool b]) = false := rfl
  simp [ext, this]
@[simp] theorem gd_skip (want : Bool) (m : (Value → AH → Prop) → Prop) (H : AH) (K : Value → AH → Prop) : gd skipV want m H K = K skipV H := nrfl rfl
@[simp] theorem gdC_skip (want : Bool) (c : Prop) : gdC skipV want c = True := rfl
@[simp] theorem un_not (b : Bool) : un .not (.bool b) = some (.bool !b) := rfl
@[simp] theorem pick_true (x y : Value) : pick (.bool true) x y = some x := rfl
@[simp] theorem pick_false (x y : Value) : pick (.bool false) x y = some y := rfl
@[simp] theorem binBool_eql (a b : Bool) : binBool .eql (.bool a) (.bool b) = some (.bool (a == b)) := rfl
@[simp] theorem binBool_neq (a b : Bool) : binBool .neq (.bool a) (.bool b) = some (.bool !(a == b)) := rfl
theorem convInt_int (k j : IntKind) (n : Int) : convInt k (.int j n) = some (.int k (k.wrap n)) := rfl
section ints
variable (k : IntKind) (a b : Int)
theorem binInt_add : binInt .add (.int k a) (.int k b) = some (.int k (k.wrap (a + b))) := by simp [binInt]
theorem binInt_sub : binInt .sub (.int k a) (.int k b) = some (.int k (k.wrap (a - b))) := by simp [binInt]
theorem binInt_mul : binInt .mul (.int k a) (.int k b) = some (.int k (k.wrap (a * b))) := by simp [binInt]
theorem binInt_and : binInt .and (.int k a) (.int k b) = some (.int k (k.wrap (BitVec.ofInt k.bits a &&& BitVec.ofInt k.bits b).toNat)) := by simp [binInt]
theorem binInt_or : binInt .or (.int k a) (.int k b) = some (.int k (k.wrap (BitVec.ofInt k.bits a ||| BitVec.ofInt k.bits b).toNat)) := by simp [binInt]
theorem binInt_xor : binInt .xor (.int k a) (.int k b) = some (.int k (k.wrap (BitVec.ofInt k.bits a ^^^ BitVec.ofInt k.bits b).toNat)) := by simp [binInt]
theorem binInt_andNot : binInt .andNot (.int k a) (.int k b) = some (.int k (k.wrap (BitVec.ofInt k.bits a &&& ~~~(BitVec.ofInt k.bits b)).toNat)) := by simp [binInt]
theorem binInt_quo (h : b ≠ 0) : binInt .quo (.int k a) (.int k b) = some (.int k (k.wrap (a.tdiv b))) := by simp [binInt, h]
theorem binInt_rem (h : b ≠ 0) : binInt .rem (.int k a) (.int k b) = some (.int k (a.tmod b)) := by simp [binInt, h]
theorem binInt_eql : binInt .eql (.int k a) (.int k b) = some (.bool (decide (a = b))) := by simp [binInt]; rfl
theorem binInt_neq : binInt .neq (.int k a) (.int k b) = some (.bool (decide (a ≠ b))) := by
  simp [binInt]
  by_cases h : a = b <;> simp [h]
theorem binInt_lss : binInt .lss (.int k a) (.int k b) = some (.bool (decide (a < b))) := by simp [binInt]
theorem binInt_leq : binInt .leq (.int k a) (.int k b) = some (.bool (decide (a ≤ b))) := by simp [binInt]
theorem binInt_gtr : binInt .gtr (.int k a) (.int k b) = some (.bool (decide (b < a))) := by simp [binInt]
theorem binInt_geq : binInt .geq (.int k a) (.int k b) = some (.bool (decide (b ≤ a))) := by simp [binInt]
end ints
theorem wrap_i64 {n : Int} (h : -9223372036854775808 ≤ n) (h' : n < 9223372036854775808) : IntKind.i64.wrap n = n := by
  simp only [IntKind.wrap, IntKind.bits, IntKind.signed, Bool.true_and]
  split <;> simp at * <;> omega
theorem wrap_u8 (n : Int) : IntKind.u8.wrap n = n % 256 := by simp [IntKind.wrap, IntKind.bits, IntKind.signed]
theorem wrap_u16 (n : Int) : IntKind.u16.wrap n = n % 65536 := by simp [IntKind.wrap, IntKind.bits, IntKind.signed]
theorem wrap_u32 (n : Int) : IntKind.u32.wrap n = n % 4294967296 := by simp [IntKind.wrap, IntKind.bits, IntKind.signed]
theorem wrap_u64 (n : Int) : IntKind.u64.wrap n = n % 18446744073709551616 := by simp [IntKind.wrap, IntKind.bits, IntKind.signed]
theorem i64_add {a b : Int} (h : -9223372036854775808 ≤ a + b) (h' : a + b < 9223372036854775808) : binInt .add (vi a) (vi b) = some (vi (a + b)) := by rw [binInt_add, wrap_i64 h h']
theorem i64_sub {a b : Int} (h : -9223372036854775808 ≤ a - b) (h' : a - b < 9223372036854775808) : binInt .sub (vi a) (vi b) = some (vi (a - b)) := by rw [binInt_sub, wrap_i64 h h']
theorem i64_mul {a b : Int} (h : -9223372036854775808 ≤ a * b) (h' : a * b < 9223372036854775808) : binInt .mul (vi a) (vi b) = some (vi (a * b)) := by rw [binInt_mul, wrap_i64 h h']
theorem i64_inc {i : Nat} (h : i < 9223372036854775807) : binInt .add (vi i) (vi 1) = some (vi ((i + 1 : Nat) : Int)) := by
  rw [i64_add (by omega) (by omega)]; simp
section unsigned
variable {w : Nat}
theorem wrap_bv (k : IntKind) (hk : k.signed = false) (x : BitVec k.bits) : k.wrap (x.toNat : Int) = (x.toNat : Int) := by
  simp only [IntKind.wrap, hk, Bool.false_and, Bool.false_eq_true, if_false]
  have := x.isLt
  apply Int.emod_eq_of_lt
  · omega
  · exact_mod_cast this
theorem wrap_ofInt (k : IntKind) (hk : k.signed = false) (z : Int) : k.wrap z = ((BitVec.ofInt k.bits z).toNat : Int) := by
  simp only [IntKind.wrap, hk, Bool.false_and, Bool.false_eq_true, if_false]
  have hp : ((2 ^ k.bits : Nat) : Int) ≠ 0 := by
    have := Nat.two_pow_pos k.bits
    omega
  rw [BitVec.toNat_ofInt, Int.toNat_of_nonneg (Int.emod_nonneg _ hp)]
  simp
end unsigned
end Go.AM
end
section
namespace Go.AM
theorem bv_ofInt_nat {w : Nat} (x : BitVec w) : BitVec.ofInt w (x.toNat : Int) = x := by
  rw [BitVec.ofInt_natCast, BitVec.ofNat_toNat, BitVec.setWidth_eq]
theorem bv_ofInt_lit (w n : Nat) : BitVec.ofInt w (OfNat.ofNat n : Int) = BitVec.ofNat w n := BitVec.ofInt_natCast w n
theorem bv_ofInt_sub (w : Nat) (a b : Int) : BitVec.ofInt w (a - b) = BitVec.ofInt w a - BitVec.ofInt w b := by
  apply BitVec.eq_of_toInt_eq
  simp [BitVec.toInt_ofInt, BitVec.toInt_sub]
theorem bv_inj {w : Nat} (x y : BitVec w) : ((x.toNat : Int) = (y.toNat : Int)) ↔ x = y := by
  rw [Int.natCast_inj, BitVec.toNat_inj]
theorem bv_lit {w n : Nat} (x : BitVec w) (h : n < 2 ^ w) : ((x.toNat : Int) = (OfNat.ofNat n : Int)) ↔ x = BitVec.ofNat w n := by
  rw [show (OfNat.ofNat n : Int) = ((n : Nat) : Int) from rfl, Int.natCast_inj, ← BitVec.toNat_inj, BitVec.toNat_ofNat, Nat.mod_eq_of_lt h]
theorem bv_shr {w : Nat} (x : BitVec w) (n : Nat) : ((x.toNat : Int).fdiv (2 ^ (min n w) : Int)) = ((x >>> n).toNat : Int) := by
  rw [BitVec.toNat_ushiftRight, Nat.shiftRight_eq_div_pow]
  have : (2 ^ (min n w) : Int) = ((2 ^ (min n w) : Nat) : Int) := by simp
  rw [this, Int.fdiv_eq_ediv_of_nonneg _ (Int.natCast_nonneg _), ← Int.natCast_ediv]
  congr 1
  by_cases h : n ≤ w
  · rw [Nat.min_eq_left h]
  · have h1 := x.isLt
    rw [Nat.min_eq_right (by omega), Nat.div_eq_of_lt h1, Nat.div_eq_of_lt]
    exact Nat.lt_of_lt_of_le h1 (Nat.pow_le_pow_right (by omega) (by omega))
theorem bv_shl {w : Nat} (x : BitVec w) (n : Nat) : BitVec.ofInt w ((x.toNat : Int) * (2 ^ (min n w) : Int)) = x <<< n := by
  have : (x.toNat : Int) * (2 ^ (min n w) : Int) = ((x.toNat * 2 ^ (min n w) : Nat) : Int) := by simp
  rw [this, BitVec.ofInt_natCast]
  apply BitVec.eq_of_toNat_eq
  rw [BitVec.toNat_ofNat, BitVec.toNat_shiftLeft, Nat.shiftLeft_eq]
  by_cases h : n ≤ w
  · rw [Nat.min_eq_left h]
  · rw [Nat.min_eq_right (by omega)]
    rw [Nat.mul_mod_left, Nat.mod_eq_zero_of_dvd]
    exact Nat.dvd_trans (Nat.pow_dvd_pow 2 (by omega : w ≤ n)) (Nat.dvd_mul_left _ _)
@[simp] theorem i64_eql (a b : Int) : binInt .eql (vi a) (vi b) = some (.bool (decide (a = b))) := binInt_eql ..
@[simp] theorem i64_neq (a b : Int) : binInt .neq (vi a) (vi b) = some (.bool (decide (a ≠ b))) := binInt_neq ..
@[simp] theorem i64_lss (a b : Int) : binInt .lss (vi a) (vi b) = some (.bool (decide (a < b))) := binInt_lss ..
@[simp] theorem i64_leq (a b : Int) : binInt .leq (vi a) (vi b) = some (.bool (decide (a ≤ b))) := binInt_leq ..
@[simp] theorem i64_gtr (a b : Int) : binInt .gtr (vi a) (vi b) = some (.bool (decide (b < a))) := binInt_gtr ..
@[simp] theorem i64_geq (a b : Int) : binInt .geq (vi a) (vi b) = some (.bool (decide (b ≤ a))) := binInt_geq ..
@[simp] theorem i64_max (a b : Int) : fold2 max2 [vi a, vi b] = some (vi (if b > a then b else a)) := rfl
@[simp] theorem i64_min (a b : Int) : fold2 min2 [vi a, vi b] = some (vi (if b < a then b else a)) := rfl
theorem u8_def (x : BitVec 8) : u8 x = .int .u8 (x.toNat : Int) := rfl
theorem u16_def (x : BitVec 16) : u16 x = .int .u16 (x.toNat : Int) := rfl
theorem u32_def (x : BitVec 32) : u32 x = .int .u32 (x.toNat : Int) := rfl
theorem u64_def (x : BitVec 64) : u64 x = .int .u64 (x.toNat : Int) := rfl
@[simp] theorem u8_lit (n : Nat) (h : n < 2 ^ 8) : (.int .u8 (no_index (OfNat.ofNat n)) : Value) = u8 (BitVec.ofNat 8 n) := by
  rw [u8_def, BitVec.toNat_ofNat, Nat.mod_eq_of_lt h]; rfl
@[simp] theorem u8_lit0 : (.int .u8 0 : Value) = u8 0#8 := rfl
@[simp] theorem u8_lit1 : (.int .u8 1 : Value) = u8 1#8 := rfl
@[simp] theorem defd_u8 (x : BitVec 8) : defd (u8 x) = true := rfl
@[simp] theorem plain1_u8 (x : BitVec 8) : plain1 (u8 x) = true := rfl
@[simp] theorem cells_u8 (x : BitVec 8) : (u8 x).cells = #[u8 x] := rfl
@[simp] theorem u8_inj (x y : BitVec 8) : u8 x = u8 y ↔ x = y := by
  simp only [u8_def, Value.int.injEq, true_and, bv_inj]
@[simp] theorem same_u8 (x y : BitVec 8) : sameCell 0 (u8 x) (u8 y) = some (decide (x = y)) := by
  simp only [u8_def, sameCell, if_true]; congr 1; rw [Bool.eq_iff_iff]; simp [bv_inj, BitVec.toNat_inj]
@[simp] theorem ixSlc_u8 (sz : Nat) (v : Value) (x : BitVec 8) : ixSlc sz v (u8 x) = ixSlc sz v (vi (x.toNat : Int)) := by
  simp only [u8_def]; cases v <;> first | rfl | (rename_i a; cases a <;> rfl) | (rename_i a n c; cases a <;> rfl)
@[simp] theorem ixArr_u8 (len sz : Nat) (v : Value) (x : BitVec 8) : ixArr len sz v (u8 x) = ixArr len sz v (vi (x.toNat : Int)) := by
  simp only [u8_def]; cases v <;> first | rfl | (rename_i a; cases a <;> rfl) | (rename_i a n c; cases a <;> rfl)
@[simp] theorem ixStr_u8 (v : Value) (x : BitVec 8) : ixStr v (u8 x) = ixStr v (vi (x.toNat : Int)) := by
  simp only [u8_def]; cases v <;> first | rfl | (rename_i a; cases a <;> rfl) | (rename_i a n c; cases a <;> rfl)
@[simp] theorem u8_add (x y : BitVec 8) : binInt .add (u8 x) (u8 y) = some (u8 (x + y)) := by
  simp only [u8_def]; rw [binInt_add, wrap_ofInt .u8 rfl]; simp only [IntKind.bits, BitVec.ofInt_add, bv_ofInt_nat]
@[simp] theorem u8_sub (x y : BitVec 8) : binInt .sub (u8 x) (u8 y) = some (u8 (x - y)) := by
  simp only [u8_def]; rw [binInt_sub, wrap_ofInt .u8 rfl]; simp only [IntKind.bits, bv_ofInt_sub, bv_ofInt_nat]
@[simp] theorem u8_mul (x y : BitVec 8) : binInt .mul (u8 x) (u8 y) = some (u8 (x * y)) := by
  simp only [u8_def]; rw [binInt_mul, wrap_ofInt .u8 rfl]; simp only [IntKind.bits, BitVec.ofInt_mul, bv_ofInt_nat]
@[simp] theorem u8_and (x y : BitVec 8) : binInt .and (u8 x) (u8 y) = some (u8 (x &&& y)) := by
  simp only [u8_def]; rw [binInt_and]; simp only [IntKind.bits, bv_ofInt_nat]; exact congrArg (fun z => some (Value.int .u8 z)) (wrap_bv .u8 rfl _)
@[simp] theorem u8_or (x y : BitVec 8) : binInt .or (u8 x) (u8 y) = some (u8 (x ||| y)) := by
  simp only [u8_def]; rw [binInt_or]; simp only [IntKind.bits, bv_ofInt_nat]; exact congrArg (fun z => some (Value.int .u8 z)) (wrap_bv .u8 rfl _)
@[simp] theorem u8_xor (x y : BitVec 8) : binInt .xor (u8 x) (u8 y) = some (u8 (x ^^^ y)) := by
  simp only [u8_def]; rw [binInt_xor]; simp only [IntKind.bits, bv_ofInt_nat]; exact congrArg (fun z => some (Value.int .u8 z)) (wrap_bv .u8 rfl _)
@[simp] theorem u8_andNot (x y : BitVec 8) : binInt .andNot (u8 x) (u8 y) = some (u8 (x &&& ~~~y)) := by
  simp only [u8_def]; rw [binInt_andNot]; simp only [IntKind.bits, bv_ofInt_nat]; exact congrArg (fun z => some (Value.int .u8 z)) (wrap_bv .u8 rfl _)
@[simp] theorem u8_shr (x : BitVec 8) (k : IntKind) (n : Nat) : binInt .shr (u8 x) (.int k (n : Int)) = some (u8 (x >>> n)) := by
  have h : ¬ ((n : Int) < 0) := by omega
  simp only [u8_def, binInt, h, if_false, Int.toNat_natCast, IntKind.bits, bv_shr]
@[simp] theorem u8_shl (x : BitVec 8) (k : IntKind) (n : Nat) : binInt .shl (u8 x) (.int k (n : Int)) = some (u8 (x <<< n)) := by
  have h : ¬ ((n : Int) < 0) := by omega
  simp only [u8_def, binInt, h, if_false, Int.toNat_natCast]; rw [wrap_ofInt .u8 rfl]; simp only [IntKind.bits, bv_shl]
@[simp] theorem u8_shr_lit (x : BitVec 8) (k : IntKind) (n : Nat) : binInt .shr (u8 x) (.int k (no_index (OfNat.ofNat n))) = some (u8 (x >>> n)) := u8_shr x k n
@[simp] theorem u8_shr_u8 (x : BitVec 8) (y : BitVec 8) : binInt .shr (u8 x) (u8 y) = some (u8 (x >>> y.toNat)) := u8_shr x .u8 y.toNat
@[simp] theorem u8_shr_u16 (x : BitVec 8) (y : BitVec 16) : binInt .shr (u8 x) (u16 y) = some (u8 (x >>> y.toNat)) := u8_shr x .u16 y.toNat
@[simp] theorem u8_shr_u32 (x : BitVec 8) (y : BitVec 32) : binInt .shr (u8 x) (u32 y) = some (u8 (x >>> y.toNat)) := u8_shr x .u32 y.toNat
@[simp] theorem u8_shr_u64 (x : BitVec 8) (y : BitVec 64) : binInt .shr (u8 x) (u64 y) = some (u8 (x >>> y.toNat)) := u8_shr x .u64 y.toNat
@[simp] theorem u8_shl_lit (x : BitVec 8) (k : IntKind) (n : Nat) : binInt .shl (u8 x) (.int k (no_index (OfNat.ofNat n))) = some (u8 (x <<< n)) := u8_shl x k n
@[simp] theorem u8_shl_u8 (x : BitVec 8) (y : BitVec 8) : binInt .shl (u8 x) (u8 y) = some (u8 (x <<< y.toNat)) := u8_shl x .u8 y.toNat
@[simp] theorem u8_shl_u16 (x : BitVec 8) (y : BitVec 16) : binInt .shl (u8 x) (u16 y) = some (u8 (x <<< y.toNat)) := u8_shl x .u16 y.toNat
@[simp] theorem u8_shl_u32 (x : BitVec 8) (y : BitVec 32) : binInt .shl (u8 x) (u32 y) = some (u8 (x <<< y.toNat)) := u8_shl x .u32 y.toNat
@[simp] theorem u8_shl_u64 (x : BitVec 8) (y : BitVec 64) : binInt .shl (u8 x) (u64 y) = some (u8 (x <<< y.toNat)) := u8_shl x .u64 y.toNat
@[simp] theorem u8_eql (x y : BitVec 8) : binInt .eql (u8 x) (u8 y) = some (.bool (decide (x = y))) := by
  simp only [u8_def]; rw [binInt_eql]; simp only [bv_inj]
@[simp] theorem u8_neq (x y : BitVec 8) : binInt .neq (u8 x) (u8 y) = some (.bool (decide (x ≠ y))) := by
  simp only [u8_def]; rw [binInt_neq]; simp only [bv_inj, ne_eq]
@[simp] theorem u8_lss (x y : BitVec 8) : binInt .lss (u8 x) (u8 y) = some (.bool (decide (x.toNat < y.toNat))) := by
  simp only [u8_def]; rw [binInt_lss]; simp only [Int.ofNat_lt]
@[simp] theorem u8_leq (x y : BitVec 8) : binInt .leq (u8 x) (u8 y) = some (.bool (decide (x.toNat ≤ y.toNat))) := by
  simp only [u8_def]; rw [binInt_leq]; simp only [Int.ofNat_le]
@[simp] theorem u8_gtr (x y : BitVec 8) : binInt .gtr (u8 x) (u8 y) = some (.bool (decide (y.toNat < x.toNat))) := by
  simp only [u8_def]; rw [binInt_gtr]; simp only [Int.ofNat_lt]
@[simp] theorem u8_geq (x y : BitVec 8) : binInt .geq (u8 x) (u8 y) = some (.bool (decide (y.toNat ≤ x.toNat))) := by
  simp only [u8_def]; rw [binInt_geq]; simp only [Int.ofNat_le]
@[simp] theorem u8_quo (x y : BitVec 8) (h : y ≠ 0#8) : binInt .quo (u8 x) (u8 y) = some (u8 (x / y)) := by
  simp only [u8_def]; rw [binInt_quo _ _ _ (fun k => h (BitVec.eq_of_toNat_eq (by have : y.toNat = 0 := (by exact_mod_cast k); simpa using this))), ← Int.ofNat_tdiv, ← BitVec.toNat_udiv]
  exact congrArg (fun z => some (Value.int .u8 z)) (wrap_bv .u8 rfl _)
@[simp] theorem u8_rem (x y : BitVec 8) (h : y ≠ 0#8) : binInt .rem (u8 x) (u8 y) = some (u8 (x % y)) := by
  simp only [u8_def]; rw [binInt_rem _ _ _ (fun k => h (BitVec.eq_of_toNat_eq (by have : y.toNat = 0 := (by exact_mod_cast k); simpa using this))), ← Int.ofNat_tmod, ← BitVec.toNat_umod]
@[simp] theorem u8_to_u8 (x : BitVec 8) : convInt .u8 (u8 x) = some (u8 (x.setWidth 8)) := by
  simp only [u8_def, u16_def, u32_def, u64_def]; rw [convInt_int, wrap_ofInt .u8 rfl]; simp only [IntKind.bits, BitVec.ofInt_natCast, BitVec.ofNat_toNat]
@[simp] theorem u8_to_u16 (x : BitVec 8) : convInt .u16 (u8 x) = some (u16 (x.setWidth 16)) := by
  simp only [u8_def, u16_def, u32_def, u64_def]; rw [convInt_int, wrap_ofInt .u16 rfl]; simp only [IntKind.bits, BitVec.ofInt_natCast, BitVec.ofNat_toNat]
@[simp] theorem u8_to_u32 (x : BitVec 8) : convInt .u32 (u8 x) = some (u32 (x.setWidth 32)) := by
  simp only [u8_def, u16_def, u32_def, u64_def]; rw [convInt_int, wrap_ofInt .u32 rfl]; simp only [IntKind.bits, BitVec.ofInt_natCast, BitVec.ofNat_toNat]
@[simp] theorem u8_to_u64 (x : BitVec 8) : convInt .u64 (u8 x) = some (u64 (x.setWidth 64)) := by
  simp only [u8_def, u16_def, u32_def, u64_def]; rw [convInt_int, wrap_ofInt .u64 rfl]; simp only [IntKind.bits, BitVec.ofInt_natCast, BitVec.ofNat_toNat]
@[simp] theorem u8_to_i64 (x : BitVec 8) : convInt .i64 (u8 x) = some (vi (x.toNat : Int)) := by
  have := x.isLt
  simp only [u8_def]; rw [convInt_int, wrap_i64 (by omega) (by omega)]
@[simp] theorem i64_to_u8 (n : Int) : convInt .u8 (vi n) = some (u8 (BitVec.ofInt 8 n)) := by
  simp only [u8_def]; rw [convInt_int, wrap_ofInt .u8 rfl]; simp only [IntKind.bits]
@[simp] theorem u16_lit (n : Nat) (h : n < 2 ^ 16) : (.int .u16 (no_index (OfNat.ofNat n)) : Value) = u16 (BitVec.ofNat 16 n) := by
  rw [u16_def, BitVec.toNat_ofNat, Nat.mod_eq_of_lt h]; rfl
@[simp] theorem u16_lit0 : (.int .u16 0 : Value) = u16 0#16 := rfl
@[simp] theorem u16_lit1 : (.int .u16 1 : Value) = u16 1#16 := rfl
@[simp] theorem defd_u16 (x : BitVec 16) : defd (u16 x) = true := rfl
@[simp] theorem plain1_u16 (x : BitVec 16) : plain1 (u16 x) = true := rfl
@[simp] theorem cells_u16 (x : BitVec 16) : (u16 x).cells = #[u16 x] := rfl
@[simp] theorem u16_inj (x y : BitVec 16) : u16 x = u16 y ↔ x = y := by
  simp only [u16_def, Value.int.injEq, true_and, bv_inj]
@[simp] theorem same_u16 (x y : BitVec 16) : sameCell 0 (u16 x) (u16 y) = some (decide (x = y)) := by
  simp only [u16_def, sameCell, if_true]; congr 1; rw [Bool.eq_iff_iff]; simp [bv_inj, BitVec.toNat_inj]
@[simp] theorem ixSlc_u16 (sz : Nat) (v : Value) (x : BitVec 16) : ixSlc sz v (u16 x) = ixSlc sz v (vi (x.toNat : Int)) := by
  simp only [u16_def]; cases v <;> first | rfl | (rename_i a; cases a <;> rfl) | (rename_i a n c; cases a <;> rfl)
@[simp] theorem ixArr_u16 (len sz : Nat) (v : Value) (x : BitVec 16) : ixArr len sz v (u16 x) = ixArr len sz v (vi (x.toNat : Int)) := by
  simp only [u16_def]; cases v <;> first | rfl | (rename_i a; cases a <;> rfl) | (rename_i a n c; cases a <;> rfl)
@[simp] theorem ixStr_u16 (v : Value) (x : BitVec 16) : ixStr v (u16 x) = ixStr v (vi (x.toNat : Int)) := by
  simp only [u16_def]; cases v <;> first | rfl | (rename_i a; cases a <;> rfl) | (rename_i a n c; cases a <;> rfl)
@[simp] theorem u16_add (x y : BitVec 16) : binInt .add (u16 x) (u16 y) = some (u16 (x + y)) := by
  simp only [u16_def]; rw [binInt_add, wrap_ofInt .u16 rfl]; simp only [IntKind.bits, BitVec.ofInt_add, bv_ofInt_nat]
@[simp] theorem u16_sub (x y : BitVec 16) : binInt .sub (u16 x) (u16 y) = some (u16 (x - y)) := by
  simp only [u16_def]; rw [binInt_sub, wrap_ofInt .u16 rfl]; simp only [IntKind.bits, bv_ofInt_sub, bv_ofInt_nat]
@[simp] theorem u16_mul (x y : BitVec 16) : binInt .mul (u16 x) (u16 y) = some (u16 (x * y)) := by
  simp only [u16_def]; rw [binInt_mul, wrap_ofInt .u16 rfl]; simp only [IntKind.bits, BitVec.ofInt_mul, bv_ofInt_nat]
@[simp] theorem u16_and (x y : BitVec 16) : binInt .and (u16 x) (u16 y) = some (u16 (x &&& y)) := by
  simp only [u16_def]; rw [binInt_and]; simp only [IntKind.bits, bv_ofInt_nat]; exact congrArg (fun z => some (Value.int .u16 z)) (wrap_bv .u16 rfl _)
@[simp] theorem u16_or (x y : BitVec 16) : binInt .or (u16 x) (u16 y) = some (u16 (x ||| y)) := by
  simp only [u16_def]; rw [binInt_or]; simp only [IntKind.bits, bv_ofInt_nat]; exact congrArg (fun z => some (Value.int .u16 z)) (wrap_bv .u16 rfl _)
@[simp] theorem u16_xor (x y : BitVec 16) : binInt .xor (u16 x) (u16 y) = some (u16 (x ^^^ y)) := by
  simp only [u16_def]; rw [binInt_xor]; simp only [IntKind.bits, bv_ofInt_nat]; exact congrArg (fun z => some (Value.int .u16 z)) (wrap_bv .u16 rfl _)
@[simp] theorem u16_andNot (x y : BitVec 16) : binInt .andNot (u16 x) (u16 y) = some (u16 (x &&& ~~~y)) := by
  simp only [u16_def]; rw [binInt_andNot]; simp only [IntKind.bits, bv_ofInt_nat]; exact congrArg (fun z => some (Value.int .u16 z)) (wrap_bv .u16 rfl _)
@[simp] theorem u16_shr (x : BitVec 16) (k : IntKind) (n : Nat) : binInt .shr (u16 x) (.int k (n : Int)) = some (u16 (x >>> n)) := by
  have h : ¬ ((n : Int) < 0) := by omega
  simp only [u16_def, binInt, h, if_false, Int.toNat_natCast, IntKind.bits, bv_shr]
@[simp] theorem u16_shl (x : BitVec 16) (k : IntKind) (n : Nat) : binInt .shl (u16 x) (.int k (n : Int)) = some (u16 (x <<< n)) := by
  have h : ¬ ((n : Int) < 0) := by omega
  simp only [u16_def, binInt, h, if_false, Int.toNat_natCast]; rw [wrap_ofInt .u16 rfl]; simp only [IntKind.bits, bv_shl]
@[simp] theorem u16_shr_lit (x : BitVec 16) (k : IntKind) (n : Nat) : binInt .shr (u16 x) (.int k (no_index (OfNat.ofNat n))) = some (u16 (x >>> n)) := u16_shr x k n
@[simp] theorem u16_shr_u8 (x : BitVec 16) (y : BitVec 8) : binInt .shr (u16 x) (u8 y) = some (u16 (x >>> y.toNat)) := u16_shr x .u8 y.toNat
@[simp] theorem u16_shr_u16 (x : BitVec 16) (y : BitVec 16) : binInt .shr (u16 x) (u16 y) = some (u16 (x >>> y.toNat)) := u16_shr x .u16 y.toNat
@[simp] theorem u16_shr_u32 (x : BitVec 16) (y : BitVec 32) : binInt .shr (u16 x) (u32 y) = some (u16 (x >>> y.toNat)) := u16_shr x .u32 y.toNat
@[simp] theorem u16_shr_u64 (x : BitVec 16) (y : BitVec 64) : binInt .shr (u16 x) (u64 y) = some (u16 (x >>> y.toNat)) := u16_shr x .u64 y.toNat
@[simp] theorem u16_shl_lit (x : BitVec 16) (k : IntKind) (n : Nat) : binInt .shl (u16 x) (.int k (no_index (OfNat.ofNat n))) = some (u16 (x <<< n)) := u16_shl x k n
@[simp] theorem u16_shl_u8 (x : BitVec 16) (y : BitVec 8) : binInt .shl (u16 x) (u8 y) = some (u16 (x <<< y.toNat)) := u16_shl x .u8 y.toNat
@[simp] theorem u16_shl_u16 (x : BitVec 16) (y : BitVec 16) : binInt .shl (u16 x) (u16 y) = some (u16 (x <<< y.toNat)) := u16_shl x .u16 y.toNat
@[simp] theorem u16_shl_u32 (x : BitVec 16) (y : BitVec 32) : binInt .shl (u16 x) (u32 y) = some (u16 (x <<< y.toNat)) := u16_shl x .u32 y.toNat
@[simp] theorem u16_shl_u64 (x : BitVec 16) (y : BitVec 64) : binInt .shl (u16 x) (u64 y) = some (u16 (x <<< y.toNat)) := u16_shl x .u64 y.toNat
@[simp] theorem u16_eql (x y : BitVec 16) : binInt .eql (u16 x) (u16 y) = some (.bool (decide (x = y))) := by
  simp only [u16_def]; rw [binInt_eql]; simp only [bv_inj]
@[simp] theorem u16_neq (x y : BitVec 16) : binInt .neq (u16 x) (u16 y) = some (.bool (decide (x ≠ y))) := by
  simp only [u16_def]; rw [binInt_neq]; simp only [bv_inj, ne_eq]
@[simp] theorem u16_lss (x y : BitVec 16) : binInt .lss (u16 x) (u16 y) = some (.bool (decide (x.toNat < y.toNat))) := by
  simp only [u16_def]; rw [binInt_lss]; simp only [Int.ofNat_lt]
@[simp] theorem u16_leq (x y : BitVec 16) : binInt .leq (u16 x) (u16 y) = some (.bool (decide (x.toNat ≤ y.toNat))) := by
  simp only [u16_def]; rw [binInt_leq]; simp only [Int.ofNat_le]
@[simp] theorem u16_gtr (x y : BitVec 16) : binInt .gtr (u16 x) (u16 y) = some (.bool (decide (y.toNat < x.toNat))) := by
  simp only [u16_def]; rw [binInt_gtr]; simp only [Int.ofNat_lt]
@[simp] theorem u16_geq (x y : BitVec 16) : binInt .geq (u16 x) (u16 y) = some (.bool (decide (y.toNat ≤ x.toNat))) := by
  simp only [u16_def]; rw [binInt_geq]; simp only [Int.ofNat_le]
@[simp] theorem u16_quo (x y : BitVec 16) (h : y ≠ 0#16) : binInt .quo (u16 x) (u16 y) = some (u16 (x / y)) := by
  simp only [u16_def]; rw [binInt_quo _ _ _ (fun k => h (BitVec.eq_of_toNat_eq (by have : y.toNat = 0 := (by exact_mod_cast k); simpa using this))), ← Int.ofNat_tdiv, ← BitVec.toNat_udiv]
  exact congrArg (fun z => some (Value.int .u16 z)) (wrap_bv .u16 rfl _)
@[simp] theorem u16_rem (x y : BitVec 16) (h : y ≠ 0#16) : binInt .rem (u16 x) (u16 y) = some (u16 (x % y)) := by
  simp only [u16_def]; rw [binInt_rem _ _ _ (fun k => h (BitVec.eq_of_toNat_eq (by have : y.toNat = 0 := (by exact_mod_cast k); simpa using this))), ← Int.ofNat_tmod, ← BitVec.toNat_umod]
@[simp] theorem u16_to_u8 (x : BitVec 16) : convInt .u8 (u16 x) = some (u8 (x.setWidth 8)) := by
  simp only [u8_def, u16_def, u32_def, u64_def]; rw [convInt_int, wrap_ofInt .u8 rfl]; simp only [IntKind.bits, BitVec.ofInt_natCast, BitVec.ofNat_toNat]
@[simp] theorem u16_to_u16 (x : BitVec 16) : convInt .u16 (u16 x) = some (u16 (x.setWidth 16)) := by
  simp only [u8_def, u16_def, u32_def, u64_def]; rw [convInt_int, wrap_ofInt .u16 rfl]; simp only [IntKind.bits, BitVec.ofInt_natCast, BitVec.ofNat_toNat]
@[simp] theorem u16_to_u32 (x : BitVec 16) : convInt .u32 (u16 x) = some (u32 (x.setWidth 32)) := by
  simp only [u8_def, u16_def, u32_def, u64_def]; rw [convInt_int, wrap_ofInt .u32 rfl]; simp only [IntKind.bits, BitVec.ofInt_natCast, BitVec.ofNat_toNat]
@[simp] theorem u16_to_u64 (x : BitVec 16) : convInt .u64 (u16 x) = some (u64 (x.setWidth 64)) := by
  simp only [u8_def, u16_def, u32_def, u64_def]; rw [convInt_int, wrap_ofInt .u64 rfl]; simp only [IntKind.bits, BitVec.ofInt_natCast, BitVec.ofNat_toNat]
@[simp] theorem u16_to_i64 (x : BitVec 16) : convInt .i64 (u16 x) = some (vi (x.toNat : Int)) := by
  have := x.isLt
  simp only [u16_def]; rw [convInt_int, wrap_i64 (by omega) (by omega)]
@[simp] theorem i64_to_u16 (n : Int) : convInt .u16 (vi n) = some (u16 (BitVec.ofInt 16 n)) := by
  simp only [u16_def]; rw [convInt_int, wrap_ofInt .u16 rfl]; simp only [IntKind.bits]
@[simp] theorem u32_lit (n : Nat) (h : n < 2 ^ 32) : (.int .u32 (no_index (OfNat.ofNat n)) : Value) = u32 (BitVec.ofNat 32 n) := by
  rw [u32_def, BitVec.toNat_ofNat, Nat.mod_eq_of_lt h]; rfl
@[simp] theorem u32_lit0 : (.int .u32 0 : Value) = u32 0#32 := rfl
@[simp] theorem u32_lit1 : (.int .u32 1 : Value) = u32 1#32 := rfl
@[simp] theorem defd_u32 (x : BitVec 32) : defd (u32 x) = true := rfl
@[simp] theorem plain1_u32 (x : BitVec 32) : plain1 (u32 x) = true := rfl
@[simp] theorem cells_u32 (x : BitVec 32) : (u32 x).cells = #[u32 x] := rfl
@[simp] theorem u32_inj (x y : BitVec 32) : u32 x = u32 y ↔ x = y := by
  simp only [u32_def, Value.int.injEq, true_and, bv_inj]
@[simp] theorem same_u32 (x y : BitVec 32) : sameCell 0 (u32 x) (u32 y) = some (decide (x = y)) := by
  simp only [u32_def, sameCell, if_true]; congr 1; rw [Bool.eq_iff_iff]; simp [bv_inj, BitVec.toNat_inj]
@[simp] theorem ixSlc_u32 (sz : Nat) (v : Value) (x : BitVec 32) : ixSlc sz v (u32 x) = ixSlc sz v (vi (x.toNat : Int)) := by
  simp only [u32_def]; cases v <;> first | rfl | (rename_i a; cases a <;> rfl) | (rename_i a n c; cases a <;> rfl)
@[simp] theorem ixArr_u32 (len sz : Nat) (v : Value) (x : BitVec 32) : ixArr len sz v (u32 x) = ixArr len sz v (vi (x.toNat : Int)) := by
  simp only [u32_def]; cases v <;> first | rfl | (rename_i a; cases a <;> rfl) | (rename_i a n c; cases a <;> rfl)
@[simp] theorem ixStr_u32 (v : Value) (x : BitVec 32) : ixStr v (u32 x) = ixStr v (vi (x.toNat : Int)) := by
  simp only [u32_def]; cases v <;> first | rfl | (rename_i a; cases a <;> rfl) | (rename_i a n c; cases a <;> rfl)
@[simp] theorem u32_add (x y : BitVec 32) : binInt .add (u32 x) (u32 y) = some (u32 (x + y)) := by
  simp only [u32_def]; rw [binInt_add, wrap_ofInt .u32 rfl]; simp only [IntKind.bits, BitVec.ofInt_add, bv_ofInt_nat]
@[simp] theorem u32_sub (x y : BitVec 32) : binInt .sub (u32 x) (u32 y) = some (u32 (x - y)) := by
  simp only [u32_def]; rw [binInt_sub, wrap_ofInt .u32 rfl]; simp only [IntKind.bits, bv_ofInt_sub, bv_ofInt_nat]
@[simp] theorem u32_mul (x y : BitVec 32) : binInt .mul (u32 x) (u32 y) = some (u32 (x * y)) := by
  simp only [u32_def]; rw [binInt_mul, wrap_ofInt .u32 rfl]; simp only [IntKind.bits, BitVec.ofInt_mul, bv_ofInt_nat]
@[simp] theorem u32_and (x y : BitVec 32) : binInt .and (u32 x) (u32 y) = some (u32 (x &&& y)) := by
  simp only [u32_def]; rw [binInt_and]; simp only [IntKind.bits, bv_ofInt_nat]; exact congrArg (fun z => some (Value.int .u32 z)) (wrap_bv .u32 rfl _)
@[simp] theorem u32_or (x y : BitVec 32) : binInt .or (u32 x) (u32 y) = some (u32 (x ||| y)) := by
  simp only [u32_def]; rw [binInt_or]; simp only [IntKind.bits, bv_ofInt_nat]; exact congrArg (fun z => some (Value.int .u32 z)) (wrap_bv .u32 rfl _)
@[simp] theorem u32_xor (x y : BitVec 32) : binInt .xor (u32 x) (u32 y) = some (u32 (x ^^^ y)) := by
  simp only [u32_def]; rw [binInt_xor]; simp only [IntKind.bits, bv_ofInt_nat]; exact congrArg (fun z => some (Value.int .u32 z)) (wrap_bv .u32 rfl _)
@[simp] theorem u32_andNot (x y : BitVec 32) : binInt .andNot (u32 x) (u32 y) = some (u32 (x &&& ~~~y)) := by
  simp only [u32_def]; rw [binInt_andNot]; simp only [IntKind.bits, bv_ofInt_nat]; exact congrArg (fun z => some (Value.int .u32 z)) (wrap_bv .u32 rfl _)
@[simp] theorem u32_shr (x : BitVec 32) (k : IntKind) (n : Nat) : binInt .shr (u32 x) (.int k (n : Int)) = some (u32 (x >>> n)) := by
  have h : ¬ ((n : Int) < 0) := by omega
  simp only [u32_def, binInt, h, if_false, Int.toNat_natCast, IntKind.bits, bv_shr]
@[simp] theorem u32_shl (x : BitVec 32) (k : IntKind) (n : Nat) : binInt .shl (u32 x) (.int k (n : Int)) = some (u32 (x <<< n)) := by
  have h : ¬ ((n : Int) < 0) := by omega
  simp only [u32_def, binInt, h, if_false, Int.toNat_natCast]; rw [wrap_ofInt .u32 rfl]; simp only [IntKind.bits, bv_shl]
@[simp] theorem u32_shr_lit (x : BitVec 32) (k : IntKind) (n : Nat) : binInt .shr (u32 x) (.int k (no_index (OfNat.ofNat n))) = some (u32 (x >>> n)) := u32_shr x k n
@[simp] theorem u32_shr_u8 (x : BitVec 32) (y : BitVec 8) : binInt .shr (u32 x) (u8 y) = some (u32 (x >>> y.toNat)) := u32_shr x .u8 y.toNat
@[simp] theorem u32_shr_u16 (x : BitVec 32) (y : BitVec 16) : binInt .shr (u32 x) (u16 y) = some (u32 (x >>> y.toNat)) := u32_shr x .u16 y.toNat
@[simp] theorem u32_shr_u32 (x : BitVec 32) (y : BitVec 32) : binInt .shr (u32 x) (u32 y) = some (u32 (x >>> y.toNat)) := u32_shr x .u32 y.toNat
@[simp] theorem u32_shr_u64 (x : BitVec 32) (y : BitVec 64) : binInt .shr (u32 x) (u64 y) = some (u32 (x >>> y.toNat)) := u32_shr x .u64 y.toNat
@[simp] theorem u32_shl_lit (x : BitVec 32) (k : IntKind) (n : Nat) : binInt .shl (u32 x) (.int k (no_index (OfNat.ofNat n))) = some (u32 (x <<< n)) := u32_shl x k n
@[simp] theorem u32_shl_u8 (x : BitVec 32) (y : BitVec 8) : binInt .shl (u32 x) (u8 y) = some (u32 (x <<< y.toNat)) := u32_shl x .u8 y.toNat
@[simp] theorem u32_shl_u16 (x : BitVec 32) (y : BitVec 16) : binInt .shl (u32 x) (u16 y) = some (u32 (x <<< y.toNat)) := u32_shl x .u16 y.toNat
@[simp] theorem u32_shl_u32 (x : BitVec 32) (y : BitVec 32) : binInt .shl (u32 x) (u32 y) = some (u32 (x <<< y.toNat)) := u32_shl x .u32 y.toNat
@[simp] theorem u32_shl_u64 (x : BitVec 32) (y : BitVec 64) : binInt .shl (u32 x) (u64 y) = some (u32 (x <<< y.toNat)) := u32_shl x .u64 y.toNat
@[simp] theorem u32_eql (x y : BitVec 32) : binInt .eql (u32 x) (u32 y) = some (.bool (decide (x = y))) := by
  simp only [u32_def]; rw [binInt_eql]; simp only [bv_inj]
@[simp] theorem u32_neq (x y : BitVec 32) : binInt .neq (u32 x) (u32 y) = some (.bool (decide (x ≠ y))) := by
  simp only [u32_def]; rw [binInt_neq]; simp only [bv_inj, ne_eq]
@[simp] theorem u32_lss (x y : BitVec 32) : binInt .lss (u32 x) (u32 y) = some (.bool (decide (x.toNat < y.toNat))) := by
  simp only [u32_def]; rw [binInt_lss]; simp only [Int.ofNat_lt]
@[simp] theorem u32_leq (x y : BitVec 32) : binInt .leq (u32 x) (u32 y) = some (.bool (decide (x.toNat ≤ y.toNat))) := by
  simp only [u32_def]; rw [binInt_leq]; simp only [Int.ofNat_le]
@[simp] theorem u32_gtr (x y : BitVec 32) : binInt .gtr (u32 x) (u32 y) = some (.bool (decide (y.toNat < x.toNat))) := by
  simp only [u32_def]; rw [binInt_gtr]; simp only [Int.ofNat_lt]
@[simp] theorem u32_geq (x y : BitVec 32) : binInt .geq (u32 x) (u32 y) = some (.bool (decide (y.toNat ≤ x.toNat))) := by
  simp only [u32_def]; rw [binInt_geq]; simp only [Int.ofNat_le]
@[simp] theorem u32_quo (x y : BitVec 32) (h : y ≠ 0#32) : binInt .quo (u32 x) (u32 y) = some (u32 (x / y)) := by
  simp only [u32_def]; rw [binInt_quo _ _ _ (fun k => h (BitVec.eq_of_toNat_eq (by have : y.toNat = 0 := (by exact_mod_cast k); simpa using this))), ← Int.ofNat_tdiv, ← BitVec.toNat_udiv]
  exact congrArg (fun z => some (Value.int .u32 z)) (wrap_bv .u32 rfl _)
@[simp] theorem u32_rem (x y : BitVec 32) (h : y ≠ 0#32) : binInt .rem (u32 x) (u32 y) = some (u32 (x % y)) := by
  simp only [u32_def]; rw [binInt_rem _ _ _ (fun k => h (BitVec.eq_of_toNat_eq (by have : y.toNat = 0 := (by exact_mod_cast k); simpa using this))), ← Int.ofNat_tmod, ← BitVec.toNat_umod]
@[simp] theorem u32_to_u8 (x : BitVec 32) : convInt .u8 (u32 x) = some (u8 (x.setWidth 8)) := by
  simp only [u8_def, u16_def, u32_def, u64_def]; rw [convInt_int, wrap_ofInt .u8 rfl]; simp only [IntKind.bits, BitVec.ofInt_natCast, BitVec.ofNat_toNat]
@[simp] theorem u32_to_u16 (x : BitVec 32) : convInt .u16 (u32 x) = some (u16 (x.setWidth 16)) := by
  simp only [u8_def, u16_def, u32_def, u64_def]; rw [convInt_int, wrap_ofInt .u16 rfl]; simp only [IntKind.bits, BitVec.ofInt_natCast, BitVec.ofNat_toNat]
@[simp] theorem u32_to_u32 (x : BitVec 32) : convInt .u32 (u32 x) = some (u32 (x.setWidth 32)) := by
  simp only [u8_def, u16_def, u32_def, u64_def]; rw [convInt_int, wrap_ofInt .u32 rfl]; simp only [IntKind.bits, BitVec.ofInt_natCast, BitVec.ofNat_toNat]
@[simp] theorem u32_to_u64 (x : BitVec 32) : convInt .u64 (u32 x) = some (u64 (x.setWidth 64)) := by
  simp only [u8_def, u16_def, u32_def, u64_def]; rw [convInt_int, wrap_ofInt .u64 rfl]; simp only [IntKind.bits, BitVec.ofInt_natCast, BitVec.ofNat_toNat]
@[simp] theorem u32_to_i64 (x : BitVec 32) : convInt .i64 (u32 x) = some (vi (x.toNat : Int)) := by
  have := x.isLt
  simp only [u32_def]; rw [convInt_int, wrap_i64 (by omega) (by omega)]
@[simp] theorem i64_to_u32 (n : Int) : convInt .u32 (vi n) = some (u32 (BitVec.ofInt 32 n)) := by
  simp only [u32_def]; rw [convInt_int, wrap_ofInt .u32 rfl]; simp only [IntKind.bits]
@[simp] theorem u64_lit (n : Nat) (h : n < 2 ^ 64) : (.int .u64 (no_index (OfNat.ofNat n)) : Value) = u64 (BitVec.ofNat 64 n) := by
  rw [u64_def, BitVec.toNat_ofNat, Nat.mod_eq_of_lt h]; rfl
@[simp] theorem u64_lit0 : (.int .u64 0 : Value) = u64 0#64 := rfl
@[simp] theorem u64_lit1 : (.int .u64 1 : Value) = u64 1#64 := rfl
@[simp] theorem defd_u64 (x : BitVec 64) : defd (u64 x) = true := rfl
@[simp] theorem plain1_u64 (x : BitVec 64) : plain1 (u64 x) = true := rfl
@[simp] theorem cells_u64 (x : BitVec 64) : (u64 x).cells = #[u64 x] := rfl
@[simp] theorem u64_inj (x y : BitVec 64) : u64 x = u64 y ↔ x = y := by
  simp only [u64_def, Value.int.injEq, true_and, bv_inj]
@[simp] theorem same_u64 (x y : BitVec 64) : sameCell 0 (u64 x) (u64 y) = some (decide (x = y)) := by
  simp only [u64_def, sameCell, if_true]; congr 1; rw [Bool.eq_iff_iff]; simp [bv_inj, BitVec.toNat_inj]
@[simp] theorem ixSlc_u64 (sz : Nat) (v : Value) (x : BitVec 64) : ixSlc sz v (u64 x) = ixSlc sz v (vi (x.toNat : Int)) := by
  simp only [u64_def]; cases v <;> first | rfl | (rename_i a; cases a <;> rfl) | (rename_i a n c; cases a <;> rfl)
@[simp] theorem ixArr_u64 (len sz : Nat) (v : Value) (x : BitVec 64) : ixArr len sz v (u64 x) = ixArr len sz v (vi (x.toNat : Int)) := by
  simp only [u64_def]; cases v <;> first | rfl | (rename_i a; cases a <;> rfl) | (rename_i a n c; cases a <;> rfl)
@[simp] theorem ixStr_u64 (v : Value) (x : BitVec 64) : ixStr v (u64 x) = ixStr v (vi (x.toNat : Int)) := by
  simp only [u64_def]; cases v <;> first | rfl | (rename_i a; cases a <;> rfl) | (rename_i a n c; cases a <;> rfl)
@[simp] theorem u64_add (x y : BitVec 64) : binInt .add (u64 x) (u64 y) = some (u64 (x + y)) := by
  simp only [u64_def]; rw [binInt_add, wrap_ofInt .u64 rfl]; simp only [IntKind.bits, BitVec.ofInt_add, bv_ofInt_nat]
@[simp] theorem u64_sub (x y : BitVec 64) : binInt .sub (u64 x) (u64 y) = some (u64 (x - y)) := by
  simp only [u64_def]; rw [binInt_sub, wrap_ofInt .u64 rfl]; simp only [IntKind.bits, bv_ofInt_sub, bv_ofInt_nat]
@[simp] theorem u64_mul (x y : BitVec 64) : binInt .mul (u64 x) (u64 y) = some (u64 (x * y)) := by
  simp only [u64_def]; rw [binInt_mul, wrap_ofInt .u64 rfl]; simp only [IntKind.bits, BitVec.ofInt_mul, bv_ofInt_nat]
@[simp] theorem u64_and (x y : BitVec 64) : binInt .and (u64 x) (u64 y) = some (u64 (x &&& y)) := by
  simp only [u64_def]; rw [binInt_and]; simp only [IntKind.bits, bv_ofInt_nat]; exact congrArg (fun z => some (Value.int .u64 z)) (wrap_bv .u64 rfl _)
@[simp] theorem u64_or (x y : BitVec 64) : binInt .or (u64 x) (u64 y) = some (u64 (x ||| y)) := by
  simp only [u64_def]; rw [binInt_or]; simp only [IntKind.bits, bv_ofInt_nat]; exact congrArg (fun z => some (Value.int .u64 z)) (wrap_bv .u64 rfl _)
@[simp] theorem u64_xor (x y : BitVec 64) : binInt .xor (u64 x) (u64 y) = some (u64 (x ^^^ y)) := by
  simp only [u64_def]; rw [binInt_xor]; simp only [IntKind.bits, bv_ofInt_nat]; exact congrArg (fun z => some (Value.int .u64 z)) (wrap_bv .u64 rfl _)
@[simp] theorem u64_andNot (x y : BitVec 64) : binInt .andNot (u64 x) (u64 y) = some (u64 (x &&& ~~~y)) := by
  simp only [u64_def]; rw [binInt_andNot]; simp only [IntKind.bits, bv_ofInt_nat]; exact congrArg (fun z => some (Value.int .u64 z)) (wrap_bv .u64 rfl _)
@[simp] theorem u64_shr (x : BitVec 64) (k : IntKind) (n : Nat) : binInt .shr (u64 x) (.int k (n : Int)) = some (u64 (x >>> n)) := by
  have h : ¬ ((n : Int) < 0) := by omega
  simp only [u64_def, binInt, h, if_false, Int.toNat_natCast, IntKind.bits, bv_shr]
@[simp] theorem u64_shl (x : BitVec 64) (k : IntKind) (n : Nat) : binInt .shl (u64 x) (.int k (n : Int)) = some (u64 (x <<< n)) := by
  have h : ¬ ((n : Int) < 0) := by omega
  simp only [u64_def, binInt, h, if_false, Int.toNat_natCast]; rw [wrap_ofInt .u64 rfl]; simp only [IntKind.bits, bv_shl]
@[simp] theorem u64_shr_lit (x : BitVec 64) (k : IntKind) (n : Nat) : binInt .shr (u64 x) (.int k (no_index (OfNat.ofNat n))) = some (u64 (x >>> n)) := u64_shr x k n
@[simp] theorem u64_shr_u8 (x : BitVec 64) (y : BitVec 8) : binInt .shr (u64 x) (u8 y) = some (u64 (x >>> y.toNat)) := u64_shr x .u8 y.toNat
@[simp] theorem u64_shr_u16 (x : BitVec 64) (y : BitVec 16) : binInt .shr (u64 x) (u16 y) = some (u64 (x >>> y.toNat)) := u64_shr x .u16 y.toNat
@[simp] theorem u64_shr_u32 (x : BitVec 64) (y : BitVec 32) : binInt .shr (u64 x) (u32 y) = some (u64 (x >>> y.toNat)) := u64_shr x .u32 y.toNat
@[simp] theorem u64_shr_u64 (x : BitVec 64) (y : BitVec 64) : binInt .shr (u64 x) (u64 y) = some (u64 (x >>> y.toNat)) := u64_shr x .u64 y.toNat
@[simp] theorem u64_shl_lit (x : BitVec 64) (k : IntKind) (n : Nat) : binInt .shl (u64 x) (.int k (no_index (OfNat.ofNat n))) = some (u64 (x <<< n)) := u64_shl x k n
@[simp] theorem u64_shl_u8 (x : BitVec 64) (y : BitVec 8) : binInt .shl (u64 x) (u8 y) = some (u64 (x <<< y.toNat)) := u64_shl x .u8 y.toNat
@[simp] theorem u64_shl_u16 (x : BitVec 64) (y : BitVec 16) : binInt .shl (u64 x) (u16 y) = some (u64 (x <<< y.toNat)) := u64_shl x .u16 y.toNat
@[simp] theorem u64_shl_u32 (x : BitVec 64) (y : BitVec 32) : binInt .shl (u64 x) (u32 y) = some (u64 (x <<< y.toNat)) := u64_shl x .u32 y.toNat
@[simp] theorem u64_shl_u64 (x : BitVec 64) (y : BitVec 64) : binInt .shl (u64 x) (u64 y) = some (u64 (x <<< y.toNat)) := u64_shl x .u64 y.toNat
@[simp] theorem u64_eql (x y : BitVec 64) : binInt .eql (u64 x) (u64 y) = some (.bool (decide (x = y))) := by
  simp only [u64_def]; rw [binInt_eql]; simp only [bv_inj]
@[simp] theorem u64_neq (x y : BitVec 64) : binInt .neq (u64 x) (u64 y) = some (.bool (decide (x ≠ y))) := by
  simp only [u64_def]; rw [binInt_neq]; simp only [bv_inj, ne_eq]
@[simp] theorem u64_lss (x y : BitVec 64) : binInt .lss (u64 x) (u64 y) = some (.bool (decide (x.toNat < y.toNat))) := by
  simp only [u64_def]; rw [binInt_lss]; simp only [Int.ofNat_lt]
@[simp] theorem u64_leq (x y : BitVec 64) : binInt .leq (u64 x) (u64 y) = some (.bool (decide (x.toNat ≤ y.toNat))) := by
  simp only [u64_def]; rw [binInt_leq]; simp only [Int.ofNat_le]
@[simp] theorem u64_gtr (x y : BitVec 64) : binInt .gtr (u64 x) (u64 y) = some (.bool (decide (y.toNat < x.toNat))) := by
  simp only [u64_def]; rw [binInt_gtr]; simp only [Int.ofNat_lt]
@[simp] theorem u64_geq (x y : BitVec 64) : binInt .geq (u64 x) (u64 y) = some (.bool (decide (y.toNat ≤ x.toNat))) := by
  simp only [u64_def]; rw [binInt_geq]; simp only [Int.ofNat_le]
@[simp] theorem u64_quo (x y : BitVec 64) (h : y ≠ 0#64) : binInt .quo (u64 x) (u64 y) = some (u64 (x / y)) := by
  simp only [u64_def]; rw [binInt_quo _ _ _ (fun k => h (BitVec.eq_of_toNat_eq (by have : y.toNat = 0 := (by exact_mod_cast k); simpa using this))), ← Int.ofNat_tdiv, ← BitVec.toNat_udiv]
  exact congrArg (fun z => some (Value.int .u64 z)) (wrap_bv .u64 rfl _)
@[simp] theorem u64_rem (x y : BitVec 64) (h : y ≠ 0#64) : binInt .rem (u64 x) (u64 y) = some (u64 (x % y)) := by
  simp only [u64_def]; rw [binInt_rem _ _ _ (fun k => h (BitVec.eq_of_toNat_eq (by have : y.toNat = 0 := (by exact_mod_cast k); simpa using this))), ← Int.ofNat_tmod, ← BitVec.toNat_umod]
@[simp] theorem u64_to_u8 (x : BitVec 64) : convInt .u8 (u64 x) = some (u8 (x.setWidth 8)) := by
  simp only [u8_def, u16_def, u32_def, u64_def]; rw [convInt_int, wrap_ofInt .u8 rfl]; simp only [IntKind.bits, BitVec.ofInt_natCast, BitVec.ofNat_toNat]
@[simp] theorem u64_to_u16 (x : BitVec 64) : convInt .u16 (u64 x) = some (u16 (x.setWidth 16)) := by
  simp only [u8_def, u16_def, u32_def, u64_def]; rw [convInt_int, wrap_ofInt .u16 rfl]; simp only [IntKind.bits, BitVec.ofInt_natCast, BitVec.ofNat_toNat]
@[simp] theorem u64_to_u32 (x : BitVec 64) : convInt .u32 (u64 x) = some (u32 (x.setWidth 32)) := by
  simp only [u8_def, u16_def, u32_def, u64_def]; rw [convInt_int, wrap_ofInt .u32 rfl]; simp only [IntKind.bits, BitVec.ofInt_natCast, BitVec.ofNat_toNat]
@[simp] theorem u64_to_u64 (x : BitVec 64) : convInt .u64 (u64 x) = some (u64 (x.setWidth 64)) := by
  simp only [u8_def, u16_def, u32_def, u64_def]; rw [convInt_int, wrap_ofInt .u64 rfl]; simp only [IntKind.bits, BitVec.ofInt_natCast, BitVec.ofNat_toNat]
@[simp] theorem i64_to_u64 (n : Int) : convInt .u64 (vi n) = some (u64 (BitVec.ofInt 64 n)) := by
  simp only [u64_def]; rw [convInt_int, wrap_ofInt .u64 rfl]; simp only [IntKind.bits]
end Go.AM
end
section
namespace Go.AM
def vcells : Value → List Value
  | .agg a => a.toList
  | v => [v]
@[simp] theorem vcells_agg (a : Array Value) : vcells (.agg a) = a.toList := rfl
@[simp] theorem vcells_int (k : IntKind) (n : Int) : vcells (.int k n) = [.int k n] := rfl
@[simp] theorem vcells_bool (b : Bool) : vcells (.bool b) = [.bool b] := rfl
@[simp] theorem vcells_string (b : ByteArray) : vcells (.string b) = [.string b] := rfl
@[simp] theorem vcells_slice (o : Option Addr) (n c : Nat) : vcells (.slice o n c) = [.slice o n c] := rfl
@[simp] theorem vcells_pointer (o : Option Addr) : vcells (.pointer o) = [.pointer o] := rfl
@[simp] theorem vcells_map (o : Option Nat) : vcells (.map o) = [.map o] := rfl
@[simp] theorem vcells_func (g : Fn) (a b : Array Value) : vcells (.func g a b) = [.func g a b] := rfl
@[simp] theorem vcells_nilFunc : vcells .nilFunc = [.nilFunc] := rfl
@[simp] theorem vcells_iface (t : TypeId) (v : Value) : vcells (.iface t v) = [.iface t v] := rfl
@[simp] theorem vcells_nilIface : vcells .nilIface = [.nilIface] := rfl
@[simp] theorem vcells_u8 (x : BitVec 8) : vcells (u8 x) = [u8 x] := rfl
@[simp] theorem vcells_u16 (x : BitVec 16) : vcells (u16 x) = [u16 x] := rfl
@[simp] theorem vcells_u32 (x : BitVec 32) : vcells (u32 x) = [u32 x] := rfl
@[simp] theorem vcells_u64 (x : BitVec 64) : vcells (u64 x) = [u64 x] := rfl
theorem cells_toList (v : Value) : v.cells.toList = vcells v := by cases v <;> rfl
@[simp] theorem defd_agg (a : Array Value) : defd (.agg a) = true := rfl
@[simp] theorem defd_int (k : IntKind) (n : Int) : defd (.int k n) = true := rfl
@[simp] theorem defd_bool (b : Bool) : defd (.bool b) = true := rfl
@[simp] theorem defd_string (b : ByteArray) : defd (.string b) = true := rfl
@[simp] theorem defd_slice (o : Option Addr) (n c : Nat) : defd (.slice o n c) = true := rfl
@[simp] theorem defd_pointer (o : Option Addr) : defd (.pointer o) = true := rfl
@[simp] theorem defd_map (o : Option Nat) : defd (.map o) = true := rfl
@[simp] theorem defd_func (g : Fn) (a b : Array Value) : defd (.func g a b) = true := rfl
@[simp] theorem defd_nilFunc : defd .nilFunc = true := rfl
@[simp] theorem defd_iface (t : TypeId) (v : Value) : defd (.iface t v) = true := rfl
@[simp] theorem defd_nilIface : defd .nilIface = true := rfl
@[simp] theorem plain1_int (k : IntKind) (n : Int) : plain1 (.int k n) = true := rfl
@[simp] theorem plain1_bool (b : Bool) : plain1 (.bool b) = true := rfl
@[simp] theorem plain1_string (b : ByteArray) : plain1 (.string b) = true := rfl
@[simp] theorem plain1_slice (o : Option Addr) (n c : Nat) : plain1 (.slice o n c) = true := rfl
@[simp] theorem plain1_pointer (o : Option Addr) : plain1 (.pointer o) = true := rfl
@[simp] theorem plain1_map (o : Option Nat) : plain1 (.map o) = true := rfl
@[simp] theorem plain1_func (g : Fn) (a b : Array Value) : plain1 (.func g a b) = true := rfl
@[simp] theorem plain1_nilFunc : plain1 .nilFunc = true := rfl
@[simp] theorem plain1_iface (t : TypeId) (v : Value) : plain1 (.iface t v) = true := rfl
@[simp] theorem plain1_nilIface : plain1 .nilIface = true := rfl
def fillL (place : Nat → Option (Nat × Nat)) (cells : List Value) : List (Nat × Value) → Option (List Value)
  | [] => some cells
  | (i, v) :: rest =>
    match place i with
    | none => none
    | some (off, size) => if (vcells v).length = size ∧ off + size ≤ cells.length then fillL place (splice cells off (vcells v)) rest else none
theorem zipIdx_fold (vs : List Value) : ∀ (off k : Nat) (cells : Array Value), off + k + vs.length ≤ cells.size →
    (vs.zipIdx k).foldl (fun cs (p : Value × Nat) => cs.setIfInBounds (off + p.2) p.1) cells = (splice cells.toList (off + k) vs).toArray := by
  induction vs with
  | nil => intro off k cells h; simp [splice]
  | cons v vs ih =>
    intro off k cells h
    simp only [List.length_cons] at h
    simp only [List.zipIdx_cons, List.foldl_cons]
    rw [ih off (k + 1) _ (by simp; omega)]
    apply Array.toList_inj.1
    simp only [Array.toList_setIfInBounds, splice]
    apply List.ext_getElem?
    intro i
    have hl : off + k < cells.toList.length := by simp; omega
    simp only [List.getElem?_append, List.length_append, List.length_take, List.length_set, List.length_cons]
    by_cases h1 : i < off + k
    · have e1 : i < min (off + (k + 1)) cells.toList.length := by omega
      have e2 : i < min (off + k) cells.toList.length := by omega
      simp [e1, e2, h1, List.getElem?_take, List.getElem?_set, show ¬ (off + k = i) by omega, show i < off + (k+1) by omega, show i < min (off + (k+1)) cells.toList.length + vs.length by omega, show i < min (off + k) cells.toList.length + (vs.length + 1) by omega]
      have e3 : i < cells.size := by omega
      simp [show i < min (off + (k + 1)) cells.size by omega, show i < min (off + k) cells.size by omega, show i < min (off + (k+1)) cells.size + vs.length by omega, show i < min (off + k) cells.size + (vs.length + 1) by omega]
    · by_cases h2 : i = off + k
      · subst h2
        simp [List.getElem?_take, show off + k < cells.size by omega, show off + k < min (off + (k+1)) cells.size by omega, show ¬ off + k < min (off + k) cells.size by omega, show off + k < min (off + (k+1)) cells.size + vs.length by omega, show off + k < min (off + k) cells.size + (vs.length + 1) by omega, show off + k - min (off + k) cells.size = 0 by omega]
      · have e4 : ¬ i < min (off + (k + 1)) cells.size := by omega
        have e5 : ¬ i < min (off + k) cells.size := by omega
        have m1 : min (off + (k + 1)) cells.size = off + k + 1 := by omega
        have m2 : min (off + k) cells.size = off + k := by omega
        simp only [Array.length_toList, m1, m2]
        by_cases h3 : i < off + k + 1 + vs.length
        · simp [h3, show ¬ i < off + k + 1 by omega, show ¬ i < off + k by omega, show i < off + k + (vs.length + 1) by omega]
          rw [show i - (off + k) = (i - (off + k + 1)) + 1 by omega, List.getElem?_cons_succ]
        · simp [h3, show ¬ i < off + k + (vs.length + 1) by omega]
          have : i ≠ off + k := by omega
          rw [show off + (k + 1) + vs.length + (i - (off + k + 1 + vs.length)) = i by omega, show off + k + (vs.length + 1) + (i - (off + k + (vs.length + 1))) = i by omega]
          simp [List.getElem?_set, Ne.symm this]
theorem fill_fillL (place : Nat → Option (Nat × Nat)) : ∀ (parts : List (Nat × Value)) (cells : Array Value), Instr.fill place cells parts = (fillL place cells.toList parts).map (·.toArray) := by
  intro parts
  induction parts with
  | nil => intro cells; simp [Instr.fill, fillL]
  | cons p rest ih =>
    intro cells
    obtain ⟨i, v⟩ := p
    simp only [Instr.fill, fillL]
    cases place i with
    | none => rfl
    | some q =>
      obtain ⟨off, size⟩ := q
      simp only
      have e : v.cells.size = (vcells v).length := by rw [← cells_toList]; simp
      by_cases h : (vcells v).length = size ∧ off + size ≤ cells.toList.length
      · rw [if_pos h]
        have hc : ((v.cells.size ≠ size : Bool) || decide (off + v.cells.size > cells.size)) = false := by
          have h2 := h.2
          simp only [Array.length_toList] at h2
          simp [e, h.1]; omega
        rw [hc]
        simp only [Bool.false_eq_true, if_false]
        rw [ih]
        have hz : (v.cells.zipIdx.foldl (fun cs (c, j) => cs.setIfInBounds (off + j) c) cells) = (splice cells.toList off (vcells v)).toArray := by
          have := zipIdx_fold (vcells v) off 0 cells (by have h2 := h.2; simp only [Array.length_toList] at h2; omega)
          rw [← cells_toList] at this ⊢
          rw [show off + 0 = off from rfl] at this
          rw [← this]
          rw [← Array.foldl_toList, Array.toList_zipIdx]
        rw [hz]
      · rw [if_neg h]
        have hc : ((v.cells.size ≠ size : Bool) || decide (off + v.cells.size > cells.size)) = true := by
          simp only [Array.length_toList] at h
          simp [e]; omega
        rw [hc]; rfl
theorem repl_eq (len size : Nat) (zero : Array Value) (h : zero.size = size) : repl (len * size) zero = (List.replicate len zero.toList).flatten := by
  apply List.ext_getElem?
  intro i
  simp only [repl, Array.toList_map, Array.toList_range, List.getElem?_map]
  by_cases hz : size = 0
  · have : zero.toList = [] := by apply List.eq_nil_of_length_eq_zero; simp [h, hz]
    simp [hz, this]
  by_cases hi : i < len * size
  · rw [List.getElem?_range hi]
    have hm : i % size < zero.size := by rw [h]; exact Nat.mod_lt _ (by omega)
    have key : ∀ (n j : Nat), j < n * size → (List.replicate n zero.toList).flatten[j]? = some (zero[j % size]!) := by
      intro n
      induction n with
      | zero => intro j hj; simp at hj
      | succ n ih =>
        intro j hj
        simp only [List.replicate_succ, List.flatten_cons]
        by_cases hj2 : j < size
        · rw [List.getElem?_append_left (by simp [h]; exact hj2)]
          rw [Nat.mod_eq_of_lt hj2]
          have : j < zero.size := by omega
          simp [this]
        · rw [List.getElem?_append_right (by simp [h]; omega)]
          simp only [Array.length_toList, h]
          rw [Nat.succ_mul] at hj
          rw [ih (j - size) (by omega)]
          rw [Nat.mod_eq_sub_mod (by omega : j ≥ size)]
    rw [key len i hi]
    simp [h]
  · rw [List.getElem?_eq_none (by simp; omega), List.getElem?_eq_none]
    · rfl
    · simp [h, List.length_flatten, List.map_replicate, List.sum_replicate_nat]; omega
@[simp] theorem buildV_eq (places : List (Nat × Nat)) (zero : List Value) (parts : List (Nat × Value)) :
    buildV places zero.toArray parts = if parts.all (fun p => defd p.2) then (fillL (places[·]?) zero parts).map (fun l => .agg l.toArray) else none := by
  unfold buildV
  rw [fill_fillL]
  split <;> simp [Option.map_map, Function.comp_def]
@[simp] theorem buildA_eq (size : Nat) (zero : List Value) (parts : List (Nat × Value)) :
    buildA size zero.toArray parts = if parts.all (fun p => defd p.2) then (fillL (fun i => some (i * size, size)) zero parts).map (fun l => .agg l.toArray) else none := by
  unfold buildA
  rw [fill_fillL]
  split <;> simp [Option.map_map, Function.comp_def]
@[simp] theorem buildS_eq (len size : Nat) (zero : List Value) (parts : List (Nat × Value)) (h : zero.length = size) :
    buildS len size zero.toArray parts = if parts.all (fun p => defd p.2) then (fillL (fun i => some (i * size, size)) (List.replicate len zero).flatten parts).map (fun l => (.cells l none, fun b => slc b 0 len len)) else none := by
  unfold buildS
  rw [fill_fillL, repl_eq len size _ (by simpa using h)]
  split
  · simp [Option.map_map, Function.comp_def]
    rfl
  · rfl
@[simp] theorem fillL_nil (place : Nat → Option (Nat × Nat)) (cells : List Value) : fillL place cells [] = some cells := rfl
@[simp] theorem fillL_cons (place : Nat → Option (Nat × Nat)) (cells : List Value) (i : Nat) (v : Value) (rest : List (Nat × Value)) :
    fillL place cells ((i, v) :: rest) = match place i with
      | none => none
      | some (off, size) => if (vcells v).length = size ∧ off + size ≤ cells.length then fillL place (splice cells off (vcells v)) rest else none := rfl
def Ext (H H' : AH) : Prop := H.next ≤ H'.next ∧ ∀ b, b < H.next → H'.get b = H.get b
@[simp] theorem Ext.refl (H : AH) : Ext H H := ⟨Nat.le_refl _, fun _ _ => rfl⟩
theorem Ext.trans {H H' H'' : AH} (h : Ext H H') (h' : Ext H' H'') : Ext H H'' := ⟨Nat.le_trans h.1 h'.1, fun b hb => (h'.2 b (Nat.lt_of_lt_of_le hb h.1)).trans (h.2 b hb)⟩
@[simp] theorem Ext.new {H H' : AH} (h : Ext H H') (o : AObj) : Ext H (H'.new o) := ⟨Nat.le_succ_of_le h.1, fun b hb => by rw [AH.get_new_lt _ _ (Nat.lt_of_lt_of_le hb h.1)]; exact h.2 b hb⟩
@[simp] theorem Ext.put {H H' : AH} (h : Ext H H') {b : Nat} (hb : H.next ≤ b) (o : AObj) : Ext H (H'.put b o) := ⟨h.1, fun x hx => by rw [AH.get_put_ne _ _ (by omega)]; exact h.2 x hx⟩
theorem Ext.get {H H' : AH} (h : Ext H H') {b : Nat} (hb : b < H.next) : H'.get b = H.get b := h.2 b hb
theorem Ext.cells {H H' : AH} (h : Ext H H') {b : Nat} {c : List Value} {f : Option Nat} (hb : H.get b = .cells c f) : H'.get b = .cells c f := by
  rw [h.2 b (AH.lt_of_get (by rw [hb]; simp)), hb]
theorem Ext.obj {H H' : AH} (h : Ext H H') {b : Nat} {o : AObj} (ho : o ≠ .dead) (hb : H.get b = o) : H'.get b = o := by
  rw [h.2 b (AH.lt_of_get (by rw [hb]; exact ho)), hb]
theorem AH.lt_cells {H : AH} {b : Nat} {c : List Value} {f : Option Nat} (hb : H.get b = .cells c f) : b < H.next := AH.lt_of_get (by rw [hb]; simp)
end Go.AM
end
section
namespace Go.AM
theorem rowF_length (f : Nat → Option Value) : ∀ (n i : Nat) (l : List Value), rowF f i n = some l → l.length = n
  | 0, i, l, h => by simp [rowF] at h; subst h; rfl
  | n + 1, i, l, h => by
    simp only [rowF] at h
    cases hf : f i with
    | none => simp [hf] at h
    | some v =>
      simp only [hf, Option.bind_some] at h
      cases hr : rowF f (i + 1) n with
      | none => simp [hr] at h
      | some k => simp [hr] at h; subst h; simp [rowF_length f n _ _ hr]
theorem rowF_get (f : Nat → Option Value) : ∀ (n i : Nat) (l : List Value), rowF f i n = some l → ∀ j, j < n → f (i + j) = l[j]?
  | 0, i, l, h, j, hj => by omega
  | n + 1, i, l, h, j, hj => by
    simp only [rowF] at h
    cases hf : f i with
    | none => simp [hf] at h
    | some v =>
      simp only [hf, Option.bind_some] at h
      cases hr : rowF f (i + 1) n with
      | none => simp [hr] at h
      | some k =>
        simp [hr] at h; subst h
        cases j with
        | zero => simpa using hf
        | succ j => rw [List.getElem?_cons_succ, ← rowF_get f n (i + 1) k hr j (by omega)]; congr 1; omega
theorem rowF_some (f : Nat → Option Value) : ∀ (n i : Nat) (l : List Value), l.length = n → (∀ j, j < n → f (i + j) = l[j]?) → rowF f i n = some l
  | 0, i, l, h, _ => by have := List.eq_nil_of_length_eq_zero h; subst this; rfl
  | n + 1, i, [], h, _ => by simp at h
  | n + 1, i, v :: l, h, hf => by
    have h0 := hf 0 (by omega)
    simp at h0
    simp only [rowF, h0, Option.bind_some]
    rw [rowF_some f n (i + 1) l (by simpa using h) (fun j hj => by have := hf (j + 1) (by omega); rw [List.getElem?_cons_succ] at this; rw [← this]; congr 1; omega)]
    rfl
theorem row_length {o : AObj} {i n : Nat} {l : List Value} (h : o.row i n = some l) : l.length = n := by
  cases o with
  | cells c f => simp only [row_cells] at h; split at h <;> simp at h; subst h; simp; omega
  | ro f => exact rowF_length f n i l h
  | _ => simp [AObj.row] at h
theorem row_at {o : AObj} {i n : Nat} {l : List Value} (h : o.row i n = some l) {j : Nat} (hj : j < n) : o.cell (i + j) = l[j]? := by
  cases o with
  | cells c f =>
    simp only [row_cells] at h; split at h <;> simp at h; subst h
    simp [AObj.cell, hj]
  | ro f => exact rowF_get f n i l h j hj
  | _ => simp [AObj.row] at h
theorem row_part {o : AObj} {i n : Nat} {l : List Value} (h : o.row i n = some l) {j m : Nat} (hj : j + m ≤ n) : o.row (i + j) m = some ((l.drop j).take m) := by
  cases o with
  | cells c f =>
    simp only [row_cells] at h ⊢; split at h <;> simp at h; subst h
    rw [if_pos (by omega)]
    congr 1
    rw [List.drop_take, List.drop_drop, List.take_take, Nat.min_eq_left (by omega)]
  | ro f =>
    have hl := rowF_length f n i l h
    refine rowF_some f m (i + j) _ (by simp; omega) fun k hk => ?_
    rw [Nat.add_assoc, rowF_get f n i l h (j + k) (by omega)]
    simp [List.getElem?_take, hk]
  | _ => simp [AObj.row] at h
theorem row_notdead {o : AObj} {i n : Nat} {l : List Value} (h : o.row i n = some l) : o ≠ .dead := by
  rintro rfl; simp [AObj.row] at h
theorem flatten_part {α : Type} {sz : Nat} : ∀ (rows : List (List α)), (∀ r ∈ rows, r.length = sz) → ∀ i (h : i < rows.length), ((rows.flatten).drop (i * sz)).take sz = rows[i]
  | [], _, i, h => by simp at h
  | r :: rows, hl, 0, h => by
    have := hl r (by simp)
    simp [← this]
  | r :: rows, hl, i + 1, h => by
    have h1 := hl r (by simp)
    have ih := flatten_part rows (fun x hx => hl x (by simp [hx])) i (by simpa using h)
    simp only [List.flatten_cons, List.getElem_cons_succ]
    rw [← ih, Nat.succ_mul, List.drop_append, List.drop_eq_nil_of_le (by omega), h1]
    simp
theorem flatten_length {α : Type} {sz : Nat} (rows : List (List α)) (hl : ∀ r ∈ rows, r.length = sz) : rows.flatten.length = rows.length * sz := by
  induction rows with
  | nil => simp
  | cons r rows ih => simp [hl r (by simp), ih (fun x hx => hl x (by simp [hx])), Nat.succ_mul, Nat.add_comm]
theorem flatten_drop {α : Type} {sz : Nat} : ∀ (rows : List (List α)), (∀ r ∈ rows, r.length = sz) → ∀ i, (rows.flatten).drop (i * sz) = (rows.drop i).flatten
  | [], _, i => by simp
  | r :: rows, hl, 0 => by simp
  | r :: rows, hl, i + 1 => by
    have h1 := hl r (by simp)
    have ih := flatten_drop rows (fun x hx => hl x (by simp [hx])) i
    simp only [List.flatten_cons, List.drop_succ_cons]
    rw [← ih, Nat.succ_mul, List.drop_append, List.drop_eq_nil_of_le (by omega), h1]
    simp
theorem flatten_take {α : Type} {sz : Nat} : ∀ (rows : List (List α)), (∀ r ∈ rows, r.length = sz) → ∀ i, (rows.flatten).take (i * sz) = (rows.take i).flatten
  | [], _, i => by simp
  | r :: rows, hl, 0 => by simp
  | r :: rows, hl, i + 1 => by
    have h1 := hl r (by simp)
    have ih := flatten_take rows (fun x hx => hl x (by simp [hx])) i
    simp only [List.flatten_cons, List.take_succ_cons]
    rw [← ih, Nat.succ_mul, List.take_append, List.take_of_length_le (by omega), h1]
    simp
structure Rows (H : AH) (sz : Nat) (v : Value) (rows : List (List Value)) : Prop where
  len : ∀ r ∈ rows, r.length = sz
  at_ : (rows = [] ∧ ∃ a, v = .slice a 0 0) ∨ ∃ b o c, v = slc b o rows.length c ∧ rows.length ≤ c ∧ fits sz (H.get b) = true ∧ (H.get b).row o (rows.length * sz) = some rows.flatten
section
variable {H H' : AH} {sz : Nat} {v : Value} {rows : List (List Value)}
theorem Rows.mono (h : Rows H sz v rows) (e : Ext H H') : Rows H' sz v rows := by
  refine ⟨h.len, ?_⟩
  rcases h.at_ with h | ⟨b, o, c, h1, h2, h3, h4⟩
  · exact .inl h
  · have := e.get (AH.lt_of_get (row_notdead h4))
    exact .inr ⟨b, o, c, h1, h2, by rw [this]; exact h3, by rw [this]; exact h4⟩
theorem Rows.lenSlc (h : Rows H sz v rows) : AM.lenSlc v = some (vi rows.length) := by
  rcases h.at_ with ⟨rfl, c, rfl⟩ | ⟨b, o, c, rfl, _⟩ <;> rfl
theorem Rows.ix (h : Rows H sz v rows) {i : Nat} (hi : i < rows.length) : ∃ b o, ixSlc sz v (vi i) = some (ptr b o) ∧ (H.get b).row o sz = some rows[i] := by
  rcases h.at_ with ⟨rfl, c, rfl⟩ | ⟨b, o, c, rfl, h2, h3, h4⟩
  · simp at hi
  · refine ⟨b, o + i * sz, ixSlc_slc sz b o _ c i hi, ?_⟩
    have hle : i * sz + sz ≤ rows.length * sz := by rw [← Nat.succ_mul]; exact Nat.mul_le_mul_right _ hi
    rw [row_part h4 hle, flatten_part rows h.len i hi]
theorem Rows.elem (h : Rows H sz v rows) {i : Nat} (hi : i < rows.length) : ∃ b o, ixSlc sz v (vi i) = some (ptr b o) ∧ loadN sz (ptr b o) H = some (.agg rows[i].toArray) := by
  obtain ⟨b, o, h1, h2⟩ := h.ix hi
  exact ⟨b, o, h1, by rw [loadN_ptr, h2]; rfl⟩
theorem Rows.nil (H : AH) (sz : Nat) (a : Option Addr) : Rows H sz (.slice a 0 0) [] := ⟨by simp, .inl ⟨rfl, a, rfl⟩⟩
def sliceV (sz : Nat) (v : Value) (i j : Nat) : Value :=
  match v with
  | .slice none _ c => .slice none (j - i) (c - i)
  | .slice (some a) _ c => .slice (some (if c = i then a else a.add (i * sz))) (j - i) (c - i)
  | v => v
theorem Rows.slice' (h : Rows H sz v rows) {lo hi : Option Value} {i j : Nat} (hlo : lo = some (vi i) ∨ lo = none ∧ i = 0) (hhi : hi = some (vi j) ∨ hi = none ∧ j = rows.length) (hij : i ≤ j) (hj : j ≤ rows.length) :
    slSlc sz v lo hi none H = some (sliceV sz v i j) ∧ Rows H sz (sliceV sz v i j) ((rows.take j).drop i) := by
  have hb : ∀ (n c : Nat), rows.length = n → n ≤ c → (bnd hi n c) = some j ∧ bnd lo 0 j = some i := by
    intro n c hn hc
    constructor
    · rcases hhi with rfl | ⟨rfl, rfl⟩
      · simp only [bnd]; rw [if_pos (by omega)]; simp
      · simp only [bnd, hn]
    · rcases hlo with rfl | ⟨rfl, rfl⟩
      · simp only [bnd]; rw [if_pos (by omega)]; simp
      · simp only [bnd]
  have hlen : ∀ r ∈ (rows.take j).drop i, r.length = sz := fun r hr => h.len r (List.mem_of_mem_take (List.mem_of_mem_drop hr))
  rcases h.at_ with ⟨rfl, c, rfl⟩ | ⟨b, o, c, rfl, h2, h3, h4⟩
  · simp at hj; subst hj
    have : i = 0 := by omega
    subst this
    obtain ⟨e1, e2⟩ := hb 0 0 rfl (by omega)
    have e0 : bnd (none : Option Value) 0 0 = some 0 := rfl
    cases c with
    | none => exact ⟨by simp [slSlc, e0, e1, e2, sliceV], by simpa [sliceV] using Rows.nil _ _ none⟩
    | some a => exact ⟨by simp [slSlc, e0, e1, e2, sliceV], by simpa [sliceV] using Rows.nil _ _ (some a)⟩
  · obtain ⟨e1, e2⟩ := hb rows.length c rfl h2
    have hl : ((rows.take j).drop i).length = j - i := by simp; omega
    simp only [sliceV]
    refine ⟨?_, hlen, .inr ?_⟩
    · have e0 : bnd (none : Option Value) c c = some c := rfl
      simp only [slSlc, Option.isSome_none, Bool.false_and, h3, Bool.or_true, Bool.not_true, Bool.or_self, Bool.false_eq_true, if_false, e0, Option.bind_some, e1, e2]
      rw [if_pos (by omega)]
    · have hrow : ∀ o', o' = o + i * sz → (H.get b).row o' ((j - i) * sz) = some ((rows.take j).drop i).flatten := by
        rintro o' rfl
        have hle : i * sz + (j - i) * sz ≤ rows.length * sz := by rw [← Nat.add_mul]; exact Nat.mul_le_mul_right _ (by omega)
        rw [row_part h4 hle, flatten_drop rows h.len]
        congr 1
        rw [flatten_take (rows.drop i) (fun r hr => h.len r (List.mem_of_mem_drop hr))]
        congr 1
        rw [List.drop_take]
      rw [hl]
      by_cases hci : c = i
      · have hij0 : j - i = 0 := by omega
        refine ⟨b, o, c - i, by rw [if_pos hci], by omega, h3, ?_⟩
        have : ((rows.take j).drop i) = [] := List.eq_nil_of_length_eq_zero (by rw [hl, hij0])
        rw [this, hij0]
        have := row_part h4 (j := 0) (m := 0) (by omega)
        simpa using this
      · refine ⟨b, o + i * sz, c - i, ?_, by omega, h3, hrow _ rfl⟩
        rw [if_neg hci]
        simp only [Addr.add]
        by_cases hz : i * sz = 0
        · simp [hz]
        · simp [hz]
theorem Rows.slice (h : Rows H sz v rows) {lo hi : Option Value} {i j : Nat} (hlo : lo = some (vi i) ∨ lo = none ∧ i = 0) (hhi : hi = some (vi j) ∨ hi = none ∧ j = rows.length) (hij : i ≤ j) (hj : j ≤ rows.length) :
    ∃ v', slSlc sz v lo hi none H = some v' ∧ Rows H sz v' ((rows.take j).drop i) := ⟨_, (h.slice' hlo hhi hij hj).1, (h.slice' hlo hhi hij hj).2⟩
theorem Rows.made {H : AH} {b sz n : Nat} {f : Option Nat} (hg : H.get b = .cells rows.flatten f) (hf : f = none ∨ f = some sz) (hn : rows.length = n) (hl : ∀ r ∈ rows, r.length = sz) : Rows H sz (slc b 0 n n) rows := by
  subst hn
  refine ⟨hl, .inr ⟨b, 0, rows.length, rfl, Nat.le_refl _, ?_, ?_⟩⟩
  · rw [hg]; rcases hf with rfl | rfl <;> simp [fits]
  · rw [hg]; simp only [row_cells]
    rw [if_pos (by rw [flatten_length rows hl]; omega)]
    simp only [List.drop_zero, ← flatten_length rows hl, List.take_length]
end
abbrev Vals (H : AH) (v : Value) (l : List Value) : Prop := Rows H 1 v (l.map fun x => [x])
theorem flatten_single (l : List Value) : (l.map fun x => [x]).flatten = l := by
  induction l with
  | nil => rfl
  | cons x l ih => simp [ih]
section
variable {H : AH} {v : Value} {l : List Value}
theorem Vals.lenSlc (h : Vals H v l) : AM.lenSlc v = some (vi l.length) := by simpa using Rows.lenSlc h
theorem Vals.mono {H' : AH} (h : Vals H v l) (e : Ext H H') : Vals H' v l := Rows.mono h e
theorem Vals.elem (h : Vals H v l) {i : Nat} (hi : i < l.length) : ∃ b o, ixSlc 1 v (vi i) = some (ptr b o) ∧ (H.get b).cell o = some l[i] := by
  obtain ⟨b, o, h1, h2⟩ := Rows.ix h (i := i) (by simpa using hi)
  refine ⟨b, o, h1, ?_⟩
  have := row_at h2 (j := 0) (by omega)
  simpa using this
theorem Vals.made {H : AH} {b n : Nat} {f : Option Nat} (hg : H.get b = .cells l f) (hf : f = none ∨ f = some 1) (hn : l.length = n) : Vals H (slc b 0 n n) l :=
  Rows.made (by rw [flatten_single]; exact hg) hf (by simpa using hn) (by simp)
theorem Vals.slice (h : Vals H v l) {lo hi : Option Value} {i j : Nat} (hlo : lo = some (vi i) ∨ lo = none ∧ i = 0) (hhi : hi = some (vi j) ∨ hi = none ∧ j = l.length) (hij : i ≤ j) (hj : j ≤ l.length) :
    ∃ v', slSlc 1 v lo hi none H = some v' ∧ Vals H v' ((l.take j).drop i) := by
  have := Rows.slice h (lo := lo) (hi := hi) (i := i) (j := j) hlo (by simpa using hhi) hij (by simpa using hj)
  simpa [Vals, List.map_drop, List.map_take] using this
end
theorem Vals.slice' {H : AH} {v : Value} {l : List Value} (h : Vals H v l) {lo hi : Option Value} {i j : Nat} (hlo : lo = some (vi i) ∨ lo = none ∧ i = 0) (hhi : hi = some (vi j) ∨ hi = none ∧ j = l.length) (hij : i ≤ j) (hj : j ≤ l.length) :
    slSlc 1 v lo hi none H = some (sliceV 1 v i j) ∧ Vals H (sliceV 1 v i j) ((l.take j).drop i) := by
  have := Rows.slice' h (lo := lo) (hi := hi) (i := i) (j := j) hlo (by simpa using hhi) hij (by simpa using hj)
  simpa [Vals, List.map_drop, List.map_take] using this
def blk : Value → Option Nat
  | .slice (some a) _ _ => some a.block
  | _ => none
def Own (H0 H : AH) (sz : Nat) (v : Value) (rows : List (List Value)) : Prop :=
  (∀ r ∈ rows, r.length = sz ∧ r.all plain1 = true) ∧ ((rows = [] ∧ v = nilS) ∨ ∃ b f c cs, H0.next ≤ b ∧ v = slc b 0 rows.length c ∧ H.get b = .cells cs f ∧ rows.length ≤ c ∧ cs.length = c * sz ∧ cs.take (rows.length * sz) = rows.flatten ∧
    (f = none ∨ f = some sz ∧ c = rows.length))
section
variable {H0 H H' : AH} {sz : Nat} {v : Value} {rows : List (List Value)}
theorem Own.nil (H0 H : AH) (sz : Nat) : Own H0 H sz nilS [] := ⟨by simp, .inl ⟨rfl, rfl⟩⟩
theorem Own.made {b n : Nat} {f : Option Nat} (hb : H0.next ≤ b) (hg : H.get b = .cells rows.flatten f) (hf : f = none ∨ f = some sz) (hn : rows.length = n) (hr : ∀ r ∈ rows, r.length = sz ∧ r.all plain1 = true) : Own H0 H sz (slc b 0 n n) rows := by
  subst hn
  have hfl := flatten_length rows fun r h => (hr r h).1
  exact ⟨hr, .inr ⟨b, f, rows.length, rows.flatten, hb, rfl, hg, Nat.le_refl _, hfl, by rw [← hfl, List.take_length], hf.imp id fun h => ⟨h, rfl⟩⟩⟩
theorem Own.room {b c : Nat} {cs : List Value} (hb : H0.next ≤ b) (hg : H.get b = .cells cs none) (hc : cs.length = c * sz) : Own H0 H sz (slc b 0 0 c) [] :=
  ⟨by simp, .inr ⟨b, none, c, cs, hb, rfl, hg, Nat.zero_le _, hc, by simp, .inl rfl⟩⟩
theorem Own.toRows (h : Own H0 H sz v rows) : Rows H sz v rows := by
  rcases h.2 with ⟨rfl, rfl⟩ | ⟨b, f, c, cs, h1, rfl, h3, h4, h5, h6, h7⟩
  · exact Rows.nil _ _ none
  · refine ⟨fun r hr => (h.1 r hr).1, .inr ⟨b, 0, c, rfl, h4, ?_, ?_⟩⟩
    · rw [h3]; rcases h7 with rfl | ⟨rfl, _⟩ <;> simp [fits]
    · have : rows.length * sz ≤ c * sz := Nat.mul_le_mul_right _ h4
      rw [h3, row_cells, if_pos (by omega), List.drop_zero, h6]
theorem Own.keep (h : Own H0 H sz v rows) (e : ∀ b, blk v = some b → b < H.next → H'.get b = H.get b) : Own H0 H' sz v rows := by
  refine ⟨h.1, ?_⟩
  rcases h.2 with h | ⟨b, f, c, cs, h1, rfl, h3, h4⟩
  · exact .inl h
  · exact .inr ⟨b, f, c, cs, h1, rfl, by rw [e b rfl (AH.lt_cells h3)]; exact h3, h4⟩
theorem Own.mono (h : Own H0 H sz v rows) (e : Ext H H') : Own H0 H' sz v rows := h.keep fun b _ hb => e.get hb
theorem Own.blk_ge (h : Own H0 H sz v rows) {b : Nat} (hb : blk v = some b) : H0.next ≤ b := by
  rcases h.2 with ⟨_, rfl⟩ | ⟨b', f, c, cs, h1, rfl, _⟩
  · simp [blk] at hb
  · simp [blk] at hb; omega
theorem Own.blk_lt (h : Own H0 H sz v rows) {b : Nat} (hb : blk v = some b) : b < H.next := by
  rcases h.2 with ⟨_, rfl⟩ | ⟨b', f, c, cs, h1, rfl, h3, _⟩
  · simp [blk] at hb
  · simp [blk] at hb; subst hb; exact AH.lt_cells h3
theorem firstRow_rows (h : Rows H sz v rows) : srcRow sz rows.length v H = some rows.flatten := by
  rcases h.at_ with ⟨rfl, c, rfl⟩ | ⟨b, o, c, rfl, _, _, h4⟩
  · cases c <;> simp [srcRow, firstRow]
  · unfold srcRow
    split
    · rename_i h5 _
      have : rows = [] := List.eq_nil_of_length_eq_zero h5
      simp [this]
    · simp [firstRow, h4]
theorem lenO_rows (h : Rows H sz v rows) : lenO v = some rows.length := by
  rcases h.at_ with ⟨rfl, c, rfl⟩ | ⟨b, o, c, rfl, _⟩ <;> rfl
theorem all_flatten {p : Value → Bool} {rows : List (List Value)} (h : ∀ r ∈ rows, r.all p = true) : rows.flatten.all p = true := by
  simp only [List.all_eq_true, List.mem_flatten] at h ⊢
  rintro x ⟨r, hr, hx⟩
  exact h r hr x hx
def Grew (H0 H H' : AH) (v v' : Value) : Prop :=
  Ext H0 H' ∧ H.next ≤ H'.next ∧ (∀ b, b < H.next → blk v ≠ some b → H'.get b = H.get b) ∧ (∀ b, blk v' = some b → blk v = some b ∨ H.next ≤ b)
theorem Own.app (h : Own H0 H sz v rows) (h0 : Ext H0 H) {bytes : Nat} {x : Value} {new : List (List Value)} (hx : Rows H sz x new) (hp : ∀ r ∈ new, r.all plain1 = true)
    (hs : sz ≠ 0) (hb : bytes ≠ 0) (h1 : (rows.length + new.length) * bytes ≤ 2 ^ 46) (h2 : rows.length + new.length < 2 ^ 62) :
    ∃ v' H', app sz bytes v x H = some (v', H') ∧ Own H0 H' sz v' (rows ++ new) ∧ Grew H0 H H' v v' := by
  have hrows := h.toRows
  have hall : ∀ r ∈ rows ++ new, r.length = sz ∧ r.all plain1 = true := by
    intro r hr
    rcases List.mem_append.1 hr with hr | hr
    · exact h.1 r hr
    · exact ⟨hx.len r hr, hp r hr⟩
  have hpn : new.flatten.all plain1 = true := all_flatten hp
  have hpo : rows.flatten.all plain1 = true := all_flatten fun r hr => (h.1 r hr).2
  have hfn := flatten_length new hx.len
  have hfo := flatten_length rows fun r hr => (h.1 r hr).1
  have hnew : srcRow sz new.length x H = some new.flatten := firstRow_rows hx
  rcases h.2 with ⟨rfl, rfl⟩ | ⟨b, f, c, cs, g1, rfl, g3, g4, g5, g6, g7⟩
  · by_cases hn : new = []
    · subst hn
      refine ⟨nilS, H, ?_, ⟨by simp, .inl ⟨rfl, rfl⟩⟩, h0, Nat.le_refl _, fun _ _ _ => rfl, fun b hb => .inl hb⟩
      have e := lenO_rows hx
      simp at e hnew
      simp [AM.app, e, hnew]
    · have hpos : 0 < new.length := List.length_pos_iff.2 hn
      refine ⟨slc H.next 0 new.length new.length, H.new (.cells new.flatten (some sz)), ?_, Own.made h0.1 (AH.get_new_self _ _) (.inr rfl) (by simp) (by simpa using hall), h0.new _, Nat.le_succ _, fun b hb _ => AH.get_new_lt _ _ hb, fun b hb => .inr (by simp [blk] at hb; omega)⟩
      simp only [AM.app, lenO_rows hx, hnew, Option.bind_some, hpn, Bool.not_true, Bool.false_eq_true, if_false]
      simp at h1 h2
      rw [if_neg (by omega), if_neg (by simp; omega)]
      simp [firstRow]
  · have hlt := AH.lt_cells g3
    have hmul : (rows.length + new.length) * sz = rows.length * sz + new.length * sz := Nat.add_mul _ _ _
    by_cases hcap : rows.length + new.length ≤ c
    ·
      have hle : (rows.length + new.length) * sz ≤ c * sz := Nat.mul_le_mul_right _ hcap
      refine ⟨slc b 0 (rows.length + new.length) c, H.put b (.cells (splice cs (rows.length * sz) new.flatten) f), ?_, ⟨hall, .inr ⟨b, f, c, _, g1, by simp, AH.get_put_self _ _ hlt, by simpa using hcap, ?_, ?_, ?_⟩⟩, h0.put g1 _, Nat.le_refl _, ?_, fun b' hb' => .inl (by simpa [blk] using hb')⟩
      · simp only [AM.app, lenO_rows hx, hnew, Option.bind_some, hpn, Bool.not_true, Bool.false_eq_true, if_false]
        rw [if_pos hcap]
        simp only [Option.isSome_none, Bool.false_eq_true, if_false, g3]
        rw [if_pos (by omega), Nat.zero_add]
      · rw [splice_length (by omega)]; exact g5
      · simp only [List.length_append, List.flatten_append, hmul, splice]
        rw [List.take_append_of_le_length (by rw [List.length_append, List.length_take, hfn]; omega), List.take_of_length_le (by rw [List.length_append, List.length_take, hfn]; omega), g6]
      · rcases g7 with rfl | ⟨rfl, rfl⟩
        · exact .inl rfl
        · have : new.length = 0 := by omega
          exact .inr ⟨rfl, by rw [List.length_append]; omega⟩
      · intro b' _ hb'
        exact AH.get_put_ne _ _ (by intro e; subst e; simp [blk] at hb')
    · have hold : firstRow sz rows.length (slc b 0 rows.length c) H = some rows.flatten := by
        have : rows.length * sz ≤ c * sz := Nat.mul_le_mul_right _ g4
        simp only [firstRow, Option.isSome_none, Bool.false_eq_true, if_false, g3, row_cells]
        rw [if_pos (by omega), List.drop_zero, g6]
      have hfin : ∀ H1 : AH, H1.next = H.next → app sz bytes (slc b 0 rows.length c) x H = some (mkSlc (rows.length + new.length) (rows.length + new.length) H.next, H1.new (.cells (rows.flatten ++ new.flatten) (some sz))) →
          Ext H0 H1 → (∀ b', b' < H.next → b ≠ b' → H1.get b' = H.get b') →
          ∃ v' H', app sz bytes (slc b 0 rows.length c) x H = some (v', H') ∧ Own H0 H' sz v' (rows ++ new) ∧ Grew H0 H H' (slc b 0 rows.length c) v' := by
        intro H1 e1 e2 e3 e4
        refine ⟨_, _, e2, Own.made h0.1 (by rw [← e1, AH.get_new_self, List.flatten_append]) (.inr rfl) (by simp) hall, e3.new _, by rw [AH.next_new, e1]; exact Nat.le_succ _, ?_, fun b' hb' => .inr (by simp [blk] at hb'; omega)⟩
        intro b' h1 h2
        rw [AH.get_new_lt _ _ (by rw [e1]; exact h1)]
        exact e4 b' h1 (by intro e; subst e; simp [blk] at h2)
      have pre : app sz bytes (slc b 0 rows.length c) x H = (match f with
          | none => some (mkSlc (rows.length + new.length) (rows.length + new.length) H.next, H.new (.cells (rows.flatten ++ new.flatten) (some sz)))
          | some e => if e = sz then some (mkSlc (rows.length + new.length) (rows.length + new.length) H.next, (H.put b .dead).new (.cells (rows.flatten ++ new.flatten) (some sz))) else none) := by
        simp only [AM.app, lenO_rows hx, hnew, Option.bind_some, hpn, Bool.not_true, Bool.false_eq_true, if_false]
        rw [if_neg hcap, if_neg (by omega), hold]
        simp only [Option.bind_some, hpo, Bool.not_true, Bool.false_eq_true, if_false, g3]
        cases f <;> rfl
      rcases g7 with rfl | ⟨rfl, _⟩
      · exact hfin H rfl pre h0 fun _ _ _ => rfl
      · refine hfin (H.put b .dead) rfl (by rw [pre]; simp) (h0.put g1 _) fun b' h1 h2 => AH.get_put_ne _ _ (Ne.symm h2)
end
end Go.AM
end
section
namespace Go.AM
def str (l : List UInt8) : Value := .string ⟨l.toArray⟩
theorem str_def (l : List UInt8) : str l = .string ⟨l.toArray⟩ := rfl
@[simp] theorem str_lit (l : List UInt8) : (.string ⟨l.toArray⟩ : Value) = str l := rfl
theorem str_of (s : ByteArray) : (.string s : Value) = str s.data.toList := by simp [str_def]
@[simp] theorem str_inj (a b : List UInt8) : str a = str b ↔ a = b := by
  simp only [str_def, Value.string.injEq, ByteArray.mk.injEq]
  exact ⟨fun h => by simpa using congrArg Array.toList h, fun h => by rw [h]⟩
@[simp] theorem defd_str (l : List UInt8) : defd (str l) = true := rfl
@[simp] theorem plain1_str (l : List UInt8) : plain1 (str l) = true := rfl
@[simp] theorem vcells_str (l : List UInt8) : vcells (str l) = [str l] := rfl
@[simp] theorem cells_str (l : List UInt8) : (str l).cells = #[str l] := rfl
theorem toList_mk (l : List UInt8) : (⟨l.toArray⟩ : ByteArray).toList = l := by rw [ByteArray.toList_eq]
@[simp] theorem size_mk (l : List UInt8) : (⟨l.toArray⟩ : ByteArray).size = l.length := by simp [ByteArray.size]
@[simp] theorem lenStr_s (l : List UInt8) : lenStr (str l) = some (vi l.length) := by simp only [str_def, lenStr, size_mk]
@[simp] theorem binStr_eql (a b : List UInt8) : binStr .eql (str a) (str b) = some (.bool (decide (a = b))) := by
  simp only [str_def, binStr, toList_mk]; congr 2; rw [Bool.eq_iff_iff]; simp
@[simp] theorem binStr_neq (a b : List UInt8) : binStr .neq (str a) (str b) = some (.bool (decide (a ≠ b))) := by
  simp only [str_def, binStr, toList_mk]; congr 2; rw [Bool.eq_iff_iff]; simp
@[simp] theorem binStr_lss (a b : List UInt8) : binStr .lss (str a) (str b) = some (.bool (Op.bytesLess a b)) := by simp only [str_def, binStr, toList_mk]
theorem binStr_add (a b : List UInt8) (h : a.length + b.length < 2 ^ 63) : binStr .add (str a) (str b) = some (str (a ++ b)) := by
  simp only [str_def, binStr, size_mk]
  rw [if_pos h]
  congr 2
@[simp] theorem same_str (x y : List UInt8) : sameCell 1 (str x) (str y) = some (decide (x = y)) := by
  simp only [str_def, sameCell]; congr 1; rw [Bool.eq_iff_iff]
  show (x.toArray == y.toArray) = true ↔ _
  simp
@[simp] theorem same_bool (x y : Bool) : sameCell 2 (.bool x) (.bool y) = some (decide (x = y)) := by
  simp only [sameCell]; congr 1
@[simp] theorem same_i64 (x y : Int) : sameCell 0 (vi x) (vi y) = some (decide (x = y)) := by
  simp only [sameCell, if_true]; congr 1
theorem ixStr_s (l : List UInt8) (i : Nat) (h : i < l.length) : ixStr (str l) (vi i) = some (u8 l[i].toBitVec) := by
  simp only [str_def, ixStr]
  rw [if_pos (by omega)]
  simp only [Int.toNat_natCast]
  rw [getElem?_pos _ _ (by simpa using h)]
  rfl
@[simp] theorem byteOfV_u8 (x : BitVec 8) : byteOfV (u8 x) = some (UInt8.ofBitVec x) := by
  simp only [u8_def, byteOfV, Int.toNat_natCast]
  congr 1
  apply UInt8.toBitVec_inj.1
  simp
theorem mapM_bytes (l : List (BitVec 8)) : (l.map u8).mapM byteOfV = some (l.map UInt8.ofBitVec) := by
  induction l with
  | nil => rfl
  | cons x l ih => simp [List.mapM_cons, ih]
theorem strOf_vals {H : AH} {v : Value} {l : List (BitVec 8)} (h : Vals H v (l.map u8)) : strOf v H = some (str (l.map UInt8.ofBitVec)) := by
  rcases h.at_ with ⟨hn, c, rfl⟩ | ⟨b, o, c, rfl, _, _, h4⟩
  · simp at hn; subst hn
    cases c <;> rfl
  · simp only [List.length_map, Nat.mul_one, flatten_single] at h4
    by_cases hz : l.length = 0
    · have : l = [] := List.eq_nil_of_length_eq_zero hz
      subst this; rfl
    simp only [strOf, Option.isSome_none, Bool.false_eq_true, if_false, List.length_map, hz, h4, Option.bind_some, mapM_bytes, Option.map_some]
    rfl
@[simp] theorem sameCells_nil : sameCells [] [] [] = some true := rfl
@[simp] theorem sameCells_cons (k : Nat) (ks : List Nat) (x y : Value) (xs ys : List Value) : sameCells (k :: ks) (x :: xs) (y :: ys) = (sameCell k x y).bind fun b => (sameCells ks xs ys).map (b && ·) := rfl
@[simp] theorem binAgg_eql (ks : List Nat) (a b : List Value) : binAgg ks .eql (.agg a.toArray) (.agg b.toArray) = (sameCells ks a b).map .bool := by simp [binAgg]
@[simp] theorem binAgg_neq (ks : List Nat) (a b : List Value) : binAgg ks .neq (.agg a.toArray) (.agg b.toArray) = (sameCells ks a b).map fun t => .bool !t := by simp [binAgg]
end Go.AM
end
