/- THE ABSTRACT MACHINE: copy, iterators; all operations that change memory, put together. -/
import Derived.Test.YtjpdppohflailaaAmApp
set_option linter.all false
namespace Go.AM
open Go.RowKit (Below)
section
variable {P : Program} {ρ : Inj} {T : Env} {a : Act} {v : Value} {w0 w : World} {H : AH}

theorem copy_sound (hR : R P ρ w0 H w) {ats : Array TypeId} {args : Array Value} {t ty e size : Nat} {d d' x x' : Value} {H' : AH} (h1 : ats[0]? = some t) (h3 : args[0]? = some d') (h4 : args[1]? = some x')
    (ht : P.underlying t = some (.slice e)) (hsz : sizeO P e = some size) (h : copyM size d x H = some (v, H')) (hd : VRel ρ d d') (hx : VRel ρ x x') :
    ∃ w', H'.next = H.next ∧ R P ρ w0 H' w' ∧ VRel ρ v v ∧ (Builtin.copy_ ats ty args).run P w = .ok v w' := by
  unfold copyM at h
  split at h
  · rename_i base n c
    simp only [Option.bind_eq_some_iff] at h
    obtain ⟨m, hm, new, hnew, h⟩ := h
    have hlen := fun w => lenO_sound (P := P) hm hx w
    obtain ⟨new', hnr, hnrun⟩ := srcRow_sound hR hnew hx (fun k hk => by rw [hm] at hk; simp at hk; subst hk; exact Nat.min_le_left _ _)
    have hnl := srcRow_len hnew (fun k hk => by rw [hm] at hk; simp at hk; subst hk; exact Nat.min_le_left _ _)
    split at h
    · simp at h
    · rename_i hpl
      have hpl : new.all plain1 = true := by simpa using hpl
      cases base with
      | none =>
        simp only [Option.some.injEq, Prod.mk.injEq] at h
        obtain ⟨rfl, rfl⟩ := h
        cases hd with
        | snil =>
          refine ⟨w, rfl, hR, .int _ _, ?_⟩
          simp only [Builtin.copy_, h1, h3, h4, Sem.run_bind, run_underlying' ht, Result.andThen_ok, hlen, run_sizeOf' hsz, hnrun]
          rfl
      | some A =>
        simp only at h
        split at h
        · simp at h
        · rename_i hsp
          have hsp : A.spot = none := by simpa using hsp
          cases hd with
          | slc _ A' _ _ c' r =>
            have run : ∀ w', (storeCells A' new').run P w = .ok () w' → (Builtin.copy_ ats ty args).run P w = .ok (.int .i64 (Nat.min m n : Nat)) w' := by
              intro w' hst
              simp only [Builtin.copy_, h1, h3, h4, Sem.run_bind, run_underlying' ht, Result.andThen_ok, hlen, run_sizeOf' hsz, hnrun, hst]
              rfl
            split at h
            · rename_i cs fx hg
              rw [Option.ite_none_right_eq_some] at h
              obtain ⟨hfit, h⟩ := h
              simp only [Option.some.injEq, Prod.mk.injEq] at h
              obtain ⟨rfl, rfl⟩ := h
              rcases r with ⟨ra, rc⟩ | hrest
              · obtain ⟨w1, q1, q2⟩ := hR.stored ra hsp hg 0 (by simpa using hfit) hnr hpl
                rw [Nat.add_zero] at q1
                rw [add_zero] at q2
                exact ⟨w1, rfl, q1, .int _ _, run w1 q2⟩
              · have hnc : n = 0 := by rcases hrest with ⟨h1, _⟩ | ⟨h1, _⟩ <;> exact h1
                subst hnc
                have hn0 : new = [] := List.eq_nil_of_length_eq_zero (by rw [hnl]; simp)
                have : new' = [] := List.eq_nil_of_length_eq_zero (by rw [← hnr.1, hn0]; rfl)
                refine ⟨w, rfl, ?_, .int _ _, run w (by rw [this]; rfl)⟩
                rw [hn0, splice_nil, put_same hg (by simp)]; exact hR
            · rename_i f hg
              rw [Option.ite_none_right_eq_some] at h
              obtain ⟨hn0, h⟩ := h
              simp only [Option.some.injEq, Prod.mk.injEq] at h
              obtain ⟨rfl, rfl⟩ := h
              have : new' = [] := List.eq_nil_of_length_eq_zero (by rw [← hnr.1, hn0]; rfl)
              exact ⟨w, rfl, hR, .int _ _, run w (by rw [this]; rfl)⟩
            · simp at h
  · simp at h

theorem rangeS_sound (hR : R P ρ w0 H w) {t : Nat} {x x' : Value} {obj : AObj} {mkv : Nat → Value} (ht : P.underlying t = some .string) (h : rangeS x = some (obj, mkv)) (hx : VRel ρ x x') :
    ∃ ρ' v' w', ρ.le ρ' ∧ (∀ b, b < H.next → ρ'.loc b = ρ.loc b) ∧ R P ρ' w0 (H.new obj) w' ∧ VRel ρ' (mkv H.next) v' ∧ (Instr.range t x').run P w = .ok v' w' := by
  unfold rangeS at h
  split at h
  · rename_i s
    simp only [Option.some.injEq, Prod.mk.injEq] at h
    obtain ⟨rfl, rfl⟩ := h
    obtain rfl := hx.flat rfl
    have hnone : ρ.loc H.next = none := by
      cases hq : ρ.loc H.next with
      | none => rfl
      | some q => have := (hR.own _ _ hq).2.1; omega
    refine ⟨ρ.put H.next ⟨w.heap.size, 0, 0, none⟩, .pointer (some ⟨w.heap.size, 0, none⟩), w.alloc (.stringIter s 0), Inj.le_put hnone, fun b hb => by simp only [Inj.put]; rw [if_neg (by omega)], ?_, ?_, ?_⟩
    · refine (hR.new (.siter s 0)).laid hR.nxt (Nat.lt_succ_self _) hnone ⟨w.heap.size, 0, 0, none⟩ (.stringIter s 0) rfl ?_
      have hgn : (H.new (.siter s 0)).get H.next = .siter s 0 := AH.get_new_self _ _
      rw [hgn]
      exact ⟨rfl, rfl⟩
    · exact mkPtr_rel (l := ⟨w.heap.size, 0, 0, none⟩) hR.nxt (by simp [Inj.put]) rfl
    · simp [Instr.range, underlying, ht]
  · simp at h

theorem nextS_sound (hR : R P ρ w0 H w) {ty : Nat} {x x' : Value} {H' : AH} (h : nextS x H = some (v, H')) (hx : VRel ρ x x') :
    ∃ w', H'.next = H.next ∧ R P ρ w0 H' w' ∧ VRel ρ v v ∧ (Instr.next x' true ty).run P w = .ok v w' := by
  unfold nextS at h
  split at h
  · rename_i r
    split at h
    · rename_i s pos hg
      cases hx with
      | ptr _ A' ra =>
        rcases ra with ⟨hb, rfl⟩ | ⟨hb, _, l, hl, rfl⟩
        · have := hR.ro _ hb
          simp only at this
          rw [hg] at this; exact this.elim
        · have ho := (hR.own _ _ hl).2.2.2.2
          simp only at ho
          rw [hg] at ho
          obtain ⟨hs0, hobj⟩ := ho
          simp only [hs0, Nat.zero_add]
          have hgo : (getObj l.block).run P w = .ok (.stringIter s pos) w := by simp [getObj, Sem.run, hobj]
          split at h
          · rename_i hpos
            simp only [Option.some.injEq, Prod.mk.injEq] at h
            obtain ⟨rfl, rfl⟩ := h
            have hset : (setObj l.block (.stringIter s (pos + (Utf8.decode s pos).2))).run P w = .ok () (World.setBlk w l.block (.stringIter s (pos + (Utf8.decode s pos).2))) := by
              simp [setObj, Sem.run, hobj, World.setBlk]
            refine ⟨_, rfl, hR.wrote hl (by simp only; rw [hg]; simp) (.siter s (pos + (Utf8.decode s pos).2)) (.stringIter s (pos + (Utf8.decode s pos).2)) ⟨hs0, rfl⟩, (LRel.cons (.bool _) (LRel.cons (.int _ _) (LRel.cons (.int _ _) LRel.nil))).tuple, ?_⟩
            simp only [Instr.next, Sem.run_bind, hgo, Result.andThen_ok, hpos, if_true, hset]
            rfl
          · rename_i hpos
            simp only [Option.some.injEq, Prod.mk.injEq] at h
            obtain ⟨rfl, rfl⟩ := h
            refine ⟨w, rfl, hR, (LRel.cons (.bool _) LRel.nil).tuple, ?_⟩
            simp only [Instr.next, Sem.run_bind, hgo, Result.andThen_ok, hpos, if_false]
            rfl
    · simp at h
  · simp at h

/-- What an operation that changes memory, or a call, leaves. -/
def Post (P : Program) (ρ : Inj) (w0 : World) (n : Nat) (K : Value → AH → Prop) (v' : Value) (w' : World) : Prop :=
  ∃ ρ' v H', ρ.le ρ' ∧ (∀ b, b < n → ρ'.loc b = ρ.loc b) ∧ n ≤ H'.next ∧ R P ρ' w0 H' w' ∧ VRel ρ' v v' ∧ K v H'

def Enters (P : Program) (f : FuncId) : Prop := ∃ fn, P.funcs[f]? = some fn ∧ fn.body.isNone = false ∧ (fn.name == "runtime.NumGoroutine") = false

def CallOk (P : Program) (call : CallT) : Prop := ∀ f args H K, call f args H K → Enters P f ∧ ∀ ρ w0 w args', R P ρ w0 H w → LRel ρ args args'.toList →
  Calls P f args' w (fun e w' => ∃ v', e = .returned v' ∧ Post P ρ w0 H.next K v' w')

theorem run_callFunc' {f : FuncId} (h : Enters P f) (args : Array Value) (w : World) : (callFunc f args).run P w = .ok (.enter f args) w := by
  obtain ⟨fn, h1, h2, h3⟩ := h
  unfold callFunc
  simp only [Sem.run_bind, run_program, Result.andThen_ok, h1, h2, h3, Bool.false_eq_true, if_false]
  rfl

/-- What the machine's run of an operation comes to. -/
def Comes' (P : Program) (s : Sem Next) (w : World) (Q : Value → World → Prop) : Prop :=
  (∃ v' w', s.run P w = .ok (.value v') w' ∧ Q v' w') ∨ (∃ w', s.run P w = .ok .skip w' ∧ Q undef w') ∨
  (∃ f args w1, s.run P w = .ok (.enter f args) w1 ∧ Calls P f args w1 (fun e w' => ∃ v', e = .returned v' ∧ Q v' w'))

theorem post_same {K : Value → AH → Prop} {v v' : Value} {H' : AH} {w' : World} (hn : H.next ≤ H'.next) (hR : R P ρ w0 H' w') (hv : VRel ρ v v') (hk : K v H') : Post P ρ w0 H.next K v' w' :=
  ⟨ρ, v, H', ρ.le_refl, fun _ _ => rfl, hn, hR, hv, hk⟩

theorem opt2_inv {α β : Type} {o : Option (α × β)} {K : α → β → Prop} (h : opt2 o K) : ∃ x y, o = some (x, y) ∧ K x y := by
  cases o with
  | none => exact h.elim
  | some p => exact ⟨p.1, p.2, rfl, h⟩
theorem opt_inv {α : Type} {o : Option α} {K : α → Prop} (h : opt o K) : ∃ x, o = some x ∧ K x := by
  cases o with
  | none => exact h.elim
  | some p => exact ⟨p, rfl, h⟩
theorem mk_inv {o : Option (AObj × (Nat → Value))} {K : Value → AH → Prop} (h : mk o H K) : ∃ obj m, o = some (obj, m) ∧ K (m H.next) (H.new obj) := by
  cases o with
  | none => exact h.elim
  | some p => exact ⟨p.1, p.2, rfl, h⟩

theorem put_next (b : Nat) (o : AObj) : (H.put b o).next = H.next := rfl
theorem setMap_next {kd : Nat} {m k x : Value} {H' : AH} (h : setMap kd m k x H = some H') : H'.next = H.next := by
  unfold setMap at h
  split at h
  · split at h
    · simp only [Option.map_eq_some_iff] at h
      obtain ⟨q, _, rfl⟩ := h
      split <;> rfl
    · simp at h
  · simp at h
theorem entryM_next {kd : Nat} {z m k : Value} {H' : AH} (h : entryM kd z m k H = some (v, H')) : H'.next = H.next := by
  unfold entryM at h
  split at h
  · split at h
    · simp only [Option.map_eq_some_iff] at h
      obtain ⟨q, _, h⟩ := h
      cases q with
      | none => simp only [Prod.mk.injEq] at h; rw [← h.2]; rfl
      | some p => obtain ⟨i, u⟩ := p; simp only [Prod.mk.injEq] at h; rw [← h.2]; rfl
    · simp at h
  · simp at h
theorem entrySt_next {m s x : Value} {H' : AH} (h : entrySt m s x H = some H') : H'.next = H.next := by
  unfold entrySt at h
  split at h
  · split at h
    · simp only [Option.map_eq_some_iff] at h
      obtain ⟨q, _, rfl⟩ := h
      rfl
    · simp at h
  · simp at h
theorem delMap_next {kd : Nat} {m k : Value} {H' : AH} (h : delMap kd m k H = some H') : H'.next = H.next := by
  unfold delMap at h
  split at h
  · simp only [Option.some.injEq] at h; rw [← h]
  · split at h
    · simp only [Option.map_eq_some_iff] at h
      obtain ⟨q, _, rfl⟩ := h
      split <;> rfl
    · simp at h
  · simp at h
theorem store1_next {p x : Value} {H' : AH} (h : store1 p x H = some H') : H'.next = H.next := by
  unfold store1 at h
  split at h
  · split at h
    · simp at h
    · split at h
      · rw [Option.ite_none_right_eq_some] at h
        obtain ⟨_, h⟩ := h
        simp only [Option.some.injEq] at h; rw [← h]; rfl
      · simp at h
  · simp at h
theorem storeN_next {n : Nat} {p x : Value} {H' : AH} (h : storeN n p x H = some H') : H'.next = H.next := by
  unfold storeN at h
  split at h
  · split at h
    · simp at h
    · split at h
      · rw [Option.ite_none_right_eq_some] at h
        obtain ⟨_, h⟩ := h
        simp only [Option.some.injEq] at h; rw [← h]; rfl
      · simp at h
  · simp at h

theorem callV_sound {call : CallT} (hcall : CallOk P call) (hR : R P ρ w0 H w) {f f' : Value} {args : List Value} {args' : Array Value} {K : Value → AH → Prop} (h : callV call f args H K) (hf : VRel ρ f f') (ha : LRel ρ args args'.toList) :
    ∃ d g as, (Deferred.ofValue f' args').run P w = .ok d w ∧ (invoke d.target d.args).run P w = .ok (.enter g as) w ∧ Calls P g as w (fun e w' => ∃ v', e = .returned v' ∧ Post P ρ w0 H.next K v' w') := by
  unfold callV at h
  split at h
  · rename_i g first cap
    cases hf with
    | func _ f1 f1' c1 c1' e1 r1 e2 r2 =>
      obtain ⟨he, hc⟩ := hcall _ _ _ _ h
      refine ⟨_, g, ⟨f1'⟩ ++ args' ++ ⟨c1'⟩, rfl, ?_, hc ρ w0 w _ hR ?_⟩
      · show (callFunc g (⟨f1'⟩ ++ args' ++ ⟨c1'⟩)).run P w = _
        exact run_callFunc' he _ w
      · simp only [Array.toList_append]
        exact (LRel.append (LRel.append ⟨e1, r1⟩ ha) ⟨e2, r2⟩)
  · exact h.elim

theorem evM_sound {call : CallT} (hcall : CallOk P call) (hR : R P ρ w0 H w) (hT : TRel ρ T a) {o : Oper} (hok : ∀ x ∈ o.op.operands.toList, opOk P x = true) (hty : opTyOk P o.op = true) {K : Value → AH → Prop} (h : evM P call T o.op H K) :
    Comes' P (execOp a.eval o) w (Post P ρ w0 H.next K) := by
  have hg := hR.glob
  have val : ∀ {s : Sem Value}, execOp a.eval o = (do pure (.value (← s)) : Sem Next) → (∃ v' w', s.run P w = .ok v' w' ∧ Post P ρ w0 H.next K v' w') → Comes' P (execOp a.eval o) w (Post P ρ w0 H.next K) := by
    rintro s hs ⟨v', w', h1, h2⟩
    exact .inl ⟨v', w', by rw [hs]; simp [h1], h2⟩
  have unit : ∀ {s : Sem Unit}, execOp a.eval o = (do s; pure .skip : Sem Next) → (∃ w', s.run P w = .ok () w' ∧ Post P ρ w0 H.next K undef w') → Comes' P (execOp a.eval o) w (Post P ρ w0 H.next K) := by
    rintro s hs ⟨w', h1, h2⟩
    exact .inr (.inl ⟨w', by rw [hs]; simp [h1], h2⟩)
  cases hop : o.op with
  | store t p x =>
    rw [hop] at h hok
    simp only [evM] at h
    have hp := ev_rel hg hT (hok p (by simp [Op.operands]))
    have hx := ev_rel hg hT (hok x (by simp [Op.operands]))
    split at h
    · rename_i n h1 h2
      obtain ⟨H', hs, hk⟩ := opt_inv h
      obtain ⟨w', r1, r2⟩ := storeN_sound hR h2 hs hp hx
      exact unit (by simp only [execOp, hop]) ⟨w', r2, post_same (by rw [storeN_next hs]; exact Nat.le_refl _) r1 (.any _) hk⟩
    · rename_i h1 h2
      obtain ⟨H', hs, hk⟩ := opt_inv h
      obtain ⟨w', r1, r2⟩ := store1_sound hR h2 hs hp hx
      exact unit (by simp only [execOp, hop]) ⟨w', r2, post_same (by rw [store1_next hs]; exact Nat.le_refl _) r1 (.any _) hk⟩
    · exact h.elim
  | mapUpdate t m k x =>
    rw [hop] at h hok
    simp only [evM] at h
    have hm := ev_rel hg hT (hok m (by simp [Op.operands]))
    have hk := ev_rel hg hT (hok k (by simp [Op.operands]))
    have hx := ev_rel hg hT (hok x (by simp [Op.operands]))
    split at h
    · rename_i kt e ht
      split at h
      · rename_i kd hkd
        obtain ⟨H', hs, hk'⟩ := opt_inv h
        obtain ⟨w', r1, r2⟩ := setMap_sound hR ht hkd hs hm hk hx
        exact unit (by simp only [execOp, hop]) ⟨w', r2, post_same (by rw [setMap_next hs]; exact Nat.le_refl _) r1 (.any _) hk'⟩
      · exact h.elim
    · exact h.elim
  | insert t m k x =>
    rw [hop] at h hok
    simp only [evM] at h
    have hm := ev_rel hg hT (hok m (by simp [Op.operands]))
    have hk := ev_rel hg hT (hok k (by simp [Op.operands]))
    have hx := ev_rel hg hT (hok x (by simp [Op.operands]))
    split at h
    · rename_i kt e ht
      split at h
      · rename_i kd hkd
        obtain ⟨H', hs, hk'⟩ := opt_inv h
        obtain ⟨w', r1, r2⟩ := setMap_sound hR ht hkd hs hm hk hx
        exact unit (by simp only [execOp, hop]) ⟨w', r2, post_same (by rw [setMap_next hs]; exact Nat.le_refl _) r1 (.any _) hk'⟩
      · exact h.elim
    · exact h.elim
  | mapEntry t m k =>
    rw [hop] at h hok hty
    simp only [evM] at h
    have hm := ev_rel hg hT (hok m (by simp [Op.operands]))
    have hk := ev_rel hg hT (hok k (by simp [Op.operands]))
    split at h
    · rename_i kt e ht
      split at h
      · rename_i kd z hkd hz
        obtain ⟨v, H', hs, hk'⟩ := opt2_inv h
        have hlz : litV z = true := by simp [opTyOk, ht, hz] at hty; exact hty.2
        obtain ⟨v', w', r1, r2, r3⟩ := entryM_sound hR ht hkd hz hlz hs hm hk
        exact val (by simp only [execOp, hop]) ⟨v', w', r3, post_same (by rw [entryM_next hs]; exact Nat.le_refl _) r1 r2 hk'⟩
      · exact h.elim
    · exact h.elim
  | entryStore t m s x =>
    rw [hop] at h hok
    simp only [evM] at h
    have hm := ev_rel hg hT (hok m (by simp [Op.operands]))
    have hs' := ev_rel hg hT (hok s (by simp [Op.operands]))
    have hx := ev_rel hg hT (hok x (by simp [Op.operands]))
    obtain ⟨H', hs, hk'⟩ := opt_inv h
    obtain ⟨w', r1, r2⟩ := entrySt_sound (t := t) hR hs hm hs' hx
    exact unit (by simp only [execOp, hop]) ⟨w', r2, post_same (by rw [entrySt_next hs]; exact Nat.le_refl _) r1 (.any _) hk'⟩
  | range t x =>
    rw [hop] at h hok
    simp only [evM] at h
    have hx := ev_rel hg hT (hok x (by simp [Op.operands]))
    split at h
    · rename_i ht
      obtain ⟨obj, m, hm, hk'⟩ := mk_inv h
      obtain ⟨ρ', v', w', r1, r2, r3, r4, r5⟩ := rangeS_sound hR ht hm hx
      exact val (by simp only [execOp, hop]) ⟨v', w', r5, ρ', _, _, r1, r2, Nat.le_succ _, r3, r4, hk'⟩
    · exact h.elim
  | next it b =>
    rw [hop] at h hok
    have hx := ev_rel hg hT (hok it (by simp [Op.operands]))
    cases b with
    | true =>
      simp only [evM] at h
      obtain ⟨v, H', hs, hk'⟩ := opt2_inv h
      obtain ⟨w', r0, r1, r2, r3⟩ := nextS_sound (ty := o.type) hR hs hx
      exact val (by simp only [execOp, hop]) ⟨v, w', r3, post_same (by rw [r0]; exact Nat.le_refl _) r1 r2 hk'⟩
    | false => simp [evM] at h
  | call c =>
    rw [hop] at h hok hty
    simp only [evM, evCallM] at h
    have hargs := args_rel hg hT c.args.toList (fun x hx => hok x (by simp only [Op.operands, Call.operands, Array.toList_append, List.mem_append]; exact .inr hx))
    have hargs' : LRel ρ (c.args.toList.map (ev T)) (c.args.map a.eval).toList := by rw [Array.toList_map]; exact hargs
    have hat : ∀ (i : Nat) x, c.args[i]? = some x → VRel ρ (ev T x) (a.eval x) ∧ (c.args.map a.eval)[i]? = some (a.eval x) := fun i x hx =>
      ⟨ev_rel hg hT (hok x (by simp only [Op.operands, Call.operands, Array.toList_append, List.mem_append]; exact .inr (List.mem_of_getElem? (i := i) (by simpa using hx)))), by simp [hx]⟩
    split at h
    · rename_i g hc
      obtain ⟨he, hcl⟩ := hcall _ _ _ _ h
      refine .inr (.inr ⟨g, c.args.map a.eval, w, ?_, hcl ρ w0 w _ hR hargs'⟩)
      simp only [execOp, hop, resolve, hc, Act.eval, Deferred.ofValue, Sem.run_bind, Sem.run_pure, Result.andThen_ok, invoke]
      have := run_callFunc' he (c.args.map a.eval) w
      simpa using this
    · rename_i f hnf hc
      have hf := ev_rel hg hT (hok f (by simp only [Op.operands, Call.operands, hc, Array.toList_append, List.mem_append]; exact .inl (by simp)))
      obtain ⟨d, g, as, h1, h2, h3⟩ := callV_sound hcall hR h hf hargs'
      refine .inr (.inr ⟨g, as, w, ?_, h3⟩)
      simp only [execOp, hop, resolve, hc, Sem.run_bind, h1, Result.andThen_ok]
      exact h2
    · rename_i hc
      have app_case : ∀ (s x : Operand) (e : Nat) (d2 : TypeDesc) (t t2 : Nat), c.args[0]? = some s → c.args[1]? = some x → c.argTypes[0]? = some t → P.underlying t = some (.slice e) → c.argTypes[1]? = some t2 → P.underlying t2 = some d2 →
          (d2 = .string ∨ ∃ q, d2 = .slice q) → (match sizeO P e, bytesO' P e, zeroOf P e with
            | some z, some b, some zv => match zv.cells.size == z with
              | true => opt2 (app z b (ev T s) (ev T x) H) K
              | false => False
            | _, _, _ => False) → Comes' P (execOp a.eval o) w (Post P ρ w0 H.next K) := by
        intro s x e d2 t t2 hs hx ht1 ht2 ht3 ht4 hd h
        split at h
        · rename_i z b zv hz hb hzv
          split at h
          · rename_i hzz
            obtain ⟨v, H', hap, hk'⟩ := opt2_inv h
            obtain ⟨ρ', v', w', r1, r2, r3, r4, r5, r6⟩ := app_sound (ty := o.type) hR ht1 ht3 (hat 0 s hs).2 (hat 1 x hx).2 ht2 ht4 hd hz hb hzv (eq_of_beq hzz) hap (hat 0 s hs).1 (hat 1 x hx).1
            exact .inl ⟨v', w', by simp [execOp, hop, resolve, hc, invoke, builtin, r6], ρ', v, H', r1, r2, r3, r4, r5, hk'⟩
          · exact h.elim
        · exact h.elim
      split at h
      · rename_i s x e q hs hx hu1 hu2
        simp only [Option.bind_eq_some_iff] at hu1 hu2
        obtain ⟨t, h1, h2⟩ := hu1
        obtain ⟨t2, h3, h4⟩ := hu2
        exact app_case s x e _ t t2 hs hx h1 h2 h3 h4 (.inr ⟨_, rfl⟩) h
      · rename_i s x e hs hx hu1 hu2
        simp only [Option.bind_eq_some_iff] at hu1 hu2
        obtain ⟨t, h1, h2⟩ := hu1
        obtain ⟨t2, h3, h4⟩ := hu2
        exact app_case s x e _ t t2 hs hx h1 h2 h3 h4 (.inl rfl) h
      · exact h.elim
    · rename_i hc
      split at h
      · rename_i d x e hd hx hu1
        simp only [Option.bind_eq_some_iff] at hu1
        obtain ⟨t, h1, h2⟩ := hu1
        split at h
        · rename_i z hz
          obtain ⟨v, H', hcp, hk'⟩ := opt2_inv h
          obtain ⟨w', r0, r1, r2, r3⟩ := copy_sound (ty := o.type) hR h1 (hat 0 d hd).2 (hat 1 x hx).2 h2 hz hcp (hat 0 d hd).1 (hat 1 x hx).1
          exact .inl ⟨v, w', by simp [execOp, hop, resolve, hc, invoke, builtin, r3], post_same (by rw [r0]; exact Nat.le_refl _) r1 r2 hk'⟩
        · exact h.elim
      · exact h.elim
    · rename_i hc
      split at h
      · rename_i m k kt e hm hk hu1
        simp only [Option.bind_eq_some_iff] at hu1
        obtain ⟨t, h1, h2⟩ := hu1
        split at h
        · rename_i kd hkd
          obtain ⟨H', hdl, hk'⟩ := opt_inv h
          obtain ⟨w', r1, r2⟩ := delMap_sound (ty := o.type) hR h1 (hat 0 m hm).2 (hat 1 k hk).2 h2 hkd hdl (hat 0 m hm).1 (hat 1 k hk).1
          exact .inl ⟨.tuple #[], w', by simp [execOp, hop, resolve, hc, invoke, builtin, r2], post_same (by rw [delMap_next hdl]; exact Nat.le_refl _) r1 (.any _) hk'⟩
        · exact h.elim
      · exact h.elim
    · exact h.elim
  | _ => rw [hop] at h; simp [evM] at h
end
end Go.AM
