/- THE ABSTRACT MACHINE: operations that touch no memory: one theorem of all of them. -/
import Derived.Test.YtjpdppohflailaaAmEvP
set_option linter.all false
namespace Go.AM
section
variable {P : Program} {ρ : Inj} {T : Env} {a : Act} {v : Value}

theorem binAgg_sound {op : BinOp} {t : TypeId} {ks : List Nat} {X Y : Operand} {x x' y y' : Value} (hk : flatN P 20 t = some ks) (hg : P.eqGuardType P.depth t = false) (ha : aggO P t = some true)
    (h : binAgg ks op x y = some v) (hx : VRel ρ x x') (hy : VRel ρ y y') : VRel ρ v v ∧ ∀ w, (do eqGuard op t X Y x' y'; binOp op t x' y' : Sem Value).run P w = .ok v w := by
  have hflat : ∀ (ks : List Nat) (l l' : List Value), LRel ρ l l' → ∀ m c, sameCells ks l m = some c ∨ sameCells ks m l = some c → l' = l := by
    intro ks
    induction ks with
    | nil =>
      intro l l' hl m c h
      cases l with
      | nil => exact hl.cases_nil
      | cons x l => rcases h with h | h <;> cases m <;> simp [sameCells] at h
    | cons k ks ih =>
      intro l l' hl m c h
      cases l with
      | nil => rcases h with h | h <;> cases m <;> simp [sameCells] at h
      | cons z l =>
        obtain ⟨z', l2, rfl, hz, hl2⟩ := hl.cases_cons
        cases m with
        | nil => rcases h with h | h <;> simp [sameCells] at h
        | cons u m =>
          have hzf : flat z = true ∧ ∃ c, sameCells ks l m = some c ∨ sameCells ks m l = some c := by
            rcases h with h | h
            · simp only [sameCells, Option.bind_eq_some_iff, Option.map_eq_some_iff] at h
              obtain ⟨c1, h1, c2, h2, _⟩ := h
              refine ⟨?_, c2, .inl h2⟩
              unfold sameCell at h1
              split at h1 <;> first | rfl | simp at h1
            · simp only [sameCells, Option.bind_eq_some_iff, Option.map_eq_some_iff] at h
              obtain ⟨c1, h1, c2, h2, _⟩ := h
              refine ⟨?_, c2, .inr h2⟩
              unfold sameCell at h1
              split at h1 <;> first | rfl | simp at h1
          obtain ⟨hf, c2, h2⟩ := hzf
          obtain rfl := hz.flat hf
          rw [ih l l2 hl2 m c2 h2]
  have he := (flatN_ok 20 t 10000 ks hk (by omega)).1
  unfold binAgg at h
  split at h
  · rename_i xs ys
    obtain ⟨xs', rfl, rx⟩ := hx.agg_inv
    obtain ⟨ys', rfl, ry⟩ := hy.agg_inv
    simp only [Option.map_eq_some_iff] at h
    obtain ⟨b, hb, rfl⟩ := h
    have e1 : xs' = xs := Array.ext' (hflat _ _ _ rx _ _ (.inl hb))
    have e2 : ys' = ys := Array.ext' (hflat _ _ _ ry _ _ (.inr hb))
    subst e1; subst e2
    refine ⟨.bool _, fun w => ?_⟩
    have hr := he _ _ b hb w
    rw [wrap_agg ha, wrap_agg ha] at hr
    show (Sem.bind _ _).run P w = _
    rw [Sem.run_bind', run_eqGuard_agg w _ _ _ _ _ _ hg]
    simp only [Result.andThen_ok]
    rw [run_eql_struct]
    rw [hr]; rfl
  · rename_i xs ys
    obtain ⟨xs', rfl, rx⟩ := hx.agg_inv
    obtain ⟨ys', rfl, ry⟩ := hy.agg_inv
    simp only [Option.map_eq_some_iff] at h
    obtain ⟨b, hb, rfl⟩ := h
    have e1 : xs' = xs := Array.ext' (hflat _ _ _ rx _ _ (.inl hb))
    have e2 : ys' = ys := Array.ext' (hflat _ _ _ ry _ _ (.inr hb))
    subst e1; subst e2
    refine ⟨.bool _, fun w => ?_⟩
    have hr := he _ _ b hb w
    rw [wrap_agg ha, wrap_agg ha] at hr
    show (Sem.bind _ _).run P w = _
    rw [Sem.run_bind', run_eqGuard_agg w _ _ _ _ _ _ hg]
    simp only [Result.andThen_ok]
    rw [run_neq_struct]
    rw [hr]; rfl
  · simp at h

theorem opt_rel {lo : Option Operand} (hg : P.globals.size ≤ ρ.base) (hT : TRel ρ T a) (h : ∀ x ∈ lo.toList, opOk P x = true) : ORelV ρ (lo.map (ev T)) (lo.map a.eval) := by
  cases lo with
  | none => exact ⟨by simp, by simp⟩
  | some x => exact ⟨fun z hz => ⟨a.eval x, rfl, by simp at hz; subst hz; exact ev_rel hg hT (h x (by simp))⟩, by simp⟩

theorem args_rel (hg : P.globals.size ≤ ρ.base) (hT : TRel ρ T a) : ∀ (l : List Operand), (∀ x ∈ l, opOk P x = true) → LRel ρ (l.map (ev T)) (l.map a.eval)
  | [], _ => LRel.nil
  | x :: l, h => LRel.cons (ev_rel hg hT (h x (by simp))) (args_rel hg hT l fun y hy => h y (by simp [hy]))

theorem build_places {fs : List Field} {places : List (Nat × Nat)} (h : fs.mapM (fun f => (sizeO P f.type).map fun s => (f.offset, s)) = some places) (w : World) :
    ((fs.mapM fun f => do pure (f.offset, ← sizeOf f.type) : Sem (List (Nat × Nat)))).run P w = .ok places w := by
  induction fs generalizing places with
  | nil => simp at h; subst h; rfl
  | cons f fs ih =>
    simp only [List.mapM_cons, Option.bind_eq_bind, Option.bind_eq_some_iff, Option.pure_def, Option.some.injEq, Option.map_eq_some_iff] at h
    obtain ⟨p, ⟨s, hs, rfl⟩, ps, h2, rfl⟩ := h
    simp only [List.mapM_cons, Sem.run_bind, run_sizeOf' hs, Result.andThen_ok, Sem.run_pure, ih h2]

theorem parts_rel (hg : P.globals.size ≤ ρ.base) (hT : TRel ρ T a) {parts : Array (Nat × Operand)} (hok : ∀ p ∈ parts.toList, opOk P p.2 = true) (hd : (parts.toList.map fun p => (p.1, ev T p.2)).all (fun p => defd p.2) = true) :
    ∀ (i : Nat) (p p' : Nat × Value), (parts.toList.map fun p => (p.1, ev T p.2))[i]? = some p → ((parts.map fun (i, x) => (i, a.eval x)).toList)[i]? = some p' → p'.1 = p.1 ∧ VRel ρ p.2 p'.2 ∧ p.2 ≠ undef := by
  intro i p p' hp hp'
  have hdp := List.all_eq_true.1 hd p (List.mem_of_getElem? hp)
  simp only [Array.toList_map, List.getElem?_map, Option.map_eq_some_iff] at hp hp'
  obtain ⟨q, hq, rfl⟩ := hp
  obtain ⟨q', hq', rfl⟩ := hp'
  rw [hq] at hq'; simp only [Option.some.injEq] at hq'; subst hq'
  refine ⟨rfl, ev_rel hg hT (hok q (List.mem_of_getElem? hq)), fun e => ?_⟩
  rw [e] at hdp; simp [defd, undef] at hdp

/-- Zero values hold no addresses. -/
def zeroOk (P : Program) (t : TypeId) : Bool := match zeroOf P t with | some z => z.cells.toList.all lit1 | none => true

/-- What is asked of an operation by its text alone. -/
def opTyOk (P : Program) : Op → Bool
  | .build t _ => zeroOk P t
  | .alloc t => zeroOk P t
  | .buildSlice t _ _ => match P.underlying t with | some (.slice e) => zeroOk P e | _ => true
  | .makeSlice t _ _ => match P.underlying t with | some (.slice e) => zeroOk P e | _ => true
  | .lookup t _ _ _ => match P.underlying t with | some (.map _ e) => zeroOk P e && (match zeroOf P e with | some z => litV z | none => true) | _ => true
  | .mapEntry t _ _ => match P.underlying t with | some (.map _ e) => zeroOk P e && (match zeroOf P e with | some z => litV z | none => true) | _ => true
  | .call c => match c.callee, (c.argTypes[0]?).bind P.underlying with | .builtin .append, some (.slice e) => zeroOk P e | _, _ => true
  | _ => true

theorem evP_sound (hg : P.globals.size ≤ ρ.base) (hT : TRel ρ T a) {o : Oper} (hok : ∀ x ∈ o.op.operands.toList, opOk P x = true) (hty : opTyOk P o.op = true) (h : evP P T o.op = some v) :
    ∃ v', VRel ρ v v' ∧ ∀ w, (execOp a.eval o).run P w = .ok (.value v') w := by
  have lift : ∀ {s : Sem Value} {v' : Value}, VRel ρ v v' → execOp a.eval o = (do pure (.value (← s)) : Sem Next) → Gives P s v' → ∃ v', VRel ρ v v' ∧ ∀ w, (execOp a.eval o).run P w = .ok (.value v') w :=
    fun hr hs hgv => ⟨_, hr, exec_gives hs hgv⟩
  cases hop : o.op with
  | pick c x y =>
    rw [hop] at h hok
    simp only [evP] at h
    obtain ⟨v', hr, hgv⟩ := pick_sound (P := P) h (ev_rel hg hT (hok c (by simp [Op.operands]))) (ev_rel hg hT (hok x (by simp [Op.operands]))) (ev_rel hg hT (hok y (by simp [Op.operands])))
    refine ⟨v', hr, fun w => ?_⟩
    have := hgv w
    simp only [execOp, hop]
    simp at this ⊢
    revert this
    generalize (asBool (a.eval c)).run P w = r
    cases r <;> simp
  | nilCheck x =>
    rw [hop] at h hok
    simp only [evP] at h
    have hx := ev_rel hg hT (hok x (by simp [Op.operands]))
    obtain ⟨x', hx'⟩ : ∃ x', a.eval x = x' := ⟨_, rfl⟩
    rw [hx'] at hx
    unfold nilCk at h
    split at h
    · rename_i b hb
      rw [hb] at hx
      cases hx with
      | ptr _ a' r => simp only [Option.some.injEq] at h; subst h; exact ⟨_, .ptr _ _ r, fun w => by simp [execOp, hop, hx']⟩
    · rename_i f c d hb
      rw [hb] at hx
      cases hx with
      | func fn f f' c c' hf h1 hc h2 => simp only [Option.some.injEq] at h; subst h; exact ⟨_, .func _ f f' c c' hf h1 hc h2, fun w => by simp [execOp, hop, hx']⟩
    · rename_i t u hb
      rw [hb] at hx
      cases hx with
      | iface t u u' r => simp only [Option.some.injEq] at h; subst h; exact ⟨_, .iface _ _ _ r, fun w => by simp [execOp, hop, hx']⟩
    · simp at h
  | binOp op t x y ty =>
    rw [hop] at h hok
    simp only [evP] at h
    have hx := ev_rel hg hT (hok x (by simp [Op.operands]))
    have hy := ev_rel hg hT (hok y (by simp [Op.operands]))
    have fin : (VRel ρ v v ∧ ∀ w, (do eqGuard op t x y (a.eval x) (a.eval y); binOp op t (a.eval x) (a.eval y) : Sem Value).run P w = .ok v w) → ∃ v', VRel ρ v v' ∧ ∀ w, (execOp a.eval o).run P w = .ok (.value v') w :=
      fun ⟨h1, h2⟩ => lift h1 (by simp only [execOp, hop]) h2
    split at h
    · exact fin (binInt_sound h hx hy)
    · exact fin (binStr_sound h hx hy)
    · rename_i ht; exact fin (binBool_sound ht h hx hy)
    · rename_i ht; exact fin (binPtr_sound ht h hx hy)
    · rename_i ht; exact fin (binSlc_sound ht h hx hy)
    · rename_i ht; exact fin (binMap_sound ht h hx hy)
    · rename_i ht; exact fin (binFn_sound ht h hx hy)
    · rename_i ht
      split at h
      · rename_i ks hk he; exact fin (binAgg_sound hk he (by simp [aggO, ht]) h hx hy)
      · simp at h
    · rename_i ht
      split at h
      · rename_i ks hk he; exact fin (binAgg_sound hk he (by simp [aggO, ht]) h hx hy)
      · simp at h
    · simp at h
  | unOp op t x =>
    rw [hop] at h hok
    simp only [evP] at h
    obtain ⟨hr, hgv⟩ := un_sound (P := P) h (ev_rel hg hT (hok x (by simp [Op.operands])))
    exact lift hr (by simp only [execOp, hop]) hgv
  | convert s d x =>
    rw [hop] at h hok
    simp only [evP] at h
    have hx := ev_rel hg hT (hok x (by simp [Op.operands]))
    split at h
    · rename_i h1 h2
      obtain ⟨hr, hgv⟩ := convInt_sound h1 h2 h hx
      exact lift hr (by simp only [execOp, hop]) hgv
    · rename_i h1 h2
      obtain ⟨hr, hgv⟩ := convRune_sound h1 h2 h hx
      exact lift hr (by simp only [execOp, hop]) hgv
    · rename_i h1 h2
      obtain ⟨hr, hgv⟩ := convStr_sound h1 h2 h hx
      exact lift hr (by simp only [execOp, hop]) hgv
    · simp at h
  | fieldAddr s x f =>
    rw [hop] at h hok
    simp only [evP] at h
    have hx := ev_rel hg hT (hok x (by simp [Op.operands]))
    split at h
    · rename_i fs hs
      split at h
      · rename_i fd hf
        split at h
        · rename_i n hn
          obtain ⟨v', hr, hgv⟩ := fieldAt_sound hs hf hn h hx
          exact lift hr (by simp only [execOp, hop]) hgv
        · simp at h
      · simp at h
    · simp at h
  | field t x f =>
    rw [hop] at h hok
    simp only [evP] at h
    have hx := ev_rel hg hT (hok x (by simp [Op.operands]))
    split at h
    · rename_i fs hs
      split at h
      · rename_i fd hf
        split at h
        · rename_i n h1 h2
          obtain ⟨cs, v', hc, hr, hgv⟩ := partN_sound h1 h2 h hx
          refine lift (s := Instr.field t (a.eval x) f) hr (by simp only [execOp, hop]) (fun w => ?_)
          simp [Instr.field, underlying, hs, hf, hc, asAgg, hgv w]
        · rename_i n h1 h2
          obtain ⟨cs, v', hc, hr, hgv⟩ := part1_sound h1 h2 h hx
          refine lift (s := Instr.field t (a.eval x) f) hr (by simp only [execOp, hop]) (fun w => ?_)
          simp [Instr.field, underlying, hs, hf, hc, asAgg, hgv w]
        · simp at h
      · simp at h
    · simp at h
  | indexAddr t x i =>
    rw [hop] at h hok
    simp only [evP] at h
    have hx := ev_rel hg hT (hok x (by simp [Op.operands]))
    have hi := ev_rel hg hT (hok i (by simp [Op.operands]))
    split at h
    · rename_i ht
      split at h
      · rename_i s hs
        obtain ⟨v', hr, hgv⟩ := indexAt_arr_sound ht hs h hx hi
        exact lift hr (by simp only [execOp, hop]) hgv
      · simp at h
    · rename_i ht
      split at h
      · rename_i s hs
        obtain ⟨v', hr, hgv⟩ := indexAt_slc_sound ht hs h hx hi
        exact lift hr (by simp only [execOp, hop]) hgv
      · simp at h
    · simp at h
  | index t x i =>
    rw [hop] at h hok
    simp only [evP] at h
    have hx := ev_rel hg hT (hok x (by simp [Op.operands]))
    have hi := ev_rel hg hT (hok i (by simp [Op.operands]))
    split at h
    · rename_i ht
      split at h
      · rename_i s h1 h2
        obtain ⟨v', hr, hgv⟩ := ixAggN_sound ht h1 h2 h hx hi
        exact lift hr (by simp only [execOp, hop]) hgv
      · rename_i s h1 h2
        obtain ⟨v', hr, hgv⟩ := ixAgg1_sound ht h1 h2 h hx hi
        exact lift hr (by simp only [execOp, hop]) hgv
      · simp at h
    · rename_i ht
      obtain ⟨hr, hgv⟩ := ixStr_sound ht h hx hi
      exact lift hr (by simp only [execOp, hop]) hgv
    · simp at h
  | extract t i =>
    rw [hop] at h hok
    simp only [evP] at h
    obtain ⟨v', hr, hgv⟩ := ext_sound (P := P) h (ev_rel hg hT (hok t (by simp [Op.operands])))
    exact lift hr (by simp only [execOp, hop]) hgv
  | slice t x lo hi mx =>
    rw [hop] at h hok
    simp only [evP] at h
    have hx := ev_rel hg hT (hok x (by simp [Op.operands]))
    have hl := opt_rel (lo := lo) hg hT (fun y hy => hok y (by simp [Op.operands]; simp at hy; simp [hy]))
    have hh := opt_rel (lo := hi) hg hT (fun y hy => hok y (by simp [Op.operands]; simp at hy; simp [hy]))
    have hm := opt_rel (lo := mx) hg hT (fun y hy => hok y (by simp [Op.operands]; simp at hy; simp [hy]))
    split at h
    · rename_i ht
      split at h
      · obtain ⟨hr, hgv⟩ := slStr_sound ht h hx hl hh
        exact lift hr (by simp only [execOp, hop]; rfl) hgv
      · simp at h
    · rename_i ht
      split at h
      · rename_i s hs
        obtain ⟨v', hr, hgv⟩ := slArr_sound ht hs h hx hm hh hl
        exact lift hr (by simp only [execOp, hop]) hgv
      · simp at h
    · simp at h
  | sliceToArrayPointer d x =>
    rw [hop] at h hok
    simp only [evP] at h
    split at h
    · rename_i ht
      obtain ⟨v', hr, hgv⟩ := arrPtr_sound ht h (ev_rel hg hT (hok x (by simp [Op.operands])))
      exact lift hr (by simp only [execOp, hop]) hgv
    · simp at h
  | makeInterface t x =>
    rw [hop] at h hok
    simp only [evP] at h
    have hx := ev_rel hg hT (hok x (by simp [Op.operands]))
    split at h
    · simp at h
    · rename_i d hni hd
      simp only [Option.some.injEq] at h; subst h
      refine lift (s := Instr.makeInterface t (a.eval x)) (.iface t _ _ hx) (by simp only [execOp, hop]) (fun w => ?_)
      simp only [Instr.makeInterface, Sem.run_bind, run_underlying' hd, Result.andThen_ok]
      cases d <;> first | rfl | (exact absurd rfl (hni _))
    · simp at h
  | makeFunc fn f c =>
    rw [hop] at h hok
    cases fn with
    | func g =>
      simp only [evP, Option.some.injEq] at h; subst h
      have hf := args_rel hg hT f.toList (fun x hx => hok x (by simp only [Op.operands, Array.toList_append, List.mem_append]; exact .inl hx))
      have hc := args_rel hg hT c.toList (fun x hx => hok x (by simp only [Op.operands, Array.toList_append, List.mem_append]; exact .inr hx))
      refine lift (s := Instr.makeFunc (.func g) (f.map a.eval) (c.map a.eval)) (v' := .func (.func g) ⟨f.toList.map a.eval⟩ ⟨c.toList.map a.eval⟩) (.func _ _ _ _ _ hf.1 hf.2 hc.1 hc.2) (by simp only [execOp, hop]) (fun w => ?_)
      have e1 : (⟨f.toList.map a.eval⟩ : Array Value) = f.map a.eval := by apply Array.ext'; simp
      have e2 : (⟨c.toList.map a.eval⟩ : Array Value) = c.map a.eval := by apply Array.ext'; simp
      rw [e1, e2]; rfl
    | _ => simp [evP] at h
  | build t parts =>
    rw [hop] at h hok hty
    simp only [evP] at h
    have hpk : ∀ p ∈ parts.toList, opOk P p.2 = true := fun p hp => hok p.2 (by simp only [Op.operands]; exact List.mem_map_of_mem hp)
    split at h
    · rename_i fs z ht hz
      have hz' : z.cells.toList.all lit1 = true := by simpa [opTyOk, zeroOk, hz] using hty
      split at h
      · rename_i places hpl
        unfold buildV at h
        rw [Option.ite_none_right_eq_some] at h
        obtain ⟨hd, h⟩ := h
        simp only [Option.map_eq_some_iff] at h
        obtain ⟨ds, hds, rfl⟩ := h
        obtain ⟨ds', h1, h2⟩ := fill_sound (ρ := ρ) _ _ ((parts.map fun (i, x) => (i, a.eval x)).toList) _ _ _ hds (by simp) (parts_rel hg hT hpk hd) (LRel.refl_lit hz')
        refine lift (s := Instr.build t (parts.map fun (i, x) => (i, a.eval x))) h2.agg (by simp only [execOp, hop]) (fun w => ?_)
        have hb := build_places hpl w
        have h1' : Instr.fill (fun x => places.toArray[x]?) z.cells ((parts.map fun (i, x) => (i, a.eval x)).toList) = some ds' := by
          have e : (fun x : Nat => places.toArray[x]?) = (fun x : Nat => places[x]?) := by funext x; simp
          rw [e]; exact h1
        simp only [Instr.build, Sem.run_bind, run_zero' hz, Result.andThen_ok, run_underlying' ht, Array.mapM_eq_mapM_toList, Sem.run_map, hb, h1']
        rfl
      · simp at h
    · rename_i k e z ht hz
      have hz' : z.cells.toList.all lit1 = true := by simpa [opTyOk, zeroOk, hz] using hty
      split at h
      · rename_i s hs
        unfold buildA at h
        rw [Option.ite_none_right_eq_some] at h
        obtain ⟨hd, h⟩ := h
        simp only [Option.map_eq_some_iff] at h
        obtain ⟨ds, hds, rfl⟩ := h
        obtain ⟨ds', h1, h2⟩ := fill_sound (ρ := ρ) _ _ ((parts.map fun (i, x) => (i, a.eval x)).toList) _ _ _ hds (by simp) (parts_rel hg hT hpk hd) (LRel.refl_lit hz')
        refine lift (s := Instr.build t (parts.map fun (i, x) => (i, a.eval x))) h2.agg (by simp only [execOp, hop]) (fun w => ?_)
        simp only [Instr.build, Sem.run_bind, run_zero' hz, Result.andThen_ok, run_underlying' ht, run_sizeOf' hs, h1]
        rfl
      · simp at h
    · simp at h
  | call c =>
    rw [hop] at h hok
    simp only [evP, evCallP] at h
    have hargs := args_rel hg hT c.args.toList (fun x hx => hok x (by simp only [Op.operands, Call.operands, Array.toList_append, List.mem_append]; exact .inr hx))
    have hat : ∀ x, c.args[0]? = some x → VRel ρ (ev T x) (a.eval x) ∧ (c.args.map a.eval)[0]? = some (a.eval x) := fun x hx =>
      ⟨ev_rel hg hT (hok x (by simp only [Op.operands, Call.operands, Array.toList_append, List.mem_append]; exact .inr (List.mem_of_getElem? (i := 0) (by simpa using hx)))), by simp [hx]⟩
    split at h
    · rename_i hc
      split at h
      · rename_i x hu hx
        simp only [Option.bind_eq_some_iff] at hu
        obtain ⟨t, h1, h2⟩ := hu
        obtain ⟨hr, hv⟩ := hat x hx
        obtain ⟨hr', hgv⟩ := lenStr_sound (P := P) (ty := o.type) h1 hv h2 h hr
        exact ⟨v, hr', fun w => by simp [execOp, hop, resolve, hc, invoke, builtin, hgv w]⟩
      · rename_i e x hu hx
        simp only [Option.bind_eq_some_iff] at hu
        obtain ⟨t, h1, h2⟩ := hu
        obtain ⟨hr, hv⟩ := hat x hx
        obtain ⟨hr', hgv⟩ := lenSlc_sound (P := P) (ty := o.type) h1 hv h2 h hr
        exact ⟨v, hr', fun w => by simp [execOp, hop, resolve, hc, invoke, builtin, hgv w]⟩
      · rename_i n e x hu hx
        simp only [Option.bind_eq_some_iff] at hu
        obtain ⟨t, h1, h2⟩ := hu
        obtain ⟨hr, hv⟩ := hat x hx
        simp only [Option.some.injEq] at h; subst h
        exact ⟨_, .int _ _, fun w => by simp [execOp, hop, resolve, hc, invoke, builtin, Builtin.len_, h1, hx, underlying, h2, goInt]⟩
      · simp at h
    · rename_i hc
      have hl : c.args.toList.map a.eval = (c.args.map a.eval).toList := by simp
      unfold fold2 at h
      split at h
      · simp at h
      · rename_i x l hm
        rw [hm] at hargs
        obtain ⟨y, k, hk, hy, hyk⟩ := hargs.cases_cons
        obtain ⟨v', hr, hgv⟩ := fold_sound (P := P) (g := Builtin.min2) (fun _ _ _ _ _ h1 h2 h3 => min2_sound h1 h2 h3) l k x y v h hy hyk
        refine ⟨v', hr, fun w => ?_⟩
        rw [hl] at hk
        simp [execOp, hop, resolve, hc, invoke, builtin, Builtin.min_]
        rw [hl, hk]
        simp [hgv w]
    · rename_i hc
      have hl : c.args.toList.map a.eval = (c.args.map a.eval).toList := by simp
      unfold fold2 at h
      split at h
      · simp at h
      · rename_i x l hm
        rw [hm] at hargs
        obtain ⟨y, k, hk, hy, hyk⟩ := hargs.cases_cons
        obtain ⟨v', hr, hgv⟩ := fold_sound (P := P) (g := Builtin.max2) (fun _ _ _ _ _ h1 h2 h3 => max2_sound h1 h2 h3) l k x y v h hy hyk
        refine ⟨v', hr, fun w => ?_⟩
        rw [hl] at hk
        simp [execOp, hop, resolve, hc, invoke, builtin, Builtin.max_]
        rw [hl, hk]
        simp [hgv w]
    · simp at h
  | _ => rw [hop] at h; simp [evP] at h
end
end Go.AM
