/- THE ABSTRACT MACHINE: operations that touch no memory, put together; equality of flat structs. -/
import Derived.Test.YtjpdppohflailaaAmPure
set_option linter.all false
namespace Go.AM

section
variable {P : Program} {ρ : Inj} {T : Env} {a : Act} {v : Value}

/-- All operands of an operation may be looked at. -/
def OpsOk (P : Program) (op : Op) : Prop := ∀ x ∈ op.operands.toList, opOk P x = true

theorem exec_gives {o : Oper} {s : Sem Value} {v' : Value} (hs : execOp a.eval o = (do pure (.value (← s)) : Sem Next)) (hg : Gives P s v') (w : World) : (execOp a.eval o).run P w = .ok (.value v') w := by
  rw [hs]; simp [hg w]

/-! ### equality of structs and arrays of plain things -/
theorem sameCells_len : ∀ {ks : List Nat} {xs ys : List Value} {b : Bool}, sameCells ks xs ys = some b → xs.length = ks.length ∧ ys.length = ks.length
  | [], [], [], _, _ => ⟨rfl, rfl⟩
  | k :: ks, x :: xs, y :: ys, b, h => by
    simp only [sameCells, Option.bind_eq_some_iff, Option.map_eq_some_iff] at h
    obtain ⟨_, _, _, h, _⟩ := h
    have := sameCells_len h
    simp [this]
  | [], [], _ :: _, _, h => by simp [sameCells] at h
  | [], _ :: _, _, _, h => by simp [sameCells] at h
  | _ :: _, [], _, _, h => by simp [sameCells] at h
  | _ :: _, _ :: _, [], _, h => by simp [sameCells] at h
theorem sameCells_split {ks ks' : List Nat} : ∀ {xs ys : List Value} {b : Bool}, sameCells (ks ++ ks') xs ys = some b →
    ∃ b1 b2, sameCells ks (xs.take ks.length) (ys.take ks.length) = some b1 ∧ sameCells ks' (xs.drop ks.length) (ys.drop ks.length) = some b2 ∧ b = (b1 && b2) := by
  induction ks with
  | nil => intro xs ys b h; exact ⟨true, b, by simp [sameCells], by simpa using h, by simp⟩
  | cons k ks ih =>
    intro xs ys b h
    match xs, ys with
    | x :: xs, y :: ys =>
      simp only [List.cons_append, sameCells, Option.bind_eq_some_iff, Option.map_eq_some_iff] at h
      obtain ⟨c, hc, d, hd, rfl⟩ := h
      obtain ⟨b1, b2, h1, h2, rfl⟩ := ih hd
      exact ⟨c && b1, b2, by simp [sameCells, hc, h1], by simpa using h2, by simp [Bool.and_assoc]⟩
    | [], _ => simp [sameCells] at h
    | _ :: _, [] => simp [sameCells] at h

def wrapV (P : Program) (t : TypeId) (xs : List Value) : Value := match aggO P t with | some true => .agg ⟨xs⟩ | _ => xs.headD undef
theorem run_part {t N off : Nat} {b : Bool} (ha : aggO P t = some b) (hs : sizeO P t = some N) (cs : Array Value) (h1 : b = false → N = 1) (hl : off + N ≤ cs.size) (w : World) :
    (part t cs off).run P w = .ok (wrapV P t ((cs.toList.drop off).take N)) w := by
  cases b with
  | true =>
    simp only [part, wrapV, ha, Sem.run_bind, run_isAgg' ha, Result.andThen_ok, if_true, run_sizeOf' hs, Sem.run_pure]
    congr 2
    apply Array.ext'
    simp only [Array.toList_extract]
    rw [List.extract_eq_take_drop]
    congr 1; omega
  | false =>
    have := h1 rfl; subst this
    have hlt : off < cs.size := by omega
    have : cs[off]? = some cs[off] := Array.getElem?_eq_getElem hlt
    simp only [part, wrapV, ha, Sem.run_bind, run_isAgg' ha, Result.andThen_ok, Bool.false_eq_true, if_false, this, Sem.run_pure]
    congr 1
    rw [List.drop_eq_getElem_cons (by simpa using hlt)]
    simp

/-- What is asked of a part's type. -/
def Part (P : Program) (t n : Nat) : Prop := ∃ b, aggO P t = some b ∧ sizeO P t = some n ∧ (b = false → n = 1)
theorem flat_shape {d t : Nat} {ks : List Nat} (h : flatN P d t = some ks) : Part P t ks.length := by
  cases d with
  | zero => simp [flatN] at h
  | succ d =>
    simp only [flatN] at h
    split at h <;> rename_i hu
    · split at h
      · rename_i hs; simp only [Option.some.injEq] at h; subst h; exact ⟨false, by simp [aggO, hu], hs, fun _ => rfl⟩
      · simp at h
    · split at h
      · rename_i hs; simp only [Option.some.injEq] at h; subst h; exact ⟨false, by simp [aggO, hu], hs, fun _ => rfl⟩
      · simp at h
    · split at h
      · rename_i hs; simp only [Option.some.injEq] at h; subst h; exact ⟨false, by simp [aggO, hu], hs, fun _ => rfl⟩
      · simp at h
    · split at h
      · rename_i s n h1 h2 h3
        split at h
        · rename_i he
          simp only [Option.some.injEq] at h; subst h
          refine ⟨true, by simp [aggO, hu], ?_, fun h => by simp at h⟩
          rw [h2]; simpa using he
        · simp at h
      · simp at h
    · split at h
      · rename_i q n h1 h2
        split at h
        · rename_i he
          simp only [Option.some.injEq] at h; subst h
          refine ⟨true, by simp [aggO, hu], ?_, fun h => by simp at h⟩
          have he' := eq_of_beq he
          rw [h1, he']; simp
        · simp at h
      · simp at h
    · simp at h

/-- Equality at a flat type, cell by cell. -/
def EqOk (P : Program) (D : Nat) (t : Nat) (ks : List Nat) : Prop := ∀ (xs ys : List Value) (b : Bool), sameCells ks xs ys = some b → ∀ w, (Op.equalIn D t (wrapV P t xs) (wrapV P t ys)).run P w = .ok b w

theorem eqFields_ok (D : Nat) (f : TypeId → Option (List Nat)) (hf : ∀ t n, f t = some n → EqOk P D t n ∧ Part P t n.length) (xs ys : Array Value) : ∀ (fs : List Field) (n total : List Nat) (b : Bool),
    flatFs f fs n = some total → xs.size = total.length → ys.size = total.length → sameCells (total.drop n.length) (xs.toList.drop n.length) (ys.toList.drop n.length) = some b → ∀ w, (Op.eqFields D xs ys fs).run P w = .ok b w
  | [], n, total, b, h, hx, hy, hs, w => by
    simp only [flatFs, Option.some.injEq] at h; subst h
    have e1 : xs.toList.drop n.length = [] := List.drop_eq_nil_of_le (by simp [hx])
    have e2 : ys.toList.drop n.length = [] := List.drop_eq_nil_of_le (by simp [hy])
    have e3 : n.drop n.length = [] := List.drop_eq_nil_of_le (Nat.le_refl _)
    rw [e1, e2, e3] at hs
    simp only [sameCells, Option.some.injEq] at hs; subst hs
    rfl
  | x :: fs, n, total, b, h, hx, hy, hs, w => by
    simp only [flatFs] at h
    rw [Option.ite_none_right_eq_some] at h
    obtain ⟨⟨hn, ho⟩, h⟩ := h
    simp only [Option.bind_eq_some_iff] at h
    obtain ⟨m, hm, h⟩ := h
    obtain ⟨he, q, ha, hsz, hq⟩ := hf _ _ hm
    have hpre2 : ∀ (fs : List Field) (k t : List Nat), flatFs f fs k = some t → ∃ r, t = k ++ r := by
      intro fs
      induction fs with
      | nil => intro k t h; simp only [flatFs, Option.some.injEq] at h; exact ⟨[], by simp [h]⟩
      | cons y fs ih =>
        intro k t h
        simp only [flatFs] at h
        rw [Option.ite_none_right_eq_some] at h
        obtain ⟨_, h⟩ := h
        simp only [Option.bind_eq_some_iff] at h
        obtain ⟨m, _, h⟩ := h
        obtain ⟨r, rfl⟩ := ih _ _ h
        exact ⟨m ++ r, by simp⟩
    obtain ⟨r, rfl⟩ := hpre2 fs _ _ h
    have hd : (n ++ m ++ r).drop n.length = m ++ r := by simp
    rw [hd] at hs
    obtain ⟨b1, b2, h1, h2, rfl⟩ := sameCells_split hs
    have p1 := run_part ha hsz xs hq (off := n.length) (by simp at hx; omega) w
    have p2 := run_part ha hsz ys hq (off := n.length) (by simp at hy; omega) w
    have p3 := he _ _ b1 h1 w
    simp only [Op.eqFields]
    rw [if_pos hn, ho]
    simp only [Sem.run_bind, p1, p2, p3, Result.andThen_ok]
    cases b1 with
    | false => simp
    | true =>
      simp only [Bool.not_true, Bool.false_eq_true, if_false, Bool.true_and]
      refine eqFields_ok D f hf xs ys fs (n ++ m) (n ++ m ++ r) b2 h hx hy ?_ w
      have e : (n ++ m ++ r).drop (n ++ m).length = r := by simp
      rw [e, List.length_append, ← List.drop_drop, ← List.drop_drop]; exact h2

theorem eqArray_ok (D : Nat) {e : Nat} {ks : List Nat} (he : EqOk P D e ks) (hp : Part P e ks.length) (xs ys : Array Value) : ∀ (k i : Nat) (b : Bool),
    xs.size = (i + k) * ks.length → ys.size = (i + k) * ks.length → sameCells (List.replicate k ks).flatten (xs.toList.drop (i * ks.length)) (ys.toList.drop (i * ks.length)) = some b → ∀ w,
    ((forIn (List.range' i k) (none, PUnit.unit) (fun i (_ : Option Bool × PUnit) => (do
        if !(← Op.equalIn D e (← part e xs (i * ks.length)) (← part e ys (i * ks.length))) then pure (ForInStep.done (some false, PUnit.unit)) else pure (ForInStep.yield (none, PUnit.unit)) : Sem (ForInStep (Option Bool × PUnit)))) >>= fun r => match r.1 with | some a => pure a | none => pure true : Sem Bool)).run P w = .ok b w
  | 0, i, b, hx, hy, hs, w => by
    rw [List.drop_eq_nil_of_le (by simp [hx]), List.drop_eq_nil_of_le (by simp [hy])] at hs
    simp only [List.replicate_zero, List.flatten_nil, sameCells, Option.some.injEq] at hs; subst hs
    simp
  | k + 1, i, b, hx, hy, hs, w => by
    obtain ⟨q, ha, hsz, hq⟩ := hp
    have hsk : (i + (k + 1)) * ks.length = i * ks.length + ks.length + k * ks.length := by rw [← Nat.add_assoc, Nat.add_mul, Nat.add_mul, Nat.one_mul]; omega
    rw [List.replicate_succ, List.flatten_cons] at hs
    obtain ⟨b1, b2, h1, h2, rfl⟩ := sameCells_split hs
    rw [List.drop_drop, List.drop_drop] at h2
    have e1 : i * ks.length + ks.length = (i + 1) * ks.length := by rw [Nat.add_mul, Nat.one_mul]
    rw [e1] at h2
    have ih := eqArray_ok D he ⟨q, ha, hsz, hq⟩ xs ys k (i + 1) b2 (by rw [hx]; congr 1; omega) (by rw [hy]; congr 1; omega) h2 w
    have p1 := run_part ha hsz xs hq (off := i * ks.length) (by omega) w
    have p2 := run_part ha hsz ys hq (off := i * ks.length) (by omega) w
    have p3 := he _ _ b1 h1 w
    simp only [List.range'_succ, List.forIn_cons, Sem.run_bind, p1, p2, p3, Result.andThen_ok] at ih ⊢
    cases b1 with
    | false => simp
    | true =>
      simp only [Bool.not_true, Bool.false_eq_true, if_false, Bool.true_and, Sem.run_pure, Result.andThen_ok]
      exact ih

theorem wrap_agg {t : Nat} (h : aggO P t = some true) (xs : List Value) : wrapV P t xs = .agg ⟨xs⟩ := by simp [wrapV, h]
theorem flatN_ok : ∀ (d t D : Nat) (ks : List Nat), flatN P d t = some ks → d ≤ D → EqOk P D t ks ∧ Part P t ks.length
  | 0, t, D, ks, h, _ => by simp [flatN] at h
  | d + 1, t, D, ks, h, hD => by
    refine ⟨?_, flat_shape h⟩
    obtain ⟨E, rfl⟩ : ∃ E, D = E + 1 := ⟨D - 1, by omega⟩
    have leaf : ∀ (kd : Nat), ks = [kd] → aggO P t = some false → (∀ x y b, sameCell kd x y = some b → ∀ w, (Op.equalIn (E + 1) t x y).run P w = .ok b w) → EqOk P (E + 1) t ks := by
      intro kd hk ha hl xs ys b hs w
      subst hk
      match xs, ys with
      | [x], [y] =>
        simp only [sameCells, Option.bind_eq_some_iff, Option.map_some, Option.some.injEq, Bool.and_true] at hs
        obtain ⟨c, hc, rfl⟩ := hs
        simp only [wrapV, ha, List.headD_cons]
        exact hl x y c hc w
      | [], _ => simp [sameCells] at hs
      | [_], [] => simp [sameCells] at hs
      | [_], _ :: _ :: _ => simp [sameCells] at hs
      | _ :: _ :: _, [] => simp [sameCells] at hs
      | _ :: _ :: _, _ :: _ => simp [sameCells] at hs
    simp only [flatN] at h
    split at h
    · rename_i k hu
      split at h
      · simp only [Option.some.injEq] at h
        refine leaf 0 h.symm (by simp [aggO, hu]) (fun x y b hb w => ?_)
        unfold sameCell at hb
        split at hb
        · rw [Option.ite_none_right_eq_some] at hb
          obtain ⟨rfl, hc⟩ := hb
          simp only [Option.some.injEq] at hc; subst hc
          exact run_equalIn_int w E t _ k _ _ hu
        · simp at *
        · simp at *
        · simp at hb
      · simp at h
    · rename_i hu
      split at h
      · simp only [Option.some.injEq] at h
        refine leaf 1 h.symm (by simp [aggO, hu]) (fun x y b hb w => ?_)
        unfold sameCell at hb
        split at hb
        · simp at *
        · simp only [Option.some.injEq] at hb; subst hb
          rw [beq_toListBytes]
          exact run_equalIn_string w E t _ _ hu
        · simp at *
        · simp at hb
      · simp at h
    · rename_i hu
      split at h
      · simp only [Option.some.injEq] at h
        refine leaf 2 h.symm (by simp [aggO, hu]) (fun x y b hb w => ?_)
        unfold sameCell at hb
        split at hb
        · simp at *
        · simp at *
        · simp only [Option.some.injEq] at hb; subst hb
          exact run_equalIn_bool' w E t _ _ hu
        · simp at hb
      · simp at h
    · rename_i fs hu
      split at h
      · rename_i s n h1 h2 h3
        split at h
        · rename_i he
          simp only [Option.some.injEq] at h; subst h
          intro xs ys b hs w
          have ha : aggO P t = some true := by simp [aggO, hu]
          rw [wrap_agg ha, wrap_agg ha]
          have hfo : P.fieldsOf t = fs := by simp [Program.fieldsOf, hu]
          rw [run_equalIn_struct w E t _ _ (by rw [hfo]; exact hu) h1, hfo]
          have hl := sameCells_len hs
          exact eqFields_ok E (flatN P d) (fun t' n' h' => flatN_ok d t' E n' h' (by omega)) ⟨xs⟩ ⟨ys⟩ fs.toList [] n b h3 (by simpa using hl.1) (by simpa using hl.2) (by simpa using hs) w
        · simp at h
      · simp at h
    · rename_i k e hu
      split at h
      · rename_i q n h1 h2
        split at h
        · rename_i he
          simp only [Option.some.injEq] at h; subst h
          intro xs ys b hs w
          have ha : aggO P t = some true := by simp [aggO, hu]
          rw [wrap_agg ha, wrap_agg ha]
          obtain ⟨g1, g2⟩ := flatN_ok d e E n h2 (by omega)
          have hl := sameCells_len hs
          have hlen : (List.replicate k n).flatten.length = k * n.length := by simp
          have key := eqArray_ok E g1 g2 ⟨xs⟩ ⟨ys⟩ k 0 b (by simpa [hlen] using hl.1) (by simpa [hlen] using hl.2) (by simpa using hs) w
          obtain ⟨_, _, hsz, _⟩ := g2
          simp only [Op.equalIn, Sem.run_bind, run_underlying' hu, Result.andThen_ok, run_sizeOf' hsz]
          rw [Std.Legacy.Range.forIn_eq_forIn_range']
          simp only [Std.Legacy.Range.size, Nat.sub_zero, Nat.add_sub_cancel, Nat.div_one]
          simp only [Sem.run_bind] at key ⊢
          rw [← key]; congr 1; funext a w1; split <;> simp_all
        · simp at h
      · simp at h
    · simp at h
end
end Go.AM
