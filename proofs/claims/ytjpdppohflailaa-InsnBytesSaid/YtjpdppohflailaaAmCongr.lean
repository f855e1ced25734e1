/- THE ABSTRACT MACHINE: an operation looks at its operands alone. -/
import Derived.Test.YtjpdppohflailaaAmCode
set_option linter.all false
namespace Go.AM
section
variable {P : Program} {T T' : Env} {call : CallT}

theorem args_congr {l : List Operand} (h : ∀ x ∈ l, ev T x = ev T' x) : l.map (ev T) = l.map (ev T') := List.map_congr_left h

theorem call_args {c : Call} (h : ∀ x ∈ c.operands, ev T x = ev T' x) : (∀ x ∈ c.args.toList, ev T x = ev T' x) ∧ (∀ f, c.callee = .value f → ev T f = ev T' f) := by
  constructor
  · intro x hx
    exact h x (by simp only [Call.operands]; exact Array.mem_append.2 (.inr (by simpa using hx)))
  · intro f hf
    exact h f (by simp [Call.operands, hf])

theorem evCallP_congr (c : Call) (h : ∀ x ∈ c.operands, ev T x = ev T' x) : evCallP P T c = evCallP P T' c := by
  obtain ⟨ha, _⟩ := call_args h
  have hx : ∀ (i : Nat) x, c.args[i]? = some x → ev T x = ev T' x := fun i x hx => ha x (by simpa using Array.mem_of_getElem? hx)
  unfold evCallP
  rw [args_congr ha]
  cases c.callee with
  | builtin b =>
    cases b <;> try rfl
    simp only
    cases (c.argTypes[0]?).bind P.underlying with
    | none => rfl
    | some d =>
      cases h0 : c.args[0]? with
      | none => cases d <;> rfl
      | some x => have := hx 0 x h0; cases d <;> first | rfl | simp only [this]
  | _ => rfl

theorem parts_congr {ps : Array (Nat × Operand)} (hp : ∀ x ∈ (ps.toList.map fun p => p.2).toArray, ev T x = ev T' x) : (ps.toList.map fun p => (p.1, ev T p.2)) = (ps.toList.map fun p => (p.1, ev T' p.2)) :=
  List.map_congr_left fun p hm => by rw [hp p.2 (by simp; exact ⟨p.1, by simpa using hm⟩)]

theorem optmap_congr {o : Option Operand} (h : ∀ x, o = some x → ev T x = ev T' x) : o.map (ev T) = o.map (ev T') := by
  cases o with
  | none => rfl
  | some x => simp [h x rfl]

theorem moved_congr {op : Op} (h : ∀ x ∈ op.operands, ev T x = ev T' x) : moved T op = moved T' op := by
  unfold moved
  split <;> first | rfl | (rw [h _ (by simp [Op.operands])])

theorem evP_congr {op : Op} (h : ∀ x ∈ op.operands, ev T x = ev T' x) : evP P T op = evP P T' op := by
  cases op <;> simp only [Op.operands] at h <;> simp only [evP]
  case pick c x y => rw [h c (by simp), h x (by simp), h y (by simp)]
  case build t ps => rw [parts_congr h]
  case makeFunc fn first captured =>
    have h1 := args_congr (l := first.toList) (T := T) (T' := T') fun x hx => h x (by simp at hx; simp [hx])
    have h2 := args_congr (l := captured.toList) (T := T) (T' := T') fun x hx => h x (by simp at hx; simp [hx])
    cases fn <;> simp only [evP, h1, h2]
  case call c => exact evCallP_congr c h
  case slice t x lo hi mx =>
    have h0 := h x (by simp)
    rw [h0, optmap_congr (o := lo) (T := T) (T' := T') (fun y hy => h y (by subst hy; simp)), optmap_congr (o := hi) (T := T) (T' := T') (fun y hy => h y (by subst hy; simp)),
      optmap_congr (o := mx) (T := T) (T' := T') (fun y hy => h y (by subst hy; simp))]
  all_goals (first | rfl | (simp_all; done))

theorem evR_congr {op : Op} (h : ∀ x ∈ op.operands, ev T x = ev T' x) (H : AH) : evR P T op H = evR P T' op H := by
  cases op <;> simp only [Op.operands] at h <;> simp only [evR]
  case call c =>
    obtain ⟨ha, _⟩ := call_args h
    have hx : ∀ (i : Nat) x, c.args[i]? = some x → ev T x = ev T' x := fun i x hx => ha x (by simpa using Array.mem_of_getElem? hx)
    cases c.callee with
    | builtin b =>
      cases b <;> try rfl
      cases (c.argTypes[0]?).bind P.underlying with
      | none => rfl
      | some d =>
        cases h0 : c.args[0]? with
        | none => cases d <;> rfl
        | some x => have := hx 0 x h0; cases d <;> first | rfl | simp only [this]
    | _ => rfl
  case slice t x lo hi mx =>
    have h0 := h x (by simp)
    rw [h0, optmap_congr (o := lo) (T := T) (T' := T') (fun y hy => h y (by subst hy; simp)), optmap_congr (o := hi) (T := T) (T' := T') (fun y hy => h y (by subst hy; simp)),
      optmap_congr (o := mx) (T := T) (T' := T') (fun y hy => h y (by subst hy; simp))]
  all_goals (first | rfl | (simp_all; done))

theorem evA_congr {op : Op} (h : ∀ x ∈ op.operands, ev T x = ev T' x) : evA P T op = evA P T' op := by
  cases op <;> simp only [Op.operands] at h
  case buildSlice t n ps => simp only [evA]; rw [parts_congr h]
  case makeMap t r =>
    cases r with
    | none => rfl
    | some x => simp only [evA]; rw [h x (by simp)]
  all_goals simp only [evA]
  all_goals (first | rfl | (simp_all; done))

theorem evM_congr {op : Op} (h : ∀ x ∈ op.operands, ev T x = ev T' x) (H : AH) (K : Value → AH → Prop) : evM P call T op H K = evM P call T' op H K := by
  cases op <;> simp only [Op.operands] at h
  case call c =>
    simp only [evM]
    obtain ⟨ha, hf⟩ := call_args h
    have hx : ∀ (i : Nat) x, c.args[i]? = some x → ev T x = ev T' x := fun i x hx => ha x (by simpa using Array.mem_of_getElem? hx)
    unfold evCallM
    rw [args_congr ha]
    cases hc : c.callee with
    | value f => have e := hf f hc; cases f <;> simp only [e]
    | invoke r m => rfl
    | builtin b =>
      cases h0 : c.args[0]? with
      | none => cases b <;> rfl
      | some x =>
        have e0 := hx 0 x h0
        cases h1 : c.args[1]? with
        | none => cases b <;> rfl
        | some y =>
          have e1 := hx 1 y h1
          cases (c.argTypes[0]?).bind P.underlying with
          | none => cases b <;> rfl
          | some d =>
            cases (c.argTypes[1]?).bind P.underlying with
            | none => cases b <;> first | rfl | (cases d <;> first | rfl | simp only [e0, e1])
            | some d2 => cases b <;> first | rfl | (cases d <;> first | rfl | (simp only [e0, e1]; done) | (cases d2 <;> first | rfl | (simp only [e0, e1]; done)))
  case next it b => cases b <;> simp only [evM]; rw [h it (by simp)]
  all_goals simp only [evM]
  all_goals (first | rfl | (simp_all; done))

theorem runOp_congr {op : Op} (h : ∀ x ∈ op.operands, ev T x = ev T' x) (H : AH) (K : Value → AH → Prop) : runOp P call T op H K = runOp P call T' op H K := by
  unfold runOp
  rw [moved_congr h, evP_congr h, evR_congr h, evA_congr h, evM_congr h]

/-- A look into memory is the same behind an allocation. -/
theorem evR_new {op : Op} {H : AH} {v : Value} (o : AObj) (h : evR P T op H = some v) : evR P T op (H.new o) = some v := by
  have g : ∀ b, H.get b ≠ .dead → (H.new o).get b = H.get b := fun b hb => AH.get_new_ne _ _ (by have := AH.lt_of_get hb; omega)
  have row : ∀ b i n l, (H.get b).row i n = some l → (H.new o).get b = H.get b := fun b i n l hl => g b (by intro e; rw [e] at hl; simp [AObj.row] at hl)
  have cell : ∀ b i l, (H.get b).cell i = some l → (H.new o).get b = H.get b := fun b i l hl => g b (by intro e; rw [e] at hl; simp [AObj.cell] at hl)
  have ent : ∀ m es, entriesOf m H = some es → entriesOf m (H.new o) = some es := by
    intro m es hm
    unfold entriesOf at hm ⊢
    split at hm
    · exact hm
    · rename_i r
      split at hm
      · rename_i es' c b hg
        rw [g r (by rw [hg]; simp), hg]; exact hm
      · simp at hm
    · simp at hm
  unfold evR at h ⊢
  split at h
  · split at h
    · simp only [loadN] at h ⊢
      split at h
      · split at h
        · simp at h
        · rename_i hs
          rw [if_neg hs]
          rw [Option.map_eq_some_iff] at h
          obtain ⟨l, hl, e⟩ := h
          rw [row _ _ _ _ hl, hl, ← e]; rfl
      · simp at h
    · simp only [load1] at h ⊢
      split at h
      · split at h
        · simp at h
        · rename_i hs
          rw [if_neg hs, cell _ _ _ h]; exact h
      · simp at h
    · simp at h
  · split at h
    · split at h
      · unfold look at h ⊢
        rw [Option.bind_eq_some_iff] at h
        obtain ⟨es, he, h⟩ := h
        rw [ent _ _ he]; exact h
      · simp at h
    · simp at h
  · split at h
    · split at h
      · unfold strOf at h ⊢
        split at h
        · exact h
        · split at h
          · rename_i hz
            rw [if_pos hz]; exact h
          rename_i hz
          rw [if_neg hz]
          split at h
          · simp at h
          · rename_i hs
            rw [if_neg hs]
            rw [Option.bind_eq_some_iff] at h
            obtain ⟨l, hl, h⟩ := h
            rw [row _ _ _ _ hl, hl]; exact h
        · simp at h
      · simp at h
    · simp at h
  · split at h
    · split at h
      · unfold slSlc at h ⊢
        split at h
        · exact h
        · rename_i a n c _
          by_cases hc : c = 0
          · subst hc
            simp only [beq_self_eq_true, Bool.true_or] at h ⊢
            exact h
          have : (H.new o).get a.block = H.get a.block := g _ (by intro e; rw [e] at h; simp [fits, hc] at h)
          rw [this]; exact h
        · simp at h
      · simp at h
    · simp at h
  · split at h
    · unfold lenMap at h ⊢
      split at h
      · exact h
      · rename_i r _
        split at h
        · rename_i es' c b hg
          rw [g r (by rw [hg]; simp), hg]; exact h
        · simp at h
      · simp at h
    · simp at h
  · simp at h
end
end Go.AM
