/- THE ABSTRACT MACHINE: one operation, as a region carries it out; regions carried out in the text's order. -/
import Derived.Test.YtjpdppohflailaaAmEvM2
set_option linter.all false
namespace Go.AM
open Go.RowKit (Below)
section
variable {P : Program} {ρ : Inj} {T : Env} {a : Act} {w0 w : World} {H : AH} {call : CallT}

def operOk (P : Program) (N : Nat) (o : Oper) : Bool :=
  o.op.operands.toList.all (opOk P) && opTyOk P o.op && (match o.dst with | some d => decide (d < N) | none => true)

theorem operOk_inv {N : Nat} {o : Oper} (h : operOk P N o = true) : (∀ x ∈ o.op.operands.toList, opOk P x = true) ∧ opTyOk P o.op = true ∧ ∀ d, o.dst = some d → d < N := by
  simp only [operOk, Bool.and_eq_true, List.all_eq_true] at h
  exact ⟨h.1.1, h.1.2, fun d hd => by have := h.2; rw [hd] at this; simpa using this⟩

theorem TRel.put (hT : TRel ρ T a) {d : Option Nat} {v v' : Value} (hd : ∀ x, d = some x → x < a.tmps.size) (hv : VRel ρ v v') : TRel ρ (updO T d v) (a.put d v') := by
  cases d with
  | none => exact hT
  | some d =>
    intro t
    have hlt := hd d rfl
    simp only [updO, upd, Act.put]
    by_cases e : t = d
    · subst e
      simp [hlt]; exact hv
    · simp only [e, if_false]
      have := hT t
      simpa [Array.getElem?_setIfInBounds_ne (Ne.symm e)] using this

theorem put_defers (d : Option Nat) (v : Value) : (a.put d v).defers = a.defers := by cases d <;> rfl
theorem put_size (d : Option Nat) (v : Value) : (a.put d v).tmps.size = a.tmps.size := by cases d <;> simp [Act.put]

theorem gd_want (hT : TRel ρ T a) {ops : Array Oper} {j : Nat} {b : Bool} (h : gval ops.toList T j = .bool b) : yielded ops a.tmps j = some b := by
  unfold gval at h
  unfold yielded
  rw [Array.getElem?_toList] at h
  cases ho : ops[j]? with
  | none => rw [ho] at h; simp [undef] at h
  | some o =>
    rw [ho] at h
    simp only at h
    cases hd : o.dst with
    | none => rw [hd] at h; simp [undef] at h
    | some d =>
      rw [hd] at h
      simp only at h
      have := hT d
      rw [h] at this
      have hv := this.flat rfl
      simp only [Array.getD_eq_getD_getElem?] at hv
      simp only [Option.bind_some, hd]
      cases ht : a.tmps[d]? with
      | none => rw [ht] at hv; simp [undef] at hv
      | some u => rw [ht] at hv; simp at hv; subst hv; rfl

theorem gd_skip_want (hT : TRel ρ T a) {ops : Array Oper} {j : Nat} (h : isSkip (gval ops.toList T j) = true) : yielded ops a.tmps j = none := by
  unfold gval at h
  unfold yielded
  rw [Array.getElem?_toList] at h
  cases ho : ops[j]? with
  | none => rfl
  | some o =>
    rw [ho] at h
    simp only at h
    cases hd : o.dst with
    | none => simp [hd]
    | some d =>
      rw [hd] at h
      simp only at h
      obtain ⟨x, hx⟩ := skip_tuple (hT d) h
      simp only [Array.getD_eq_getD_getElem?] at hx
      simp only [Option.bind_some, hd]
      cases ht : a.tmps[d]? with
      | none => rfl
      | some u => rw [ht] at hx; simp at hx; subst hx; rfl

theorem ifB_inv {v : Value} {A B : Prop} (h : ifB v A B) : (v = .bool true ∧ A) ∨ (v = .bool false ∧ B) := by
  unfold ifB at h
  split at h
  · exact .inl ⟨rfl, h⟩
  · exact .inr ⟨rfl, h⟩
  · exact h.elim

/-- A guard, as the machine sees it. -/
theorem guard_sound (hT : TRel ρ T a) {ops : Array Oper} {o : Oper} {j : Nat} {want : Bool} (hg : o.guard = some (j, want)) {m : (Value → AH → Prop) → Prop} {K : Value → AH → Prop}
    (h : gd (gval ops.toList T j) want m H K) : (Region.wanted o (yielded ops a.tmps) = true ∧ m K) ∨ (Region.wanted o (yielded ops a.tmps) = false ∧ K skipV H) := by
  unfold gd at h
  split at h
  · rename_i hs
    refine .inr ⟨?_, h⟩
    simp only [Region.wanted, hg, gd_skip_want hT hs]
    rfl
  have hw : ∀ b, gval ops.toList T j = .bool b → Region.wanted o (yielded ops a.tmps) = (b == want) := by
    intro b hb
    simp only [Region.wanted, hg, gd_want hT hb]
    cases b <;> cases want <;> rfl
  cases want with
  | true =>
    rcases ifB_inv h with ⟨e, hm⟩ | ⟨e, hk⟩
    · exact .inl ⟨by rw [hw _ e]; rfl, hm⟩
    · exact .inr ⟨by rw [hw _ e]; rfl, hk⟩
  | false =>
    rcases ifB_inv h with ⟨e, hk⟩ | ⟨e, hm⟩
    · exact .inr ⟨by rw [hw _ e]; rfl, hk⟩
    · exact .inl ⟨by rw [hw _ e]; rfl, hm⟩

theorem evA_post (hR : R P ρ w0 H w) (hT : TRel ρ T a) {o : Oper} (hok : ∀ x ∈ o.op.operands.toList, opOk P x = true) (hty : opTyOk P o.op = true) {K : Value → AH → Prop}
    (h : AM.mk (evA P T o.op) H K) : Comes' P (execOp a.eval o) w (Post P ρ w0 H.next K) := by
  obtain ⟨obj, m, hm, hk⟩ := mk_inv h
  have hnone : ρ.loc H.next = none := by
    cases hq : ρ.loc H.next with
    | none => rfl
    | some q => have := (hR.own _ _ hq).2.1; omega
  obtain ⟨ρ', v', w', r1, r2, r3, r4, r5⟩ := evA_sound (hR.new obj) hT hok hty hm hR.nxt (Nat.lt_succ_self _) hnone (AH.get_new_self _ _)
  exact .inl ⟨v', w', r5, ρ', _, _, r1, fun b hb => r2 b (by omega), Nat.le_succ _, r3, r4, hk⟩

theorem runOp_sound (hcall : CallOk P call) (hR : R P ρ w0 H w) (hT : TRel ρ T a) {o : Oper} (hok : ∀ x ∈ o.op.operands.toList, opOk P x = true) (hty : opTyOk P o.op = true) {K : Value → AH → Prop}
    (h : runOp P call T o.op H K) : Comes' P (execOp a.eval o) w (Post P ρ w0 H.next K) := by
  unfold runOp at h
  split at h
  · rename_i v hv
    have : ∃ x, (o.op = .move x ∨ o.op = .assign x) ∧ v = ev T x := by
      unfold moved at hv
      split at hv
      · rename_i x; simp at hv; exact ⟨_, .inl (by assumption), hv.symm⟩
      · rename_i x; simp at hv; exact ⟨_, .inr (by assumption), hv.symm⟩
      · simp at hv
    obtain ⟨x, hx, rfl⟩ := this
    have hr := ev_rel hR.glob hT (hok x (by rcases hx with e | e <;> rw [e] <;> simp [Op.operands]))
    refine .inl ⟨a.eval x, w, ?_, post_same (Nat.le_refl _) hR hr h⟩
    rcases hx with e | e <;> simp [execOp, e]
  · split at h
    · obtain ⟨v, hv, hk⟩ := opt_inv h
      obtain ⟨v', hr, hrun⟩ := evP_sound hR.glob hT hok hty hv
      exact .inl ⟨v', w, hrun w, post_same (Nat.le_refl _) hR hr hk⟩
    · obtain ⟨v, hv, hk⟩ := opt_inv h
      obtain ⟨v', hr, hrun⟩ := evR_sound hR hT hok hty hv
      exact .inl ⟨v', w, hrun, post_same (Nat.le_refl _) hR hr hk⟩
    · exact evA_post hR hT hok hty h
    · exact evM_sound hcall hR hT hok hty h

/-- The machine's state, and what of it was so ahead. -/
structure St (P : Program) (w0 : World) (ρ0 : Inj) (n0 N : Nat) (ρ : Inj) (T : Env) (H : AH) (a : Act) (w : World) : Prop where
  le : ρ0.le ρ
  hole : ∀ b, b < n0 → ρ.loc b = ρ0.loc b
  nn : n0 ≤ H.next
  r : R P ρ w0 H w
  t : TRel ρ T a
  d : a.defers = []
  s : a.tmps.size = N

/-- What an operation hands on. -/
def Nx (P : Program) (w0 : World) (ρ0 : Inj) (n0 N : Nat) (K : Env → AH → Prop) (a : Act) (w : World) : Prop :=
  ∃ ρ T H, St P w0 ρ0 n0 N ρ T H a w ∧ K T H

theorem upon_of_comes {ops : Array Oper} {o : Oper} {next : Act → World → Prop} {Q : Exit → Act → World → Prop} {QV : Value → World → Prop} (h : Comes' P (execOp a.eval o) w QV)
    (hn : ∀ v' w', QV v' w' → next (a.put o.dst v') w') : o.wp P a w next Q := by
  unfold Oper.wp
  rcases h with ⟨v', w', h1, h2⟩ | ⟨w', h1, h2⟩ | ⟨f, args, w1, h1, h2⟩
  · rw [h1]; exact hn _ _ h2
  · rw [h1]; exact hn _ _ h2
  · rw [h1]
    simp only [Oper.upon]
    refine Calls.mono h2 fun e w' he => ?_
    obtain ⟨v', rfl, hq⟩ := he
    exact hn _ _ hq

variable {ρ0 : Inj} {n0 N : Nat}
theorem St.put (h : St P w0 ρ0 n0 N ρ T H a w) {d : Option Nat} (hd : ∀ x, d = some x → x < N) {ρ' : Inj} {v v' : Value} {H' : AH} {w' : World} (hle : ρ.le ρ') (hh : ∀ b, b < H.next → ρ'.loc b = ρ.loc b)
    (hn : H.next ≤ H'.next) (hR : R P ρ' w0 H' w') (hv : VRel ρ' v v') : St P w0 ρ0 n0 N ρ' (updO T d v) H' (a.put d v') w' where
  le := Inj.le_trans h.le hle
  hole b hb := by rw [hh b (Nat.lt_of_lt_of_le hb h.nn)]; exact h.hole b hb
  nn := Nat.le_trans h.nn hn
  r := hR
  t := (h.t.mono hle).put (by rw [h.s]; exact hd) hv
  d := by rw [put_defers]; exact h.d
  s := by rw [put_size]; exact h.s

theorem stepW_sound (hcall : CallOk P call) (h : St P w0 ρ0 n0 N ρ T H a w) {ops : Array Oper} {i : Nat} {o : Oper} (hi : ops[i]? = some o) (ho : operOk P N o = true) {Q : Exit → Act → World → Prop}
    {K : Env → AH → Prop} (hk : stepW P call ops.toList o T H K) {next : Act → World → Prop} (hn : ∀ a w, Nx P w0 ρ0 n0 N K a w → next a w) : wpOp P ops Q i next a w := by
  obtain ⟨hok, hty, hd⟩ := operOk_inv ho
  unfold wpOp
  rw [hi]
  simp only
  have run : runOp P call T o.op H (fun v H' => K (updO T o.dst v) H') → o.wp P a w next Q := fun hr =>
    upon_of_comes (ops := ops) (runOp_sound hcall h.r h.t hok hty hr) (by
      rintro v' w' ⟨ρ', v, H', r1, r2, r3, r4, r5, r6⟩
      exact hn _ _ ⟨ρ', _, H', h.put hd r1 r2 r3 r4 r5, r6⟩)
  unfold stepW at hk
  split at hk
  · rename_i hg
    have : Region.wanted o (yielded ops a.tmps) = true := by simp [Region.wanted, hg]
    rw [this, if_pos rfl]
    exact .inl (run hk)
  · rename_i j want hg
    rcases guard_sound h.t hg hk with ⟨e, hm⟩ | ⟨e, hm⟩
    · rw [e, if_pos rfl]
      exact .inl (run hm)
    · rw [e]
      simp only [Bool.false_eq_true, if_false]
      exact hn _ _ ⟨ρ, _, H, h.put hd ρ.le_refl (fun _ _ => rfl) (Nat.le_refl _) h.r .skip, hm⟩

theorem evOps_sound (hcall : CallOk P call) {ops : Array Oper} (hall : ∀ o ∈ ops.toList, operOk P N o = true) {Q : Exit → Act → World → Prop} {K : Env → AH → Prop}
    (hq : ∀ a w, Nx P w0 ρ0 n0 N K a w → Q .normal a w) : ∀ (l : List Oper) (i : Nat), ops.toList.drop i = l → ∀ (ρ : Inj) (T : Env) (H : AH) (a : Act) (w : World), St P w0 ρ0 n0 N ρ T H a w → evOps P call ops.toList l T H K →
      wpOps P ops Q (List.range' i (ops.size - i)) a w := by
  intro l
  induction l with
  | nil =>
    intro i hl ρ T H a w h hk
    have : ops.size - i = 0 := by
      have := congrArg List.length hl
      simpa using this
    rw [this]
    exact hq _ _ ⟨ρ, T, H, h, hk⟩
  | cons o l ih =>
    intro i hl ρ T H a w h hk
    have hlt : i < ops.size := by
      have := congrArg List.length hl
      simp at this; omega
    have hi : ops[i]? = some o := by
      have := congrArg (·[0]?) hl
      simpa using this
    have hl' : ops.toList.drop (i + 1) = l := by
      rw [← List.drop_drop, hl]; rfl
    obtain ⟨n, hn⟩ : ∃ n, ops.size - i = n + 1 := ⟨ops.size - i - 1, by omega⟩
    rw [hn, List.range'_succ, wpOps_cons]
    have hom : o ∈ ops.toList := List.mem_of_getElem? (i := i) (by simpa using hi)
    refine stepW_sound hcall h hi (hall o hom) hk ?_
    rintro a' w' ⟨ρ', T', H', h', hk'⟩
    have := ih (i + 1) hl' ρ' T' H' a' w' h' hk'
    rwa [show ops.size - (i + 1) = n by omega] at this
end
end Go.AM
