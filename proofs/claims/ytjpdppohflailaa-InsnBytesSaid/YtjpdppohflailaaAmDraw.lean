/- THE ABSTRACT MACHINE: a region that draws its order: what 'drawOk' says. -/
import Derived.Test.YtjpdppohflailaaAmCongr
set_option linter.all false
namespace Go.AM
open Go.RowKit (Below)
section
variable {P : Program}

theorem inRd_no {d : Option Nat} {l : List Nat} (h : inRd d l = false) (x : Nat) (hx : d = some x) : x ∉ l := by
  subst hx
  intro hm
  simp only [inRd] at h
  rw [List.contains_iff_mem.2 hm] at h
  exact Bool.noConfusion h
theorem sameDst_no {a b : Option Nat} (h : sameDst a b = false) (x : Nat) (hx : a = some x) : b ≠ some x := by
  subst hx
  rintro rfl
  simp [sameDst] at h

/-- What is known of an operation, and of what stands ahead of it in the order. -/
structure Fair (P : Program) (ops : List Oper) (l0 pre : List (Nat × Nat)) (i B : Nat) (o : Oper) : Prop where
  at_ : ops[i]? = some o
  deps : ∀ e ∈ depsOf o, ∃ p ∈ pre, p.1 = e
  mask : ∀ x, B.testBit x = true → ∃ e ∈ depsOf o, e = x ∨ (maskOf l0 e).testBit x = true
  new : ∀ p ∈ pre, p.1 ≠ i
  muts : ∀ p ∈ pre, ∀ oj, ops[p.1]? = some oj → isM P oj = true → B.testBit p.1 = true
  dst : ∀ p ∈ pre, ∀ oj, ops[p.1]? = some oj → ∀ t, oj.dst = some t → o.dst ≠ some t
  ord : ∀ p ∈ pre, ∀ oj, ops[p.1]? = some oj → B.testBit p.1 = true ∨ ((∀ t, oj.dst = some t → t ∉ reads ops o) ∧ (∀ t, o.dst = some t → t ∉ reads ops oj))
  nosel : ∀ cs b, o.op ≠ .select cs b

theorem fold_mask {l0 : List (Nat × Nat)} {x : Nat} : ∀ (l : List Nat) (s : Nat), (l.foldl (fun s e => s ||| 2 ^ e ||| maskOf l0 e) s).testBit x = true → s.testBit x = true ∨ ∃ e ∈ l, e = x ∨ (maskOf l0 e).testBit x = true := by
  intro l
  induction l with
  | nil => intro s h; exact .inl h
  | cons e l ih =>
    intro s h
    rcases ih _ h with h | ⟨e', he', h⟩
    · simp only [Nat.testBit_or, Bool.or_eq_true, Nat.testBit_two_pow, decide_eq_true_eq] at h
      rcases h with (h | h) | h
      · exact .inl h
      · exact .inr ⟨e, by simp, .inl h⟩
      · exact .inr ⟨e, by simp, .inr h⟩
    · exact .inr ⟨e', by simp [he'], h⟩

theorem drawGo_fair {ops : List Oper} {l0 : List (Nat × Nat)} : ∀ (suf pre : List (Nat × Nat)) (d : List Done) (done muts : Nat),
    (∀ p ∈ pre, ∀ oj, ops[p.1]? = some oj → (⟨p.1, oj.dst, reads ops oj⟩ : Done) ∈ d) → d.length = pre.length →
    (∀ x, done.testBit x = true ↔ ∃ p ∈ pre, p.1 = x) →
    (∀ p ∈ pre, ∀ oj, ops[p.1]? = some oj → isM P oj = true → muts.testBit p.1 = true) →
    drawGo P ops l0 suf d done muts = true →
    (∀ p1 i B s1, suf = p1 ++ (i, B) :: s1 → ∃ o, Fair P ops l0 (pre ++ p1) i B o) ∧ pre.length + suf.length = ops.length ∧ ∀ i, i < ops.length → ∃ p ∈ pre ++ suf, p.1 = i := by
  intro suf
  induction suf with
  | nil =>
    intro pre d done muts hd hl hdone hm h
    simp only [drawGo, Bool.and_eq_true, beq_iff_eq, List.all_eq_true, List.mem_range] at h
    refine ⟨fun p1 i B s1 h => by simp at h, by simp; omega, fun i hi => ?_⟩
    obtain ⟨p, hp, e⟩ := (hdone i).1 (h.2 i hi)
    exact ⟨p, by simp [hp], e⟩
  | cons q suf ih =>
    obtain ⟨i, B⟩ := q
    intro pre d done muts hd hl hdone hm h
    simp only [drawGo] at h
    cases ho : ops[i]? with
    | none => rw [ho] at h; simp at h
    | some o =>
      rw [ho] at h
      simp only [Bool.and_eq_true, Bool.not_eq_true', List.all_eq_true, Bool.or_eq_true] at h
      obtain ⟨⟨⟨⟨⟨⟨h1, h2⟩, h3⟩, h4⟩, h5⟩, h6⟩, h7⟩ := h
      have hF : Fair P ops l0 pre i B o := by
        refine ⟨ho, fun e he => (hdone e).1 (h2 e he), ?_, ?_, ?_, ?_, ?_, ?_⟩
        · intro x hx
          rw [eq_of_beq h3] at hx
          rcases fold_mask _ _ hx with h | h
          · simp at h
          · exact h
        · rintro p hp rfl
          rw [(hdone p.1).2 ⟨p, hp, rfl⟩] at h1; exact Bool.noConfusion h1
        · intro p hp oj hj hmj
          have := congrArg (·.testBit p.1) (eq_of_beq h4)
          simp only [Nat.testBit_and] at this
          rw [hm p hp oj hj hmj] at this
          simpa using this
        · intro p hp oj hj t ht
          have := (h5 _ (hd p hp oj hj)).1
          exact sameDst_no (by simpa using this) t ht
        · intro p hp oj hj
          rcases (h5 _ (hd p hp oj hj)).2 with h | h
          · exact .inl h
          · simp only [Bool.or_eq_false_iff] at h
            exact .inr ⟨inRd_no h.1, inRd_no h.2⟩
        · intro cs b e
          rw [e] at h6; exact Bool.noConfusion h6
      obtain ⟨r1, r2, r3⟩ := ih (pre ++ [(i, B)]) _ _ _ (by
          intro p hp oj hj
          rcases List.mem_append.1 hp with hp | hp
          · exact List.mem_cons_of_mem _ (hd p hp oj hj)
          · simp only [List.mem_singleton] at hp; subst hp
            rw [ho] at hj; simp only [Option.some.injEq] at hj; subst hj
            exact List.mem_cons_self) (by simp [hl]) (by
          intro x
          simp only [Nat.testBit_or, Bool.or_eq_true, Nat.testBit_two_pow, decide_eq_true_eq, hdone x]
          constructor
          · rintro (⟨p, hp, e⟩ | e)
            · exact ⟨p, by simp [hp], e⟩
            · exact ⟨(i, B), by simp, e⟩
          · rintro ⟨p, hp, e⟩
            rcases List.mem_append.1 hp with hp | hp
            · exact .inl ⟨p, hp, e⟩
            · simp only [List.mem_singleton] at hp; subst hp; exact .inr e) (by
          intro p hp oj hj hmj
          rcases List.mem_append.1 hp with hp | hp
          · split
            · rw [Nat.testBit_or, hm p hp oj hj hmj]; rfl
            · exact hm p hp oj hj hmj
          · simp only [List.mem_singleton] at hp; subst hp
            rw [ho] at hj; simp only [Option.some.injEq] at hj; subst hj
            rw [hmj]
            simp [Nat.testBit_or, Nat.testBit_two_pow]) h7
      refine ⟨?_, by simp at r2 ⊢; omega, by simpa using r3⟩
      intro p1 j B' s1 he
      cases p1 with
      | nil =>
        simp only [List.nil_append, List.cons.injEq, Prod.mk.injEq] at he
        obtain ⟨⟨rfl, rfl⟩, rfl⟩ := he
        exact ⟨o, by simpa using hF⟩
      | cons z p1 =>
        simp only [List.cons_append, List.cons.injEq] at he
        obtain ⟨rfl, he⟩ := he
        obtain ⟨o', ho'⟩ := r1 p1 j B' s1 he
        exact ⟨o', by simpa using ho'⟩

/-- What 'drawOk' says. -/
structure Draw (P : Program) (ops : List Oper) (l0 : List (Nat × Nat)) : Prop where
  fair : ∀ pre i B suf, l0 = pre ++ (i, B) :: suf → ∃ o, Fair P ops l0 pre i B o
  len : l0.length = ops.length
  all : ∀ i, i < ops.length → ∃ p ∈ l0, p.1 = i

theorem drawOk_draw {ops : List Oper} {l0 : List (Nat × Nat)} (h : drawOk P ops l0 = true) : Draw P ops l0 := by
  obtain ⟨h1, h2, h3⟩ := drawGo_fair l0 [] [] 0 0 (by simp) rfl (by simp) (by simp) h
  exact ⟨fun pre i B suf e => by simpa using h1 pre i B suf e, by simpa using h2, by simpa using h3⟩

section
variable {ops : List Oper} {l0 : List (Nat × Nat)} (D : Draw P ops l0)
include D
/-- Two places of the order with one number are one. -/
theorem Draw.one {p q : Nat × Nat} (hp : p ∈ l0) (hq : q ∈ l0) (e : p.1 = q.1) : p = q := by
  obtain ⟨s, t, hs⟩ := List.append_of_mem hp
  have hp2 := hq
  rw [hs] at hq
  rcases List.mem_append.1 hq with h | h
  · obtain ⟨o, F⟩ := D.fair s p.1 p.2 t hs
    exact absurd e.symm (F.new q h)
  · rcases List.mem_cons.1 h with h | h
    · exact h.symm
    · obtain ⟨s', t', ht⟩ := List.append_of_mem h
      obtain ⟨o, F⟩ := D.fair (s ++ p :: s') q.1 q.2 t' (by rw [hs, ht]; simp)
      exact absurd e (F.new p (by simp))
theorem Draw.mask {i B : Nat} (h : (i, B) ∈ l0) : maskOf l0 i = B := by
  have : ∀ l : List (Nat × Nat), (∀ p ∈ l, p ∈ l0) → (i, B) ∈ l → maskOf l i = B := by
    intro l
    induction l with
    | nil => intro _ h; simp at h
    | cons q l ih =>
      intro hs hm
      unfold maskOf
      split
      · rename_i e
        have := D.one (hs q (by simp)) h (eq_of_beq e)
        rw [this]
      · rename_i e
        rcases List.mem_cons.1 hm with hm | hm
        · rw [← hm] at e; simp at e
        · exact ih (fun p hp => hs p (by simp [hp])) hm
  exact this l0 (fun _ h => h) h
/-- Who writes a slot. -/
theorem Draw.writer {p q : Nat × Nat} (hp : p ∈ l0) (hq : q ∈ l0) {o o' : Oper} (ho : ops[p.1]? = some o) (ho' : ops[q.1]? = some o') {t : Nat} (ht : o.dst = some t) (ht' : o'.dst = some t) : p = q := by
  obtain ⟨s, r, hs⟩ := List.append_of_mem hp
  rw [hs] at hq
  rcases List.mem_append.1 hq with h | h
  · obtain ⟨o2, F⟩ := D.fair s p.1 p.2 r hs
    have := F.at_; rw [ho] at this; simp only [Option.some.injEq] at this; subst this
    exact absurd ht (F.dst q h o' ho' t ht')
  · rcases List.mem_cons.1 h with h | h
    · exact h.symm
    · obtain ⟨s', t', ht2⟩ := List.append_of_mem h
      obtain ⟨o2, F⟩ := D.fair (s ++ p :: s') q.1 q.2 t' (by rw [hs, ht2]; simp)
      have := F.at_; rw [ho'] at this; simp only [Option.some.injEq] at this; subst this
      exact absurd ht' (F.dst p (by simp) o ho t ht)
end

theorem mem_reads {ops : List Oper} {o : Oper} {x : Operand} {t : Nat} (hx : x ∈ o.op.operands) (e : x = .tmp t) : t ∈ reads ops o := by
  subst e
  refine List.mem_append_left _ (List.mem_flatMap.2 ⟨.tmp t, by simpa using hx, ?_⟩)
  simp [optSlot]
theorem ev_reads {ops : List Oper} {o : Oper} {T T' : Env} (h : ∀ t ∈ reads ops o, T t = T' t) : ∀ x ∈ o.op.operands, ev T x = ev T' x := by
  intro x hx
  cases x with
  | tmp t => exact h t (mem_reads hx rfl)
  | _ => rfl
theorem gval_reads {ops : List Oper} {o : Oper} {T T' : Env} (h : ∀ t ∈ reads ops o, T t = T' t) {j : Nat} {b : Bool} (hg : o.guard = some (j, b)) : gval ops T j = gval ops T' j := by
  unfold gval
  cases hj : ops[j]? with
  | none => rfl
  | some oj =>
    simp only
    cases hd : oj.dst with
    | none => rfl
    | some d => exact h d (List.mem_append_right _ (by simp [hg, hj, hd]))
end
end Go.AM
