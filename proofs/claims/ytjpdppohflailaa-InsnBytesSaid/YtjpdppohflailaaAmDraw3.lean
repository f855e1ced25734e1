/- THE ABSTRACT MACHINE: a region that draws its order: each step keeps what is so. -/
import Derived.Test.YtjpdppohflailaaAmDraw2
set_option linter.all false
namespace Go.AM
open Go.RowKit (Below)
section
variable {P : Program} {w0 : World} {ρ0 : Inj} {n0 N : Nat} {call : CallT} {ops : Array Oper} {l0 : List (Nat × Nat)}
  (D : Draw P ops.toList l0) {pre l : List (Nat × Nat)} {ps : List (Nat × (AH → Prop))} {T0 T TS : Env} {H : AH} {ρ : Inj} {bl : Nat → Option Nat} {listed : Array Bool} {a : Act} {w : World}

theorem Lst.set {listed : Array Bool} {i j : Nat} (h : Lst listed j) : Lst (listed.setIfInBounds i true) j := getD_set_true h
theorem Lst.set_ne {listed : Array Bool} {i j : Nat} (h : Lst (listed.setIfInBounds i true) j) (e : j ≠ i) : Lst listed j := by
  unfold Lst at *; rwa [getD_set_ne false (Ne.symm e)] at h
theorem Lst.self {listed : Array Bool} {i : Nat} (h : i < listed.size) : Lst (listed.setIfInBounds i true) i := by
  simp [Lst, h]

theorem updO_ne {d : Option Nat} {v : Value} {t : Nat} (h : d ≠ some t) : updO T d v t = T t := by
  cases d with
  | none => rfl
  | some d => simp only [updO, upd]; rw [if_neg (by rintro rfl; exact h rfl)]
theorem updO_self {v : Value} {t : Nat} : updO T (some t) v t = v := by simp [updO, upd]

theorem Pend.rho {ops : List Oper} {ρ ρ' : Inj} {bl : Option Nat} {i : Nat} {o : Oper} {Ti : Env} {v : Value} (h : Pend P n0 ops H ps ρ bl i o Ti v) (hb : ρ'.base = ρ.base) (hl : ∀ b, bl = some b → ρ'.loc b = ρ.loc b) : Pend P n0 ops H ps ρ' bl i o Ti v := by
  rcases h with h | ⟨h1, h | h | h | ⟨b, obj, m, h2, h3, h4, h5, h6, h7, h8, h9, h10⟩⟩
  · exact .inl h
  · exact .inr ⟨h1, .inl h⟩
  · exact .inr ⟨h1, .inr (.inl h)⟩
  · exact .inr ⟨h1, .inr (.inr (.inl h))⟩
  · exact .inr ⟨h1, .inr (.inr (.inr ⟨b, obj, m, h2, h3, h4, h5, by rw [hl b h2]; exact h6, by rw [hb]; exact h7, h8, h9, h10⟩))⟩

include D in
theorem Inv.late (I : Inv P w0 ρ0 n0 N ops l0 pre l ps T0 T H ρ TS bl listed a w) {pr sf : List (Nat × Nat)} {i B : Nat} {o : Oper} (hs : pre = pr ++ (i, B) :: sf) (F : Fair P ops.toList l0 pr i B o) (hi : ¬ Lst listed i)
    (hd : ∀ e ∈ depsOf o, Lst listed e) (hdN : ∀ d, o.dst = some d → d < N) {v v' : Value} {ρ' : Inj} {w' : World} (hv : ∀ d, o.dst = some d → T d = v) (hle : ρ.le ρ') (hl : ∀ y, (∀ b, bl i = some b → y ≠ b) → ρ'.loc y = ρ.loc y)
    (hn : ∀ b, bl i = some b → n0 ≤ b) (hR : R P ρ' w0 H w') (hr : VRel ρ' v v') :
    Inv P w0 ρ0 n0 N ops l0 pre l ps T0 T H ρ' (updO TS o.dst v) bl (listed.setIfInBounds i true) (a.put o.dst v') w' := by
  have hs0 : l0 = pr ++ (i, B) :: (sf ++ l) := by rw [I.split, hs]; simp
  have hB := I.ahead D hs0 F hd
  have hin : ∀ p ∈ pre, p ∈ l0 := fun p hp => by rw [I.split]; simp [hp]
  have hip : (i, B) ∈ pre := by rw [hs]; simp
  have ho : ops.toList[i]? = some o := F.at_
  have hne : ∀ p ∈ l0, p ≠ (i, B) → p.1 ≠ i := fun p hp hne e => hne (D.one hp (hin _ hip) e)
  have hlt : i < listed.size := by
    rw [I.size]
    rcases Nat.lt_or_ge i ops.size with g | g
    · exact g
    · rw [List.getElem?_eq_none (by simpa using g)] at ho; simp at ho
  refine { split := I.split, size := by simp [I.size], later := ?_, muts := fun p hp o ho hm => (I.muts p hp o ho hm).set, closed := ?_, st := ?_, ts1 := ?_, ts2 := ?_, t0 := I.t0, pend := ?_, inj := I.inj, fresh := I.fresh }
  · intro p hp hL
    refine I.later p hp (hL.set_ne fun e => ?_)
    obtain ⟨s, r, hr'⟩ := List.append_of_mem hp
    obtain ⟨o2, F2⟩ := D.fair (pre ++ s) p.1 p.2 r (by rw [I.split, hr']; simp)
    exact F2.new (i, B) (by simp [hip]) e.symm
  · intro p hp hL x hx
    by_cases e : p = (i, B)
    · subst e; exact (hB x hx).set
    · exact (I.closed p hp (hL.set_ne (hne p hp e)) x hx).set
  · exact { le := Inj.le_trans I.st.le hle, hole := fun b hb => by rw [hl b (fun b' h => by have := hn b' h; omega)]; exact I.st.hole b hb, nn := I.st.nn, r := hR,
            t := (I.st.t.mono hle).put (by rw [I.st.s]; exact hdN) hr, d := by rw [put_defers]; exact I.st.d, s := by rw [put_size]; exact I.st.s }
  · intro t p hp o' ho' hdt hL
    have hpi : p ≠ (i, B) := by rintro rfl; exact hL (Lst.self hlt)
    have : o.dst ≠ some t := fun e => hpi (D.writer (hin p hp) (hin _ hip) ho' ho hdt e)
    rw [updO_ne this]
    exact I.ts1 t p hp o' ho' hdt fun h => hL h.set
  · intro t ht
    by_cases e : o.dst = some t
    · rw [e, updO_self]; exact (hv t e).symm
    · rw [updO_ne e]
      refine I.ts2 t fun p hp o' ho' hdt => (ht p hp o' ho' hdt).set_ne fun e' => ?_
      have hq := D.one (hin p hp) (hin _ hip) e'
      subst hq
      rw [ho] at ho'; simp only [Option.some.injEq] at ho'; subst ho'
      exact e hdt
  · intro pr' k B' sf' o' hs' hk ho'
    have hki : k ≠ i := by rintro rfl; exact hk (Lst.self hlt)
    obtain ⟨Ti, u, h1, h2, h3, h4⟩ := I.pend pr' k B' sf' o' hs' (fun h => hk h.set) ho'
    exact ⟨Ti, u, h1, h2, h3, h4.rho hle.1 fun b hb => hl b fun b' hb' e => hki (I.inj k i b hb (e ▸ hb'))⟩

/-- What the abstract run leaves to come late. -/
theorem Pend.later {ops : List Oper} {ρ : Inj} {bl : Option Nat} {i : Nat} {o : Oper} {Ti : Env} {v : Value} (h : Pend P n0 ops H ps ρ bl i o Ti v) (H' : AH) (hH : H' = H ∨ ∃ ob, H' = H.new ob) {ps' : List (Nat × (AH → Prop))} (hps : ∀ x ∈ ps, x ∈ ps') :
    Pend P n0 ops H' ps' ρ bl i o Ti v := by
  have hnx : H.next ≤ H'.next := by
    rcases hH with rfl | ⟨ob, rfl⟩
    · exact Nat.le_refl _
    · exact Nat.le_succ _
  rcases h with h | ⟨h1, h | h | ⟨h2, h3, c, h4, h5⟩ | ⟨b, obj, m, h2, h3, h4, h5, h6, h7, h8, h9, c, h10, h11⟩⟩
  · exact .inl h
  · exact .inr ⟨h1, .inl h⟩
  · exact .inr ⟨h1, .inr (.inl h)⟩
  · refine .inr ⟨h1, .inr (.inr (.inl ⟨h2, ?_, c, hps _ h4, h5⟩))⟩
    rcases hH with rfl | ⟨ob, rfl⟩
    · exact h3
    · exact evR_new ob h3
  · refine .inr ⟨h1, .inr (.inr (.inr ⟨b, obj, m, h2, h3, h4, ?_, h6, h7, h8, by omega, c, hps _ h10, h11⟩))⟩
    rcases hH with rfl | ⟨ob, rfl⟩
    · exact h5
    · rw [AH.get_new_ne _ _ (by omega)]; exact h5

include D in
/-- The abstract run goes on by an operation that is no mutator; the machine has it ahead. -/
theorem Inv.go (I : Inv P w0 ρ0 n0 N ops l0 pre l ps T0 T H ρ TS bl listed a w) {i B : Nat} {l' : List (Nat × Nat)} {o : Oper} (hl : l = (i, B) :: l') (F : Fair P ops.toList l0 pre i B o) (hM : isM P o = false) {v : Value} {H' : AH}
    (hH : H' = H ∨ ∃ ob, H' = H.new ob) {ps' : List (Nat × (AH → Prop))} (hps : ∀ x ∈ ps, x ∈ ps') {bi : Option Nat} (hbi : ∀ b, bi = some b → b = H.next ∧ b < H'.next)
    (hp : Pend P n0 ops.toList H' ps' ρ bi i o T v) :
    Inv P w0 ρ0 n0 N ops l0 (pre ++ [(i, B)]) l' ps' T0 (updO T o.dst v) H' ρ TS (fun k => if k = i then bi else bl k) listed a w := by
  have ho : ops.toList[i]? = some o := F.at_
  have hin : ∀ p ∈ pre, p ∈ l0 := fun p hp => by rw [I.split]; simp [hp]
  have hil : (i, B) ∈ l0 := by rw [I.split, hl]; simp
  have hiu : ¬ Lst listed i := I.later (i, B) (by rw [hl]; simp)
  have huniq : ∀ p ∈ pre, ∀ o', ops.toList[p.1]? = some o' → ∀ t, o'.dst = some t → o.dst ≠ some t := fun p hp o' ho' t ht e =>
    F.new p hp (congrArg Prod.fst (D.writer (hin p hp) hil ho' ho ht e))
  have hnx : H.next ≤ H'.next := by
    rcases hH with rfl | ⟨ob, rfl⟩
    · exact Nat.le_refl _
    · exact Nat.le_succ _
  refine { split := by rw [I.split, hl]; simp, size := I.size, later := fun p hp => I.later p (by rw [hl]; simp [hp]), muts := ?_, closed := I.closed, st := ?_, ts1 := ?_, ts2 := ?_, t0 := ?_, pend := ?_, inj := ?_, fresh := ?_ }
  · intro p hp o' ho' hm
    rcases List.mem_append.1 hp with hp | hp
    · exact I.muts p hp o' ho' hm
    · simp only [List.mem_singleton] at hp; subst hp
      rw [ho] at ho'; simp only [Option.some.injEq] at ho'; subst ho'
      rw [hM] at hm; exact Bool.noConfusion hm
  · rcases hH with rfl | ⟨ob, rfl⟩
    · exact I.st
    · exact { le := I.st.le, hole := I.st.hole, nn := Nat.le_succ_of_le I.st.nn, r := I.st.r.new ob, t := I.st.t, d := I.st.d, s := I.st.s }
  · intro t p hp o' ho' hdt hL
    rcases List.mem_append.1 hp with hp | hp
    · exact I.ts1 t p hp o' ho' hdt hL
    · simp only [List.mem_singleton] at hp; subst hp
      rw [ho] at ho'; simp only [Option.some.injEq] at ho'; subst ho'
      have hno : ∀ p ∈ pre, ∀ oj, ops.toList[p.1]? = some oj → oj.dst ≠ some t := fun p hp oj hj e => huniq p hp oj hj t e hdt
      rw [I.ts2 t (fun p hp oj hj e => absurd e (hno p hp oj hj)), I.t0 t hno]
  · intro t ht
    have hne : o.dst ≠ some t := fun e => hiu (ht (i, B) (by simp) o ho e)
    rw [updO_ne hne]
    exact I.ts2 t fun p hp o' ho' hdt => ht p (by simp [hp]) o' ho' hdt
  · intro t ht
    rw [updO_ne (ht (i, B) (by simp) o ho)]
    exact I.t0 t fun p hp o' ho' => ht p (by simp [hp]) o' ho'
  · intro pr k B' sf o' hs hk ho'
    by_cases e : k = i
    · subst e
      rw [ho] at ho'; simp only [Option.some.injEq] at ho'; subst ho'
      have hpr : pr = pre ∧ sf = [] := by
        rcases List.eq_nil_or_concat sf with h | ⟨sf', z, h⟩
        · subst h
          have := List.append_inj' hs (by simp)
          exact ⟨this.1.symm, rfl⟩
        · exfalso
          subst h
          have hs2 : pre ++ [(k, B)] = (pr ++ (k, B') :: sf') ++ [z] := by rw [hs]; simp
          have := List.append_inj' hs2 (by simp)
          exact F.new (k, B') (by rw [this.1]; simp) rfl
      obtain ⟨rfl, rfl⟩ := hpr
      refine ⟨T, v, fun d hd => by rw [hd, updO_self], I.t0, fun t p hp oj hj hdt => (updO_ne (huniq p hp oj hj t hdt)).symm, ?_⟩
      simp only [if_true]; exact hp
    · have hs' : ∃ sf', pre = pr ++ (k, B') :: sf' := by
        rcases List.eq_nil_or_concat sf with h | ⟨sf', z, h⟩
        · subst h
          have := List.append_inj' hs (by simp)
          simp only [List.cons.injEq, Prod.mk.injEq, and_true] at this
          exact absurd this.2.1.symm e
        · subst h
          have hs2 : pre ++ [(i, B)] = (pr ++ (k, B') :: sf') ++ [z] := by rw [hs]; simp
          exact ⟨sf', (List.append_inj' hs2 (by simp)).1⟩
      obtain ⟨sf', hs'⟩ := hs'
      obtain ⟨Ti, u, h1, h2, h3, h4⟩ := I.pend pr k B' sf' o' hs' hk ho'
      have hkp : (k, B') ∈ pre := by rw [hs']; simp
      refine ⟨Ti, u, fun d hd => by rw [updO_ne (huniq _ hkp o' ho' d hd)]; exact h1 d hd, h2, fun t p hp oj hj hdt => by
        rw [updO_ne (huniq p (by rw [hs']; simp [hp]) oj hj t hdt)]; exact h3 t p hp oj hj hdt, ?_⟩
      rw [if_neg e]
      exact h4.later H' hH hps
  · intro x y b hx hy
    split at hx
    · rename_i ex
      split at hy
      · rename_i ey; rw [ex, ey]
      · have := I.fresh y b hy; have := (hbi b hx).1; omega
    · split at hy
      · have := I.fresh x b hx; have := (hbi b hy).1; omega
      · exact I.inj x y b hx hy
  · intro x b hx
    split at hx
    · exact (hbi b hx).2
    · exact Nat.lt_of_lt_of_le (I.fresh x b hx) hnx

include D in
/-- The mutator at the head is carried out. -/
theorem Inv.head (I : Inv P w0 ρ0 n0 N ops l0 pre l ps T0 T H ρ TS bl listed a w) {i B : Nat} {l' : List (Nat × Nat)} {o : Oper} (hl : l = (i, B) :: l') (F : Fair P ops.toList l0 pre i B o)
    (hd : ∀ e ∈ depsOf o, Lst listed e) (hdN : ∀ d, o.dst = some d → d < N) {v v' : Value} {ρ' : Inj} {H' : AH} {w' : World} (hle : ρ.le ρ') (hlo : ∀ b, b < H.next → ρ'.loc b = ρ.loc b) (hnx : H.next ≤ H'.next)
    (hR : R P ρ' w0 H' w') (hr : VRel ρ' v v') (hpend : ∀ k c, (k, c) ∈ ps → B.testBit k = false → c H') :
    Inv P w0 ρ0 n0 N ops l0 (pre ++ [(i, B)]) l' ps T0 (updO T o.dst v) H' ρ' (updO TS o.dst v) bl (listed.setIfInBounds i true) (a.put o.dst v') w' := by
  have ho : ops.toList[i]? = some o := F.at_
  have hin : ∀ p ∈ pre, p ∈ l0 := fun p hp => by rw [I.split]; simp [hp]
  have hs0 : l0 = pre ++ (i, B) :: l' := by rw [I.split, hl]
  have hil : (i, B) ∈ l0 := by rw [hs0]; simp
  have hiu : ¬ Lst listed i := I.later (i, B) (by rw [hl]; simp)
  have hB := I.ahead D hs0 F hd
  have huniq : ∀ p ∈ pre, ∀ o', ops.toList[p.1]? = some o' → ∀ t, o'.dst = some t → o.dst ≠ some t := fun p hp o' ho' t ht e =>
    F.new p hp (congrArg Prod.fst (D.writer (hin p hp) hil ho' ho ht e))
  have hlt : i < listed.size := by
    rw [I.size]
    rcases Nat.lt_or_ge i ops.size with g | g
    · exact g
    · rw [List.getElem?_eq_none (by simpa using g)] at ho; simp at ho
  refine { split := by rw [hs0]; simp, size := by simp [I.size], later := ?_, muts := ?_, closed := ?_, st := I.st.put hdN hle hlo hnx hR hr, ts1 := ?_, ts2 := ?_, t0 := ?_, pend := ?_, inj := I.inj, fresh := fun k b hb => Nat.lt_of_lt_of_le (I.fresh k b hb) hnx }
  · intro p hp hL
    refine I.later p (by rw [hl]; simp [hp]) (hL.set_ne fun e => ?_)
    obtain ⟨s, r, hr'⟩ := List.append_of_mem hp
    obtain ⟨o2, F2⟩ := D.fair (pre ++ (i, B) :: s) p.1 p.2 r (by rw [hs0, hr']; simp)
    exact F2.new (i, B) (by simp) e.symm
  · intro p hp o' ho' hm
    rcases List.mem_append.1 hp with hp | hp
    · exact (I.muts p hp o' ho' hm).set
    · simp only [List.mem_singleton] at hp; subst hp; exact Lst.self hlt
  · intro p hp hL x hx
    by_cases e : p.1 = i
    · have := D.one hp hil e
      subst this; exact (hB x hx).set
    · exact (I.closed p hp (hL.set_ne e) x hx).set
  · intro t p hp o' ho' hdt hL
    rcases List.mem_append.1 hp with hp | hp
    · rw [updO_ne (huniq p hp o' ho' t hdt)]
      exact I.ts1 t p hp o' ho' hdt fun h => hL h.set
    · simp only [List.mem_singleton] at hp; subst hp; exact absurd (Lst.self hlt) hL
  · intro t ht
    by_cases e : o.dst = some t
    · rw [e, updO_self, updO_self]
    · rw [updO_ne e, updO_ne e]
      exact I.ts2 t fun p hp o' ho' hdt => (ht p (by simp [hp]) o' ho' hdt).set_ne (F.new p hp)
  · intro t ht
    rw [updO_ne (ht (i, B) (by simp) o ho)]
    exact I.t0 t fun p hp o' ho' => ht p (by simp [hp]) o' ho'
  · intro pr k B' sf o' hs hk ho'
    have hki : k ≠ i := by rintro rfl; exact hk (Lst.self hlt)
    have hs' : ∃ sf', pre = pr ++ (k, B') :: sf' := by
      rcases List.eq_nil_or_concat sf with h | ⟨sf', z, h⟩
      · subst h
        have := List.append_inj' hs (by simp)
        simp only [List.cons.injEq, Prod.mk.injEq, and_true] at this
        exact absurd this.2.1.symm hki
      · subst h
        have hs2 : pre ++ [(i, B)] = (pr ++ (k, B') :: sf') ++ [z] := by rw [hs]; simp
        exact ⟨sf', (List.append_inj' hs2 (by simp)).1⟩
    obtain ⟨sf', hs'⟩ := hs'
    have hku : ¬ Lst listed k := fun h => hk h.set
    obtain ⟨Ti, u, h1, h2, h3, h4⟩ := I.pend pr k B' sf' o' hs' hku ho'
    have hkp : (k, B') ∈ pre := by rw [hs']; simp
    have hkB : B.testBit k = false := by
      cases hq : B.testBit k with
      | false => rfl
      | true => exact absurd (hB k hq) hku
    refine ⟨Ti, u, fun d hd => by rw [updO_ne (huniq _ hkp o' ho' d hd)]; exact h1 d hd, h2, fun t p hp oj hj hdt => by
      rw [updO_ne (huniq p (by rw [hs']; simp [hp]) oj hj t hdt)]; exact h3 t p hp oj hj hdt, ?_⟩
    rcases h4 with h | ⟨g, h | h | ⟨q2, q3, c, q4, q5⟩ | ⟨b, obj, m, q2, q3, q4, q5, q6, q7, q8, q9, c, q10, q11⟩⟩
    · exact .inl h
    · exact .inr ⟨g, .inl h⟩
    · exact .inr ⟨g, .inr (.inl h)⟩
    · exact .inr ⟨g, .inr (.inr (.inl ⟨q2, q5 _ (hpend k c q4 hkB), c, q4, q5⟩))⟩
    · exact .inr ⟨g, .inr (.inr (.inr ⟨b, obj, m, q2, q3, q4, q11 _ (hpend k c q10 hkB), by rw [hlo b q9]; exact q6, by rw [hle.1]; exact q7, q8, Nat.lt_of_lt_of_le q9 hnx, c, q10, q11⟩))⟩
end
end Go.AM
