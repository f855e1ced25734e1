/- THE ABSTRACT MACHINE: a region that draws its order: what is so while it is carried out. -/
import Derived.Test.YtjpdppohflailaaAmDraw
set_option linter.all false
namespace Go.AM
open Go.RowKit (Below)
section
variable {P : Program} {w0 : World} {ρ0 : Inj} {n0 N : Nat} {call : CallT} {ops : Array Oper} {l0 : List (Nat × Nat)}

def Lst (listed : Array Bool) (i : Nat) : Prop := listed.getD i false = true

/-- An operation that the abstract run has behind it, and the machine ahead of it. -/
def Pend (P : Program) (n0 : Nat) (ops : List Oper) (H : AH) (ps : List (Nat × (AH → Prop))) (ρ : Inj) (bl : Option Nat) (i : Nat) (o : Oper) (Ti : Env) (v : Value) : Prop :=
  (bl = none ∧ v = skipV ∧ ∃ j want, o.guard = some (j, want) ∧ skips (gval ops Ti j) want) ∨
  ((∀ j want, o.guard = some (j, want) → gval ops Ti j = .bool want) ∧
    ((bl = none ∧ moved Ti o.op = some v) ∨ (bl = none ∧ evP P Ti o.op = some v) ∨
     (bl = none ∧ evR P Ti o.op H = some v ∧ ∃ c, (i, c) ∈ ps ∧ ∀ Hx, c Hx → evR P Ti o.op Hx = some v) ∨
     (∃ b obj m, bl = some b ∧ evA P Ti o.op = some (obj, m) ∧ v = m b ∧ H.get b = obj ∧ ρ.loc b = none ∧ ρ.base ≤ b ∧ n0 ≤ b ∧ b < H.next ∧ ∃ c, (i, c) ∈ ps ∧ ∀ Hx, c Hx → Hx.get b = obj)))

structure Inv (P : Program) (w0 : World) (ρ0 : Inj) (n0 N : Nat) (ops : Array Oper) (l0 pre l : List (Nat × Nat)) (ps : List (Nat × (AH → Prop))) (T0 T : Env) (H : AH) (ρ : Inj) (TS : Env) (bl : Nat → Option Nat)
    (listed : Array Bool) (a : Act) (w : World) : Prop where
  split : l0 = pre ++ l
  size : listed.size = ops.size
  later : ∀ p ∈ l, ¬ Lst listed p.1
  muts : ∀ p ∈ pre, ∀ o, ops.toList[p.1]? = some o → isM P o = true → Lst listed p.1
  closed : ∀ p ∈ l0, Lst listed p.1 → ∀ x, p.2.testBit x = true → Lst listed x
  st : St P w0 ρ0 n0 N ρ TS H a w
  ts1 : ∀ t, ∀ p ∈ pre, ∀ o, ops.toList[p.1]? = some o → o.dst = some t → ¬ Lst listed p.1 → TS t = T0 t
  ts2 : ∀ t, (∀ p ∈ pre, ∀ o, ops.toList[p.1]? = some o → o.dst = some t → Lst listed p.1) → TS t = T t
  t0 : ∀ t, (∀ p ∈ pre, ∀ o, ops.toList[p.1]? = some o → o.dst ≠ some t) → T t = T0 t
  pend : ∀ pr i B sf o, pre = pr ++ (i, B) :: sf → ¬ Lst listed i → ops.toList[i]? = some o → ∃ Ti v, (∀ d, o.dst = some d → T d = v) ∧
    (∀ t, (∀ p ∈ pr, ∀ oj, ops.toList[p.1]? = some oj → oj.dst ≠ some t) → Ti t = T0 t) ∧ (∀ t, ∀ p ∈ pr, ∀ oj, ops.toList[p.1]? = some oj → oj.dst = some t → Ti t = T t) ∧
    Pend P n0 ops.toList H ps ρ (bl i) i o Ti v
  inj : ∀ i j b, bl i = some b → bl j = some b → i = j
  fresh : ∀ i b, bl i = some b → b < H.next

section
variable (D : Draw P ops.toList l0) {pre l : List (Nat × Nat)} {ps : List (Nat × (AH → Prop))} {T0 T TS : Env} {H : AH} {ρ : Inj} {bl : Nat → Option Nat} {listed : Array Bool} {a : Act} {w : World}
  (I : Inv P w0 ρ0 n0 N ops l0 pre l ps T0 T H ρ TS bl listed a w)
include D I

/-- What is ready has all ahead of it that must be. -/
theorem Inv.ahead {pr sf : List (Nat × Nat)} {i B : Nat} {o : Oper} (hs : l0 = pr ++ (i, B) :: sf) (F : Fair P ops.toList l0 pr i B o) (hd : ∀ e ∈ depsOf o, Lst listed e) : ∀ x, B.testBit x = true → Lst listed x := by
  intro x hx
  obtain ⟨e, he, h⟩ := F.mask x hx
  rcases h with rfl | h
  · exact hd e he
  · obtain ⟨q, hq, rfl⟩ := F.deps e he
    have hq0 : q ∈ l0 := by rw [hs]; simp [hq]
    rw [D.mask (i := q.1) (B := q.2) hq0] at h
    exact I.closed q hq0 (hd _ he) x h

/-- What an operation of the front reads is what it read in the abstract run. -/
theorem Inv.reads_pend {pr sf : List (Nat × Nat)} {i B : Nat} {o : Oper} (hs : pre = pr ++ (i, B) :: sf) (F : Fair P ops.toList l0 pr i B o) (hi : ¬ Lst listed i) (hd : ∀ e ∈ depsOf o, Lst listed e)
    {Ti : Env} (h0 : ∀ t, (∀ p ∈ pr, ∀ oj, ops.toList[p.1]? = some oj → oj.dst ≠ some t) → Ti t = T0 t) (h1 : ∀ t, ∀ p ∈ pr, ∀ oj, ops.toList[p.1]? = some oj → oj.dst = some t → Ti t = T t) :
    ∀ t ∈ reads ops.toList o, Ti t = TS t := by
  intro t ht
  have hs0 : l0 = pr ++ (i, B) :: (sf ++ l) := by rw [I.split, hs]; simp
  have hB := I.ahead D hs0 F hd
  have hin : ∀ p ∈ pre, p ∈ l0 := fun p hp => by rw [I.split]; simp [hp]
  by_cases h : ∃ p ∈ pr, ∃ oj, ops.toList[p.1]? = some oj ∧ oj.dst = some t
  · obtain ⟨p, hp, oj, ho, hdt⟩ := h
    rw [h1 t p hp oj ho hdt]
    refine (I.ts2 t fun q hq o' ho' hdt' => ?_).symm
    have := D.writer (hin q hq) (hin p (by rw [hs]; simp [hp])) ho' ho hdt' hdt
    subst this
    rcases F.ord q hp oj ho with h | h
    · exact hB _ h
    · exact absurd ht (h.1 t hdt)
  · have hno : ∀ p ∈ pr, ∀ oj, ops.toList[p.1]? = some oj → oj.dst ≠ some t := fun p hp oj ho hdt => h ⟨p, hp, oj, ho, hdt⟩
    rw [h0 t hno]
    by_cases h' : ∃ p ∈ pre, ∃ oj, ops.toList[p.1]? = some oj ∧ oj.dst = some t
    · obtain ⟨p, hp, oj, ho, hdt⟩ := h'
      refine (I.ts1 t p hp oj ho hdt ?_).symm
      rw [hs] at hp
      rcases List.mem_append.1 hp with hp' | hp'
      · exact absurd hdt (hno p hp' oj ho)
      · rcases List.mem_cons.1 hp' with rfl | hp'
        · exact hi
        · obtain ⟨s, r, hr⟩ := List.append_of_mem hp'
          obtain ⟨o2, F2⟩ := D.fair (pr ++ (i, B) :: s) p.1 p.2 (r ++ l) (by rw [hs0, hr]; simp)
          have := F2.at_; rw [ho] at this; simp only [Option.some.injEq] at this; subst this
          intro hl
          rcases F2.ord (i, B) (by simp) o F.at_ with h | h
          · exact hi (I.closed p (hin p (by rw [hs]; simp [hp'])) hl _ h)
          · exact h.2 t hdt ht
    · have hno' : ∀ p ∈ pre, ∀ oj, ops.toList[p.1]? = some oj → oj.dst ≠ some t := fun p hp oj ho hdt => h' ⟨p, hp, oj, ho, hdt⟩
      rw [I.ts2 t (fun p hp oj ho hdt => absurd hdt (hno' p hp oj ho)), I.t0 t hno']

/-- What the operation at the head reads is what the abstract run has. -/
theorem Inv.reads_head {l' : List (Nat × Nat)} {i B : Nat} {o : Oper} (hl : l = (i, B) :: l') (F : Fair P ops.toList l0 pre i B o) (hd : ∀ e ∈ depsOf o, Lst listed e) : ∀ t ∈ reads ops.toList o, T t = TS t := by
  intro t ht
  have hB := I.ahead D (by rw [I.split, hl]) F hd
  refine (I.ts2 t fun q hq o' ho' hdt' => ?_).symm
  rcases F.ord q hq o' ho' with h | h
  · exact hB _ h
  · exact absurd ht (h.1 t hdt')
end

/-- An operation as a region carries it out; what comes of it. -/
def stepV (P : Program) (call : CallT) (ops : List Oper) (o : Oper) (T : Env) (H : AH) (KV : Value → AH → Prop) : Prop :=
  match o.guard with
  | none => runOp P call T o.op H KV
  | some (j, want) => gd (gval ops T j) want (runOp P call T o.op H) H KV
theorem stepW_stepV {ops : List Oper} {o : Oper} {T : Env} {H : AH} {K : Env → AH → Prop} (h : stepW P call ops o T H K) : stepV P call ops o T H (fun v H' => K (updO T o.dst v) H') := h
theorem stepV_congr {ops : List Oper} {o : Oper} {T T' : Env} {H : AH} {KV : Value → AH → Prop} (h : ∀ t ∈ reads ops o, T t = T' t) : stepV P call ops o T H KV = stepV P call ops o T' H KV := by
  unfold stepV
  split
  · rw [runOp_congr (ev_reads h)]
  · rename_i j want hg
    rw [gval_reads h hg]
    congr 1
    funext K
    rw [runOp_congr (ev_reads h)]

theorem stepV_sound (hcall : CallOk P call) {ρ : Inj} {T : Env} {H : AH} {a : Act} {w : World} (hR : R P ρ w0 H w) (hT : TRel ρ T a) {i : Nat} {o : Oper} (hi : ops[i]? = some o) (ho : operOk P N o = true) {Q : Exit → Act → World → Prop}
    {KV : Value → AH → Prop} (hk : stepV P call ops.toList o T H KV) {next : Act → World → Prop}
    (hn : ∀ v' w', Post P ρ w0 H.next KV v' w' → next (a.put o.dst v') w') : wpOp P ops Q i next a w := by
  obtain ⟨hok, hty, hd⟩ := operOk_inv ho
  unfold wpOp
  rw [hi]
  simp only
  have run : runOp P call T o.op H KV → o.wp P a w next Q := fun hr =>
    upon_of_comes (ops := ops) (runOp_sound hcall hR hT hok hty hr) hn
  unfold stepV at hk
  split at hk
  · rename_i hg
    have : Region.wanted o (yielded ops a.tmps) = true := by simp [Region.wanted, hg]
    rw [this, if_pos rfl]
    exact .inl (run hk)
  · rename_i j want hg
    rcases guard_sound hT hg hk with ⟨e, hm⟩ | ⟨e, hm⟩
    · rw [e, if_pos rfl]
      exact .inl (run hm)
    · rw [e]
      simp only [Bool.false_eq_true, if_false]
      exact hn _ _ (post_same (Nat.le_refl _) hR .skip hm)

/-- A late operation. -/
theorem pend_sound {ρ : Inj} {Ti TS : Env} {H : AH} {a : Act} {w : World} (hR : R P ρ w0 H w) (hT : TRel ρ TS a) {i : Nat} {o : Oper} (hi : ops[i]? = some o) (ho : operOk P N o = true) {Q : Exit → Act → World → Prop}
    {ps : List (Nat × (AH → Prop))} {bl : Option Nat} {v : Value} (hrd : ∀ t ∈ reads ops.toList o, Ti t = TS t) (hp : Pend P n0 ops.toList H ps ρ bl i o Ti v) {next : Act → World → Prop}
    (hn : ∀ ρ' v' w', ρ.le ρ' → (∀ y, (∀ b, bl = some b → y ≠ b) → ρ'.loc y = ρ.loc y) → (∀ b, bl = some b → n0 ≤ b) → R P ρ' w0 H w' → VRel ρ' v v' → next (a.put o.dst v') w') : wpOp P ops Q i next a w := by
  obtain ⟨hok, hty, hd⟩ := operOk_inv ho
  have hev := ev_reads hrd
  unfold wpOp
  rw [hi]
  simp only
  rcases hp with ⟨hb, rfl, j, want, hg, hgv⟩ | ⟨hg, hp⟩
  · have : Region.wanted o (yielded ops a.tmps) = false := by
      rw [gval_reads hrd hg] at hgv
      rcases hgv with hgv | hgv
      · simp only [Region.wanted, hg, gd_want hT hgv]
        cases want <;> rfl
      · simp only [Region.wanted, hg, gd_skip_want hT hgv]
        rfl
    rw [this]
    simp only [Bool.false_eq_true, if_false]
    exact hn ρ _ w ρ.le_refl (fun _ _ => rfl) (fun b h => by rw [hb] at h; simp at h) hR .skip
  · have : Region.wanted o (yielded ops a.tmps) = true := by
      cases hq : o.guard with
      | none => simp [Region.wanted, hq]
      | some g =>
        obtain ⟨j, want⟩ := g
        have hgv := hg j want hq
        rw [gval_reads hrd hq] at hgv
        simp only [Region.wanted, hq, gd_want hT hgv]
        cases want <;> rfl
    rw [this, if_pos rfl]
    refine .inl ?_
    have value : ∀ v' w', (execOp a.eval o).run P w = .ok (.value v') w' → next (a.put o.dst v') w' → o.wp P a w next Q := by
      intro v' w' h1 h2
      unfold Oper.wp
      rw [h1]; exact h2
    rcases hp with ⟨hb, hmv⟩ | ⟨hb, hpv⟩ | ⟨hb, hrv, _⟩ | ⟨b, obj, m, hb, hav, rfl, hgt, hloc, hbase, hn0, hlt, _⟩
    · rw [moved_congr hev] at hmv
      have : ∃ x, (o.op = .move x ∨ o.op = .assign x) ∧ v = ev TS x := by
        unfold moved at hmv
        split at hmv
        · simp at hmv; exact ⟨_, .inl (by assumption), hmv.symm⟩
        · simp at hmv; exact ⟨_, .inr (by assumption), hmv.symm⟩
        · simp at hmv
      obtain ⟨x, hx, rfl⟩ := this
      have hr := ev_rel hR.glob hT (hok x (by rcases hx with e | e <;> rw [e] <;> simp [Op.operands]))
      refine value (a.eval x) w (by rcases hx with e | e <;> simp [execOp, e]) (hn ρ _ w ρ.le_refl (fun _ _ => rfl) (fun b h => by rw [hb] at h; simp at h) hR hr)
    · rw [evP_congr hev] at hpv
      obtain ⟨v', hr, hrun⟩ := evP_sound hR.glob hT hok hty hpv
      exact value v' w (hrun w) (hn ρ _ w ρ.le_refl (fun _ _ => rfl) (fun b h => by rw [hb] at h; simp at h) hR hr)
    · rw [evR_congr hev] at hrv
      obtain ⟨v', hr, hrun⟩ := evR_sound hR hT hok hty hrv
      exact value v' w hrun (hn ρ _ w ρ.le_refl (fun _ _ => rfl) (fun b h => by rw [hb] at h; simp at h) hR hr)
    · rw [evA_congr hev] at hav
      obtain ⟨ρ', v', w', r1, r2, r3, r4, r5⟩ := evA_sound hR hT hok hty hav hbase hlt hloc hgt
      exact value v' w' r5 (hn ρ' _ w' r1 (fun y hy => r2 y (hy b hb)) (fun b' h => by rw [hb] at h; simp only [Option.some.injEq] at h; omega) r3 r4)
end
end Go.AM
