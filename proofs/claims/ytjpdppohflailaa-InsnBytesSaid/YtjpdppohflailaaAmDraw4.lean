/- THE ABSTRACT MACHINE: a region that draws its order, whole. -/
import Derived.Test.YtjpdppohflailaaAmDraw3
set_option linter.all false
namespace Go.AM
open Go.RowKit (Below)
section
variable {P : Program} {w0 : World} {ρ0 : Inj} {n0 N : Nat} {call : CallT} {ops : Array Oper} {l0 : List (Nat × Nat)}
  (D : Draw P ops.toList l0) {pre l : List (Nat × Nat)} {ps : List (Nat × (AH → Prop))} {T0 T TS : Env} {H : AH} {ρ : Inj} {bl : Nat → Option Nat} {listed : Array Bool} {a : Act} {w : World} {K : Env → AH → Prop}

theorem gd_abs {g : Value} {want : Bool} {m : (Value → AH → Prop) → Prop} {KV : Value → AH → Prop} (h : gd g want m H KV) : (g = .bool want ∧ m KV) ∨ (skips g want ∧ KV skipV H) := by
  unfold gd at h
  split at h
  · rename_i hs; exact .inr ⟨.inr hs, h⟩
  cases want with
  | true =>
    rcases ifB_inv h with ⟨e, h⟩ | ⟨e, h⟩
    · exact .inl ⟨e, h⟩
    · exact .inr ⟨.inl e, h⟩
  | false =>
    rcases ifB_inv h with ⟨e, h⟩ | ⟨e, h⟩
    · exact .inr ⟨.inl e, h⟩
    · exact .inl ⟨e, h⟩

/-- One operation of the abstract run: kept away by its guard, or carried out. -/
theorem stepV_abs {ops : List Oper} {o : Oper} {KV : Value → AH → Prop} (h : stepV P call ops o T H KV) :
    ((∃ j want, o.guard = some (j, want) ∧ skips (gval ops T j) want) ∧ KV skipV H) ∨ ((∀ j want, o.guard = some (j, want) → gval ops T j = .bool want) ∧ runOp P call T o.op H KV) := by
  unfold stepV at h
  split at h
  · rename_i hg
    exact .inr ⟨fun j want e => by rw [hg] at e; simp at e, h⟩
  · rename_i j want hg
    rcases gd_abs h with ⟨e, h⟩ | ⟨e, h⟩
    · exact .inr ⟨fun j' want' e' => by rw [hg] at e'; simp only [Option.some.injEq, Prod.mk.injEq] at e'; obtain ⟨rfl, rfl⟩ := e'; exact e, h⟩
    · exact .inl ⟨⟨j, want, hg, e⟩, h⟩

theorem gdO_of {ops : List Oper} {o : Oper} {c : Prop} (hg : ∀ j want, o.guard = some (j, want) → gval ops T j = .bool want) (h : gdO ops T o c) : c := by
  unfold gdO at h
  split at h
  · exact h
  · rename_i j want e
    rw [hg j want e] at h
    cases want <;> exact h

include D in
/-- The abstract run goes on up to the next mutator. -/
theorem Inv.advance : ∀ (l pre : List (Nat × Nat)) (ps : List (Nat × (AH → Prop))) (T : Env) (H : AH) (bl : Nat → Option Nat), Inv P w0 ρ0 n0 N ops l0 pre l ps T0 T H ρ TS bl listed a w → evDraw P call ops.toList l ps T H K →
    ∃ pre' l' ps' T' H' bl', Inv P w0 ρ0 n0 N ops l0 pre' l' ps' T0 T' H' ρ TS bl' listed a w ∧ evDraw P call ops.toList l' ps' T' H' K ∧
      (l' = [] ∨ ∃ i B l'' o, l' = (i, B) :: l'' ∧ ops.toList[i]? = some o ∧ isM P o = true) := by
  intro l
  induction l with
  | nil => intro pre ps T H bl I h; exact ⟨pre, [], ps, T, H, bl, I, h, .inl rfl⟩
  | cons q l ih =>
    obtain ⟨i, B⟩ := q
    intro pre ps T H bl I h
    obtain ⟨o, F⟩ := D.fair pre i B l I.split
    by_cases hM : isM P o = true
    · exact ⟨pre, _, ps, T, H, bl, I, h, .inr ⟨i, B, l, o, rfl, F.at_, hM⟩⟩
    · have hM' : isM P o = false := by simpa using hM
      have h' := h
      unfold evDraw at h
      rw [F.at_] at h
      simp only at h
      have moved_no : ∀ v, moved T o.op = some v → cls P o.op = .P := by
        intro v hv
        unfold moved at hv
        split at hv
        · rename_i e; rw [e]; rfl
        · rename_i e; rw [e]; rfl
        · simp at hv
      -- all cases end so
      have fin : ∀ (ps' : List (Nat × (AH → Prop))) (v : Value) (H' : AH) (bi : Option Nat), (H' = H ∨ ∃ ob, H' = H.new ob) → (∀ x ∈ ps, x ∈ ps') → (∀ b, bi = some b → b = H.next ∧ b < H'.next) →
          Pend P n0 ops.toList H' ps' ρ bi i o T v → evDraw P call ops.toList l ps' (updO T o.dst v) H' K →
          ∃ pre' l' ps' T' H' bl', Inv P w0 ρ0 n0 N ops l0 pre' l' ps' T0 T' H' ρ TS bl' listed a w ∧ evDraw P call ops.toList l' ps' T' H' K ∧
            (l' = [] ∨ ∃ i B l'' o, l' = (i, B) :: l'' ∧ ops.toList[i]? = some o ∧ isM P o = true) := by
        intro ps' v H' bi e1 e2 e3 e4 e5
        exact ih _ ps' _ H' _ (I.go D rfl F hM' e1 e2 e3 e4) e5
      have self : ∀ x ∈ ps, x ∈ ps := fun x h => h
      have cons : ∀ z, ∀ x ∈ ps, x ∈ z :: ps := fun z x h => List.mem_cons_of_mem _ h
      cases hc : cls P o.op with
      | P =>
        rw [hc] at h
        simp only at h
        rcases stepV_abs (stepW_stepV h) with ⟨hg, hk⟩ | ⟨hg, hr⟩
        · exact fin ps skipV H none (.inl rfl) self (fun b e => by simp at e) (.inl ⟨rfl, rfl, hg⟩) hk
        · unfold runOp at hr
          split at hr
          · rename_i v hv
            exact fin ps v H none (.inl rfl) self (fun b e => by simp at e) (.inr ⟨hg, .inl ⟨rfl, hv⟩⟩) hr
          · rw [hc] at hr
            obtain ⟨v, hv, hk⟩ := opt_inv hr
            exact fin ps v H none (.inl rfl) self (fun b e => by simp at e) (.inr ⟨hg, .inr (.inl ⟨rfl, hv⟩)⟩) hk
      | R =>
        rw [hc] at h
        simp only at h
        rcases stepV_abs (stepW_stepV h) with ⟨hg, hk⟩ | ⟨hg, hr⟩
        · exact fin _ skipV H none (.inl rfl) (cons _) (fun b e => by simp at e) (.inl ⟨rfl, rfl, hg⟩) hk
        · unfold runOp at hr
          split at hr
          · rename_i v hv
            rw [moved_no v hv] at hc; exact absurd hc (by simp)
          · rw [hc] at hr
            obtain ⟨v, hv, hk⟩ := opt_inv hr
            exact fin _ v H none (.inl rfl) (cons _) (fun b e => by simp at e)
              (.inr ⟨hg, .inr (.inr (.inl ⟨rfl, hv, _, List.mem_cons_self, fun Hx hx => (gdO_of hg hx).trans hv⟩))⟩) hk
      | A =>
        rw [hc] at h
        simp only at h
        rcases stepV_abs (stepW_stepV h) with ⟨hg, hk⟩ | ⟨hg, hr⟩
        · exact fin _ skipV H none (.inl rfl) (cons _) (fun b e => by simp at e) (.inl ⟨rfl, rfl, hg⟩) hk
        · unfold runOp at hr
          split at hr
          · rename_i v hv
            rw [moved_no v hv] at hc; exact absurd hc (by simp)
          · rw [hc] at hr
            obtain ⟨obj, m, hm, hk⟩ := mk_inv hr
            have hnone : ρ.loc H.next = none := by
              cases hq : ρ.loc H.next with
              | none => rfl
              | some q => have := (I.st.r.own _ _ hq).2.1; omega
            exact fin _ (m H.next) (H.new obj) (some H.next) (.inr ⟨obj, rfl⟩) (cons _) (fun b e => by simp only [Option.some.injEq] at e; subst e; exact ⟨rfl, Nat.lt_succ_self _⟩)
              (.inr ⟨hg, .inr (.inr (.inr ⟨H.next, obj, m, rfl, hm, rfl, AH.get_new_self _ _, hnone, I.st.r.nxt, I.st.nn, Nat.lt_succ_self _, _, List.mem_cons_self, fun Hx hx => (gdO_of hg hx).trans (AH.get_new_self _ _)⟩))⟩) hk
      | M => unfold isM at hM; rw [hc] at hM; exact absurd rfl hM

theorem pendAll_inv {B : Nat} {R : Prop} : ∀ (ps : List (Nat × (AH → Prop))), pendAll B H R ps → R ∧ ∀ k c, (k, c) ∈ ps → B.testBit k = false → c H := by
  intro ps
  induction ps with
  | nil => intro h; exact ⟨h, fun k c h => by simp at h⟩
  | cons p ps ih =>
    obtain ⟨j, c⟩ := p
    intro h
    unfold pendAll at h
    split at h
    · rename_i hb
      obtain ⟨h1, h2⟩ := ih h
      refine ⟨h1, fun k c' hm hk => ?_⟩
      rcases List.mem_cons.1 hm with e | e
      · simp only [Prod.mk.injEq] at e; obtain ⟨rfl, rfl⟩ := e; rw [hb] at hk; exact Bool.noConfusion hk
      · exact h2 k c' e hk
    · obtain ⟨h1, h2⟩ := ih h.2
      refine ⟨h1, fun k c' hm hk => ?_⟩
      rcases List.mem_cons.1 hm with e | e
      · simp only [Prod.mk.injEq] at e; obtain ⟨rfl, rfl⟩ := e; exact h.1
      · exact h2 k c' e hk

theorem countP_lt {α : Type} (p q : α → Bool) : ∀ l : List α, (∀ x, q x = true → p x = true) → (∃ x ∈ l, p x = true ∧ q x = false) → l.countP q < l.countP p := by
  intro l
  have le : ∀ l : List α, (∀ x, q x = true → p x = true) → l.countP q ≤ l.countP p := fun l h => List.countP_mono_left fun x _ => h x
  induction l with
  | nil => rintro _ ⟨x, hx, _⟩; simp at hx
  | cons y l ih =>
    rintro h ⟨x, hx, h1, h2⟩
    rw [List.countP_cons, List.countP_cons]
    rcases List.mem_cons.1 hx with rfl | hx
    · rw [h1, h2]; have := le l h; simp; omega
    · have := ih h ⟨x, hx, h1, h2⟩
      by_cases hq : q y = true
      · rw [hq, h y hq]; simpa using this
      · rw [if_neg hq]
        split <;> omega

def Ready (P : Program) (w0 : World) (ρ0 : Inj) (n0 N : Nat) (call : CallT) (ops : Array Oper) (l0 : List (Nat × Nat)) (T0 : Env) (K : Env → AH → Prop) (listed : Array Bool) (a : Act) (w : World) : Prop :=
  ∃ pre l ps T H ρ TS bl, Inv P w0 ρ0 n0 N ops l0 pre l ps T0 T H ρ TS bl listed a w ∧ evDraw P call ops.toList l ps T H K ∧
    (l = [] ∨ ∃ i B l' o, l = (i, B) :: l' ∧ ops.toList[i]? = some o ∧ isM P o = true)

theorem deps_of_ready {o : Oper} {listed : Array Bool} (h : ∀ e ∈ o.after, Region.binds .any e = true → listed.getD e.on false = true) : ∀ e ∈ depsOf o, Lst listed e := by
  intro e he
  simp only [depsOf, List.mem_map, List.mem_filter] at he
  obtain ⟨x, ⟨h1, h2⟩, rfl⟩ := he
  exact h x (by simpa using h1) h2

theorem Ready.done (h : Ready P w0 ρ0 n0 N call ops l0 T0 K listed a w) (hall : ∀ p ∈ l0, Lst listed p.1) : Nx P w0 ρ0 n0 N K a w := by
  obtain ⟨pre, l, ps, T, H, ρ, TS, bl, I, hk, hl⟩ := h
  have : l = [] := by
    cases l with
    | nil => rfl
    | cons p l => exact absurd (hall p (by rw [I.split]; simp)) (I.later p (by simp))
  subst this
  have : TS = T := funext fun t => I.ts2 t fun p hp o ho _ => hall p (by rw [I.split]; simp [hp])
  subst this
  exact ⟨ρ, TS, H, I.st, hk⟩

include D in
theorem not_ready {listed : Array Bool} (hsz : listed.size = ops.size) (h : Region.ready .any ops listed = []) : ∀ p ∈ l0, Lst listed p.1 := by
  have key : ∀ (n : Nat) (pr sf : List (Nat × Nat)), pr.length = n → l0 = pr ++ sf → ∀ p ∈ pr, Lst listed p.1 := by
    intro n
    induction n with
    | zero => intro pr sf hl _ p hp; rw [List.eq_nil_of_length_eq_zero hl] at hp; simp at hp
    | succ n ih =>
      intro pr sf hl hs p hp
      rcases List.eq_nil_or_concat pr with e | ⟨pr', z, e⟩
      · subst e; simp at hl
      · rw [List.concat_eq_append] at e
        subst e
        have hs' : l0 = pr' ++ (z.1, z.2) :: sf := by rw [hs]; simp
        have ihp := ih pr' _ (by simpa using hl) hs'
        rcases List.mem_append.1 hp with hp | hp
        · exact ihp p hp
        · simp only [List.mem_singleton] at hp; subst hp
          apply Classical.byContradiction
          intro hu
          obtain ⟨o, F⟩ := D.fair pr' p.1 p.2 sf hs'
          have hlt : p.1 < listed.size := by
            rw [hsz]
            rcases Nat.lt_or_ge p.1 ops.size with g | g
            · exact g
            · have := F.at_; rw [List.getElem?_eq_none (by simpa using g)] at this; simp at this
          have : p.1 ∈ Region.ready .any ops listed := by
            rw [mem_ready]
            refine ⟨?_, o, by simpa using F.at_, fun e he hb => ?_⟩
            · unfold Lst at hu
              simp only [Array.getD_eq_getD_getElem?, Array.getElem?_eq_getElem hlt, Option.getD_some] at hu ⊢
              simpa using hu
            · obtain ⟨q, hq, hqe⟩ := F.deps e.on (by simp only [depsOf, List.mem_map, List.mem_filter]; exact ⟨e, ⟨by simpa using he, hb⟩, rfl⟩)
              have := ihp q hq
              rwa [hqe] at this
          rw [h] at this; simp at this
  exact fun p hp => key _ l0 [] rfl (by simp) p hp

include D in
theorem draw_sound (hcall : CallOk P call) (hok : ∀ o ∈ ops.toList, operOk P N o = true) {Q : Exit → Act → World → Prop} (hq : ∀ a w, Nx P w0 ρ0 n0 N K a w → Q .normal a w) :
    ∀ (fuel : Nat) (listed : Array Bool) (a : Act) (w : World), listed.size = ops.size → Ready P w0 ρ0 n0 N call ops l0 T0 K listed a w → l0.countP (fun p => !listed.getD p.1 false) ≤ fuel → wpAny P .any ops Q fuel listed a w := by
  intro fuel
  induction fuel with
  | zero =>
    intro listed a w hsz h hc
    have hall : ∀ p ∈ l0, Lst listed p.1 := by
      intro p hp
      have : l0.countP (fun p => !listed.getD p.1 false) = 0 := by omega
      rw [List.countP_eq_zero] at this
      have := this p hp
      simpa [Lst] using this
    refine ⟨?_, hq _ _ (h.done hall)⟩
    apply List.eq_nil_iff_forall_not_mem.2
    intro i hi
    rw [mem_ready] at hi
    obtain ⟨hu, o, ho, _⟩ := hi
    have hlt : i < ops.size := by
      rcases Nat.lt_or_ge i ops.size with g | g
      · exact g
      · rw [Array.getElem?_eq_none g] at ho; simp at ho
    obtain ⟨p, hp, rfl⟩ := D.all i (by simpa using hlt)
    have := hall p hp
    unfold Lst at this
    simp only [Array.getD_eq_getD_getElem?] at this hu
    cases hq : listed[p.1]? <;> simp_all
  | succ fuel ih =>
    intro listed a w hsz h hc
    refine ⟨fun hr => hq _ _ (h.done (not_ready D hsz hr)), fun i hi => ?_⟩
    rw [mem_ready] at hi
    obtain ⟨hu, o, ho, hdeps⟩ := hi
    have hd := deps_of_ready hdeps
    have hlt : i < listed.size := by
      rw [hsz]
      rcases Nat.lt_or_ge i ops.size with g | g
      · exact g
      · rw [Array.getElem?_eq_none g] at ho; simp at ho
    have hiu : ¬ Lst listed i := by
      unfold Lst
      simp only [Array.getD_eq_getD_getElem?, Array.getElem?_eq_getElem hlt, Option.getD_some] at hu ⊢
      simp [hu]
    obtain ⟨q, hq0, hqi⟩ := D.all i (by rw [hsz] at hlt; simpa using hlt)
    have next : ∀ a' w', Ready P w0 ρ0 n0 N call ops l0 T0 K (listed.setIfInBounds i true) a' w' → wpAny P .any ops Q fuel (listed.setIfInBounds i true) a' w' := by
      intro a' w' h'
      refine ih _ a' w' (by simp [hsz]) h' ?_
      have : l0.countP (fun p => !(listed.setIfInBounds i true).getD p.1 false) < l0.countP (fun p => !listed.getD p.1 false) := by
        refine countP_lt _ _ l0 (fun x hx => ?_) ⟨q, hq0, ?_, ?_⟩
        · cases hg : listed.getD x.1 false with
          | false => rfl
          | true => rw [getD_set_true hg] at hx; exact Bool.noConfusion hx
        · unfold Lst at hiu; rw [hqi]; simpa using hiu
        · rw [hqi]; have := Lst.self (listed := listed) hlt; unfold Lst at this; rw [this]; rfl
      omega
    have hoL : ops.toList[i]? = some o := by simpa using ho
    have hoo := hok o (List.mem_of_getElem? hoL)
    obtain ⟨hok1, hty, hdN⟩ := operOk_inv hoo
    obtain ⟨pre, l, ps, T, H, ρ, TS, bl, I, hk, hl⟩ := h
    have hqm : q ∈ pre ++ l := by rw [← I.split]; exact hq0
    obtain ⟨qi, B⟩ := q
    simp only at hqi
    subst hqi
    rcases List.mem_append.1 hqm with hqp | hql
    · -- a late one
      obtain ⟨pr, sf, hs⟩ := List.append_of_mem hqp
      have hs0 : l0 = pr ++ (qi, B) :: (sf ++ l) := by rw [I.split, hs]; simp
      obtain ⟨o', F⟩ := D.fair pr qi B _ hs0
      have := F.at_; rw [hoL] at this; simp only [Option.some.injEq] at this; subst this
      obtain ⟨Ti, v, h1, h2, h3, h4⟩ := I.pend pr qi B sf o hs hiu hoL
      refine pend_sound I.st.r I.st.t ho hoo (I.reads_pend D hs F hiu hd h2 h3) h4 ?_
      intro ρ' v' w' r1 r2 r3 r4 r5
      exact next _ _ ⟨pre, l, ps, T, H, ρ', _, bl, I.late D hs F hiu hd hdN h1 r1 r2 r3 r4 r5, hk, hl⟩
    · rcases hl with rfl | ⟨j, B', l', o', rfl, hj, hM⟩
      · simp at hql
      · obtain ⟨o2, F⟩ := D.fair pre j B' l' I.split
        have e2 := F.at_; rw [hj] at e2; simp only [Option.some.injEq] at e2; subst e2
        rcases List.mem_cons.1 hql with e | hql'
        · -- the mutator at the head
          simp only [Prod.mk.injEq] at e
          obtain ⟨rfl, rfl⟩ := e
          rw [hoL] at hj; simp only [Option.some.injEq] at hj; subst hj
          have hrd := I.reads_head D rfl F hd
          have hk' := hk
          unfold evDraw at hk'
          rw [hoL] at hk'
          have hcM : cls P o.op = .M := by
            unfold isM at hM
            cases hc : cls P o.op with
            | M => rfl
            | P => rw [hc] at hM; exact Bool.noConfusion hM
            | R => rw [hc] at hM; exact Bool.noConfusion hM
            | A => rw [hc] at hM; exact Bool.noConfusion hM
          simp only [hcM] at hk'
          have hk2 := stepW_stepV hk'
          rw [stepV_congr hrd] at hk2
          refine stepV_sound hcall I.st.r I.st.t ho hoo hk2 ?_
          rintro v' w' ⟨ρ', v, H', r1, r2, r3, r4, r5, r6⟩
          obtain ⟨r7, r8⟩ := pendAll_inv _ r6
          have I' := I.head D rfl F hd hdN r1 r2 r3 r4 r5 r8
          obtain ⟨pre2, l2, ps2, T2, H2, bl2, I2, hk3, hl3⟩ := Inv.advance D l' _ ps _ H' bl I' r7
          exact next _ _ ⟨pre2, l2, ps2, T2, H2, ρ', _, bl2, I2, hk3, hl3⟩
        · -- behind a mutator that has not been
          exfalso
          obtain ⟨s, r, hr'⟩ := List.append_of_mem hql'
          have hs0 : l0 = (pre ++ (j, B') :: s) ++ (qi, B) :: r := by rw [I.split, hr']; simp
          obtain ⟨o3, F3⟩ := D.fair _ qi B r hs0
          have e3 := F3.at_; rw [hoL] at e3; simp only [Option.some.injEq] at e3; subst e3
          have hB := I.ahead D hs0 F3 hd
          exact I.later (j, B') (by simp) (hB j (F3.muts (j, B') (by simp) o' hj hM))
end

section
variable {P : Program} {w0 : World} {ρ0 : Inj} {n0 N : Nat} {call : CallT} {ops : Array Oper} {l0 : List (Nat × Nat)} {T : Env} {H : AH} {ρ : Inj} {a : Act} {w : World} {K : Env → AH → Prop}

/-- A region that draws its order. -/
theorem evDraw_sound (hmix : P.follows .mixedOrders = true) (hcall : CallOk P call) (hok : ∀ o ∈ ops.toList, operOk P N o = true) (hd : drawOk P ops.toList l0 = true) (h : St P w0 ρ0 n0 N ρ T H a w)
    (hk : evDraw P call ops.toList l0 [] T H K) {Q : Exit → Act → World → Prop} (hq : ∀ a w, Nx P w0 ρ0 n0 N K a w → Q .normal a w) {id : Nat} : (Code.region id ops true).wp P Q a w := by
  have D := drawOk_draw hd
  refine wp_region_any hmix ?_
  have none : ∀ i, ¬ Lst (Array.replicate ops.size false) i := by
    intro i hL
    unfold Lst at hL
    simp only [Array.getD_eq_getD_getElem?, Array.getElem?_replicate] at hL
    split at hL <;> simp at hL
  have I : Inv P w0 ρ0 n0 N ops l0 [] l0 [] T T H ρ T (fun _ => Option.none) (Array.replicate ops.size false) a { w with drawn := w.drawn + 1 } :=
    { split := rfl, size := by simp, later := fun p _ => none p.1, muts := fun p hp => by simp at hp, closed := fun p _ hL => absurd hL (none p.1),
      st := { le := h.le, hole := h.hole, nn := h.nn, r := h.r.drew, t := h.t, d := h.d, s := h.s }, ts1 := fun t p hp => by simp at hp, ts2 := fun t _ => rfl, t0 := fun t _ => rfl,
      pend := fun pr i B sf o hs => by simp at hs, inj := fun i j b hb => by simp at hb, fresh := fun i b hb => by simp at hb }
  obtain ⟨pre, l, ps, T', H', bl, I', hk', hl⟩ := Inv.advance D l0 [] [] T H _ I hk
  refine draw_sound (T0 := T) D hcall hok hq ops.size _ a _ (by simp) ⟨pre, l, ps, T', H', ρ, T, bl, I', hk', hl⟩ ?_
  have := D.len
  have h2 : l0.countP (fun p => !(Array.replicate ops.size false).getD p.1 false) ≤ l0.length := List.countP_le_length
  rw [this] at h2
  simpa using h2
end
end Go.AM
