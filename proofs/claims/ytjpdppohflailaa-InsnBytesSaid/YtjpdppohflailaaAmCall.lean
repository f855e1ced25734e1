/- THE ABSTRACT MACHINE: calls fold; what is so of the least is so of all. -/
import Derived.Test.YtjpdppohflailaaAmSound
set_option linter.all false
namespace Go.AM
section
variable {P : Program} {call call' : CallT} {kp : Keep} {T : Env} {H : AH}

def LeC (call call' : CallT) : Prop := ∀ f args H (K K' : Value → AH → Prop), (∀ v H', K v H' → K' v H') → call f args H K → call' f args H K'

theorem opt_mono {α : Type} {o : Option α} {K K' : α → Prop} (h : ∀ x, K x → K' x) (hh : opt o K) : opt o K' := by
  obtain ⟨x, e, hk⟩ := opt_inv hh
  rw [e]; exact h _ hk
theorem opt2_mono {α β : Type} {o : Option (α × β)} {K K' : α → β → Prop} (h : ∀ x y, K x y → K' x y) (hh : opt2 o K) : opt2 o K' := by
  obtain ⟨x, y, e, hk⟩ := opt2_inv hh
  rw [e]; exact h _ _ hk
theorem mk_mono {o : Option (AObj × (Nat → Value))} {K K' : Value → AH → Prop} (h : ∀ x y, K x y → K' x y) (hh : AM.mk o H K) : AM.mk o H K' := by
  obtain ⟨x, y, e, hk⟩ := mk_inv hh
  rw [e]; exact h _ _ hk
theorem ifB_mono {v : Value} {A A' B B' : Prop} (ha : A → A') (hb : B → B') (h : ifB v A B) : ifB v A' B' := by
  unfold ifB at *
  split at h <;> simp_all

set_option linter.unusedVariables false
theorem evCallM_mono (hc : LeC call call') {c : Call} {K K' : Value → AH → Prop} (hk : ∀ v H', K v H' → K' v H') (h : evCallM P call T c H K) : evCallM P call' T c H K' := by
  unfold evCallM at h ⊢
  split at h
  · rename_i e; (try simp only [e]); exact hc _ _ _ _ _ hk h
  · rename_i f hf e
    have : callV call' (ev T f) (c.args.toList.map (ev T)) H K' := by
      unfold callV at h ⊢
      split at h
      · rename_i e2; (try simp only [e2]); exact hc _ _ _ _ _ hk h
      · exact h.elim
    cases f with
    | func g => exact absurd rfl (hf g)
    | _ => (try simp only [e]); exact this
  · rename_i e
    (try simp only [e])
    split at h
    · rename_i e0 e1 e2 e3
      (try simp only [e0, e1, e2, e3])
      split at h
      · rename_i z b zv g1 g2 g3
        (try simp only [g1, g2, g3])
        split at h
        · rename_i g; (try simp only [g]); exact opt2_mono hk h
        · exact h.elim
      · exact h.elim
    · rename_i e0 e1 e2 e3
      (try simp only [e0, e1, e2, e3])
      split at h
      · rename_i z b zv g1 g2 g3
        (try simp only [g1, g2, g3])
        split at h
        · rename_i g; (try simp only [g]); exact opt2_mono hk h
        · exact h.elim
      · exact h.elim
    · exact h.elim
  · rename_i e
    (try simp only [e])
    split at h
    · rename_i e0 e1 e2
      (try simp only [e0, e1, e2])
      split at h
      · rename_i g; (try simp only [g]); exact opt2_mono hk h
      · exact h.elim
    · exact h.elim
  · rename_i e
    (try simp only [e])
    split at h
    · rename_i e0 e1 e2
      (try simp only [e0, e1, e2])
      split at h
      · rename_i g; (try simp only [g]); exact opt_mono (fun x => hk _ x) h
      · exact h.elim
    · exact h.elim
  · exact h.elim

theorem evM_mono (hc : LeC call call') {op : Op} {K K' : Value → AH → Prop} (hk : ∀ v H', K v H' → K' v H') (h : evM P call T op H K) : evM P call' T op H K' := by
  unfold evM at h ⊢
  split at h
  · split at h
    · rename_i e0 e1; (try simp only [e0, e1]); exact opt_mono (fun x => hk _ x) h
    · rename_i e0 e1; (try simp only [e0, e1]); exact opt_mono (fun x => hk _ x) h
    · exact h.elim
  · split at h
    · rename_i e0; (try simp only [e0])
      split at h
      · rename_i e1; (try simp only [e1]); exact opt_mono (fun x => hk _ x) h
      · exact h.elim
    · exact h.elim
  · split at h
    · rename_i e0; (try simp only [e0])
      split at h
      · rename_i e1; (try simp only [e1]); exact opt_mono (fun x => hk _ x) h
      · exact h.elim
    · exact h.elim
  · split at h
    · rename_i e0; (try simp only [e0])
      split at h
      · rename_i e1 e2; (try simp only [e1, e2]); exact opt2_mono hk h
      · exact h.elim
    · exact h.elim
  · exact opt_mono (fun x => hk _ x) h
  · split at h
    · rename_i e0; (try simp only [e0]); exact mk_mono hk h
    · exact h.elim
  · exact opt2_mono hk h
  · exact evCallM_mono hc hk h
  · exact h.elim

theorem runOp_mono (hc : LeC call call') {op : Op} {K K' : Value → AH → Prop} (hk : ∀ v H', K v H' → K' v H') (h : runOp P call T op H K) : runOp P call' T op H K' := by
  unfold runOp at h ⊢
  split at h
  · rename_i e; (try simp only [e]); exact hk _ _ h
  · rename_i e; (try simp only [e])
    split at h
    · rename_i e; (try simp only [e]); exact opt_mono (fun x => hk _ _) h
    · rename_i e; (try simp only [e]); exact opt_mono (fun x => hk _ _) h
    · rename_i e; (try simp only [e]); exact mk_mono hk h
    · rename_i e; (try simp only [e]); exact evM_mono hc hk h

theorem stepW_mono (hc : LeC call call') {ops : List Oper} {o : Oper} {K K' : Env → AH → Prop} (hk : ∀ v H', K v H' → K' v H') (h : stepW P call ops o T H K) : stepW P call' ops o T H K' := by
  unfold stepW at h ⊢
  split at h
  · rename_i e; (try simp only [e]); exact runOp_mono hc (fun _ _ => hk _ _) h
  · rename_i j want e
    (try simp only [e])
    unfold gd at h ⊢
    generalize isSkip (gval ops T j) = sk at h ⊢
    cases sk with
    | true => exact hk _ _ h
    | false =>
      cases want with
      | true => exact ifB_mono (runOp_mono hc (fun _ _ => hk _ _)) (hk _ _) h
      | false => exact ifB_mono (hk _ _) (runOp_mono hc (fun _ _ => hk _ _)) h

theorem evOps_mono (hc : LeC call call') {ops : List Oper} {K K' : Env → AH → Prop} (hk : ∀ v H', K v H' → K' v H') : ∀ (l : List Oper) (T : Env) (H : AH), evOps P call ops l T H K → evOps P call' ops l T H K' := by
  intro l
  induction l with
  | nil => intro T H h; exact hk _ _ h
  | cons o l ih => intro T H h; exact stepW_mono hc (fun T' H' h => ih T' H' h) h

theorem pendAll_mono {B : Nat} {R R' : Prop} (hr : R → R') : ∀ ps : List (Nat × (AH → Prop)), pendAll B H R ps → pendAll B H R' ps := by
  intro ps
  induction ps with
  | nil => exact hr
  | cons p ps ih =>
    intro h
    unfold pendAll at h ⊢
    split at h
    · rename_i e; (try simp only [e]); exact ih h
    · rename_i e; (try simp only [e]); exact ⟨h.1, ih h.2⟩

theorem evDraw_mono (hc : LeC call call') {ops : List Oper} {K K' : Env → AH → Prop} (hk : ∀ v H', K v H' → K' v H') : ∀ (l : List (Nat × Nat)) (ps : List (Nat × (AH → Prop))) (T : Env) (H : AH), evDraw P call ops l ps T H K → evDraw P call' ops l ps T H K' := by
  intro l
  induction l with
  | nil => intro ps T H h; exact hk _ _ h
  | cons p l ih =>
    obtain ⟨i, B⟩ := p
    intro ps T H h
    unfold evDraw at h ⊢
    split at h
    · exact h.elim
    · rename_i o e
      (try simp only [e])
      split at h
      · rename_i e; (try simp only [e]); exact stepW_mono hc (fun T' H' h => ih _ T' H' h) h
      · rename_i e; (try simp only [e]); exact stepW_mono hc (fun T' H' h => ih _ T' H' h) h
      · rename_i e; (try simp only [e]); exact stepW_mono hc (fun T' H' h => ih _ T' H' h) h
      · rename_i e; (try simp only [e]); exact stepW_mono hc (fun T' H' h => pendAll_mono (ih _ T' H') _ h) h

theorem evCode_mono (hc : LeC call call') : ∀ (c : Code) (T : Env) (H : AH) (K K' : AExit → Env → AH → Prop), (∀ e T H, K e T H → K' e T H) → evCode P call kp c T H K → evCode P call' kp c T H K' := by
  intro c
  induction c with
  | seq a b iha ihb =>
    rintro T H K K' hk ⟨J, hb, ha⟩
    refine ⟨J, fun T' H' hJ => ihb _ _ _ _ hk (hb T' H' hJ), iha _ _ _ _ ?_ ha⟩
    intro e T H h
    cases e <;> first | exact h | exact hk _ _ _ h
  | cond c a b iha ihb => intro T H K K' hk h; exact ifB_mono (iha _ _ _ _ hk) (ihb _ _ _ _ hk) h
  | block id c ih =>
    intro T H K K' hk h
    refine ih _ _ _ _ ?_ h
    intro e T H h
    cases e with
    | exit id' =>
      simp only [blkK] at h ⊢
      split at h
      · rename_i e; (try simp only [e]); exact hk _ _ _ h
      · rename_i e; (try simp only [e]); exact hk _ _ _ h
    | _ => exact hk _ _ _ h
  | loop c ih =>
    intro T H K K' hk h X hX
    refine h X fun T H hB => hX T H (ih _ _ _ _ ?_ hB)
    intro e T H h
    cases e <;> first | exact h | exact hk _ _ _ h
  | scope c ih =>
    intro T H K K' hk h
    refine ih _ _ _ _ ?_ h
    intro e T H h
    cases e <;> first | exact h.elim | exact hk _ _ _ h
  | region id ops d =>
    intro T H K K' hk h
    cases d with
    | false => exact evOps_mono hc (fun T' H' h => hk _ _ _ h) _ _ _ h
    | true =>
      simp only [evCode] at h ⊢
      split at h
      · rename_i e; (try simp only [e]); exact evDraw_mono hc (fun T' H' h => hk _ _ _ h) _ _ _ _ h
      · exact h.elim
  | rangeFunc f ps a b => intro T H K K' hk h; exact h.elim
  | refuse => intro T H K K' hk h; exact h.elim
  | skip => intro T H K K' hk h; exact hk _ _ _ h
  | label l => intro T H K K' hk h; exact hk _ _ _ h
  | exit l => intro T H K K' hk h; exact hk _ _ _ h
  | goto l => intro T H K K' hk h; exact hk _ _ _ h
  | ret => intro T H K K' hk h; exact hk _ _ _ h

theorem resAll_mono {rs : List ResultVar} {K K' : List Value → Prop} (hk : ∀ vs, K vs → K' vs) (h : resAll P T H rs K) : resAll P T H rs K' := by
  induction rs generalizing K K' with
  | nil => exact hk _ h
  | cons r rs ih => exact opt_mono (fun v h => ih (fun vs h => hk _ h) h) h

theorem evBody_mono (hc : LeC call call') {fn : Func} {args : List Value} {Q Q' : Value → AH → Prop} (hq : ∀ v H, Q v H → Q' v H) (h : evBody P call kp fn args H Q) : evBody P call' kp fn args H Q' := by
  unfold evBody at h ⊢
  split at h
  · rename_i c e
    (try simp only [e])
    refine evCode_mono hc c _ _ _ _ ?_ h
    intro e T H h
    cases e <;> first | exact h.elim | exact resAll_mono (fun vs h => hq _ _ h) h
  · exact h.elim

theorem CallW.mono {kps : FuncId → Keep} {ext : CallT} : MonoC (CallW P kps ext) := fun f args H K K' hk h X hX hcl => hX _ _ _ _ _ hk (h X hX hcl)
theorem CallW.fold {kps : FuncId → Keep} {ext : CallT} {f : FuncId} {fn : Func} (g : Good P f fn) {args : List Value} {Q : Value → AH → Prop} (h : evBody P (CallW P kps ext) (kps f) fn args H Q) : CallW P kps ext f args H Q :=
  fun X hX hcl => hcl _ _ _ _ (.inl ⟨fn, g, evBody_mono (fun f args H K K' hk h => hX _ _ _ _ _ hk (h X hX hcl)) (fun _ _ h => h) h⟩)
theorem CallW.ext {kps : FuncId → Keep} {ext : CallT} {f : FuncId} {args : List Value} {Q : Value → AH → Prop} (h : ext f args H Q) : CallW P kps ext f args H Q :=
  fun _ _ hcl => hcl _ _ _ _ (.inr h)
end
end Go.AM
