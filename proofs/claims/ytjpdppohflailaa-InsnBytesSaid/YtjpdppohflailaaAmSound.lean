/- THE ABSTRACT MACHINE: code; functions; calls. -/
import Derived.Test.YtjpdppohflailaaAmDraw4
set_option linter.all false
namespace Go.AM
open Go.RowKit (Below)
section
variable {P : Program} {w0 : World} {ρ0 : Inj} {n0 N : Nat} {call : CallT} {kp : Keep}

/-- What is asked of code. -/
def codeOk (P : Program) (N : Nat) : Code → Bool
  | .region _ ops _ => ops.toList.all (operOk P N)
  | .seq a b => codeOk P N a && codeOk P N b
  | .cond c a b => opOk P c && codeOk P N a && codeOk P N b
  | .block _ c => codeOk P N c
  | .loop c => codeOk P N c
  | .scope c => codeOk P N c
  | _ => true

/-- What the machine's ways out mean to the abstract one. -/
def QC (P : Program) (w0 : World) (ρ0 : Inj) (n0 N : Nat) (K : AExit → Env → AH → Prop) : Exit → Act → World → Prop
  | .normal, a, w => Nx P w0 ρ0 n0 N (K .normal) a w
  | .exit id, a, w => Nx P w0 ρ0 n0 N (K (.exit id)) a w
  | .goto l, a, w => Nx P w0 ρ0 n0 N (K (.goto l)) a w
  | .ret, a, w => Nx P w0 ρ0 n0 N (K .ret) a w
  | _, _, _ => False

theorem restr_rel {ρ : Inj} {T : Env} {a : Act} (h : TRel ρ T a) (keep : List Nat) : TRel ρ (restr keep T) a := by
  intro t
  unfold restr
  induction keep with
  | nil => exact .any _
  | cons s keep ih =>
    simp only [List.map_cons, envL]
    split
    · rename_i e; rw [e]; exact h s
    · exact ih
theorem St.restr {ρ : Inj} {T : Env} {H : AH} {a : Act} {w : World} (h : St P w0 ρ0 n0 N ρ T H a w) (keep : List Nat) : St P w0 ρ0 n0 N ρ (restr keep T) H a w :=
  { h with t := restr_rel h.t keep }

theorem loop_sound {c : Code} {keep : List Nat}
    (ih : ∀ (T : Env) (H : AH) (K : AExit → Env → AH → Prop) (ρ : Inj) (a : Act) (w : World), evCode P call kp c T H K → St P w0 ρ0 n0 N ρ T H a w → c.wp P (QC P w0 ρ0 n0 N K) a w)
    {T : Env} {H : AH} {K : AExit → Env → AH → Prop} {ρ : Inj} {a : Act} {w : World} (h : LoopW keep (fun T H K => evCode P call kp c T H K) T H K) (hst : St P w0 ρ0 n0 N ρ T H a w) :
    (Code.loop c).wp P (QC P w0 ρ0 n0 N K) a w := by
  intro b k cs
  have key := h (fun T H => ∀ ρ a w, St P w0 ρ0 n0 N ρ T H a w → ∃ e a' w', QC P w0 ρ0 n0 N K e a' w' ∧ Arrives P (lone (b.at a (.code c :: .inLoop c :: k)) cs w) b k cs e a' w') (by
    intro T H hB ρ a w hst
    obtain ⟨e, a₁, w₁, hq, harr⟩ := ih T H _ ρ a w hB hst b (.inLoop c :: k) cs
    cases e with
    | normal =>
      obtain ⟨ρ', T', H', hst', hX⟩ := hq
      obtain ⟨e₂, a₂, w₂, hq₂, harr₂⟩ := hX ρ' a₁ w₁ (hst'.restr keep)
      exact ⟨e₂, a₂, w₂, hq₂, .of_steps (Steps.trans harr (.one step_inLoop)) harr₂⟩
    | exit id => exact ⟨.exit id, a₁, w₁, hq, .pass (x := .inLoop c) rfl (fun _ _ => .inl (by simp)) harr⟩
    | goto l => exact ⟨.goto l, a₁, w₁, hq, .pass (x := .inLoop c) rfl (fun _ _ => .inl (by simp)) harr⟩
    | ret => exact ⟨.ret, a₁, w₁, hq, .pass (x := .inLoop c) rfl (fun _ _ => .inl (by simp)) harr⟩
    | panic ch => exact hq.elim
    | outgrown => exact hq.elim) ρ a w (hst.restr keep)
  obtain ⟨e, a', w', hq, harr⟩ := key
  exact ⟨e, a', w', hq, .of_steps (.one step_loop) harr⟩

theorem evCode_sound (hmix : P.follows .mixedOrders = true) (hcall : CallOk P call) : ∀ (c : Code), codeOk P N c = true → ∀ (T : Env) (H : AH) (K : AExit → Env → AH → Prop) (ρ : Inj) (a : Act) (w : World), evCode P call kp c T H K →
    St P w0 ρ0 n0 N ρ T H a w → c.wp P (QC P w0 ρ0 n0 N K) a w := by
  intro c
  induction c with
  | skip => intro _ T H K ρ a w h hst; exact wp_skip ⟨ρ, T, H, hst, h⟩
  | label l => intro _ T H K ρ a w h hst; exact wp_label ⟨ρ, T, H, hst, h⟩
  | exit id => intro _ T H K ρ a w h hst; exact wp_exit ⟨ρ, T, H, hst, h⟩
  | goto l => intro _ T H K ρ a w h hst; exact wp_goto ⟨ρ, T, H, hst, h⟩
  | ret => intro _ T H K ρ a w h hst; exact wp_ret ⟨ρ, T, H, hst, h⟩
  | seq x y ihx ihy =>
    intro hok T H K ρ a w h hst
    simp only [codeOk, Bool.and_eq_true] at hok
    obtain ⟨J, hb, ha⟩ := h
    refine wp_seq (wp_mono (ihx hok.1 T H _ ρ a w ha hst) ?_)
    intro e a' w' hq
    cases e with
    | normal =>
      obtain ⟨ρ', T', H', hst', hJ⟩ := hq
      exact ihy hok.2 T' H' K ρ' a' w' (hb T' H' hJ) hst'
    | _ => exact hq
  | cond c x y ihx ihy =>
    intro hok T H K ρ a w h hst
    simp only [codeOk, Bool.and_eq_true] at hok
    have hr := ev_rel hst.r.glob hst.t hok.1.1
    rcases ifB_inv h with ⟨e, h⟩ | ⟨e, h⟩
    · rw [e] at hr
      exact wp_cond_true (hr.flat rfl) (ihx hok.1.2 T H K ρ a w h hst)
    · rw [e] at hr
      exact wp_cond_false (hr.flat rfl) (ihy hok.2 T H K ρ a w h hst)
  | block id c ih =>
    intro hok T H K ρ a w h hst
    refine wp_block (wp_mono (ih hok T H _ ρ a w h hst) ?_)
    intro e a' w' hq
    cases e with
    | exit id' =>
      simp only [Exit.inBlock]
      by_cases hid : id' = id
      · rw [if_pos hid]
        subst hid
        obtain ⟨ρ', T', H', hst', hk⟩ := hq
        simp only [blkK, beq_self_eq_true] at hk
        exact ⟨ρ', T', H', hst', hk⟩
      · rw [if_neg hid]
        obtain ⟨ρ', T', H', hst', hk⟩ := hq
        have : (id' == id) = false := by simp [hid]
        simp only [blkK, this] at hk
        exact ⟨ρ', T', H', hst', hk⟩
    | _ => exact hq
  | loop c ih =>
    intro hok T H K ρ a w h hst
    exact loop_sound (fun T H K ρ a w h hst => ih hok T H K ρ a w h hst) h hst
  | scope c ih =>
    intro hok T H K ρ a w h hst
    refine wp_scope_straight (wp_mono (ih hok T H _ ρ a w h hst) ?_)
    intro e a' w' hq
    cases e with
    | goto l => obtain ⟨_, _, _, _, hk⟩ := hq; exact hk.elim
    | _ => exact hq
  | region id ops draw =>
    intro hok T H K ρ a w h hst
    simp only [codeOk, List.all_eq_true] at hok
    cases draw with
    | false =>
      have := evOps_sound (w0 := w0) (ρ0 := ρ0) (n0 := n0) hcall hok (Q := QC P w0 ρ0 n0 N K) (K := fun T' H' => K .normal T' H') (fun a w h => h) ops.toList 0 (by simp) ρ _ H a w (hst.restr _) h
      exact wp_region (by simpa [List.range_eq_range'] using this)
    | true =>
      simp only [evCode] at h
      split at h
      · rename_i hd
        exact evDraw_sound hmix hcall hok hd (hst.restr _) h (fun a w h => h)
      · exact h.elim
  | _ => intro _ T H K ρ a w h hst; exact h.elim

/-! ### what a function gives back -/
theorem resV_sound {ρ : Inj} {T : Env} {H : AH} {a : Act} {w : World} (hR : R P ρ w0 H w) (hT : TRel ρ T a) {r : ResultVar} {v : Value} (h : resV P T H r = some v) :
    ∃ v', VRel ρ v v' ∧ (match r with
      | .tmp t => (pure (a.tmps.getD t undef) : Sem Value)
      | .cell x t => do loadVar t (← asAddr (a.tmps.getD x undef))).run P w = .ok v' w := by
  cases r with
  | tmp t =>
    simp only [resV, Option.some.injEq] at h
    subst h
    exact ⟨_, hT t, rfl⟩
  | cell x t =>
    simp only [resV] at h
    have conv : ∀ v', (Instr.loadAt t (a.tmps.getD x undef)).run P w = .ok v' w → (do loadVar t (← asAddr (a.tmps.getD x undef)) : Sem Value).run P w = .ok v' w := by
      intro v' hv
      revert hv
      generalize a.tmps.getD x undef = p
      intro hv
      cases p with
      | pointer o =>
        cases o with
        | some A => simpa [Instr.loadAt, Instr.sureAddr, asAddr] using hv
        | none => simp [Instr.loadAt, Instr.sureAddr] at hv
      | _ => simp [Instr.loadAt, Instr.sureAddr] at hv
    split at h
    · rename_i n h1 h2
      obtain ⟨v', hr, hv⟩ := loadN_sound hR h1 h2 h (hT x)
      exact ⟨v', hr, conv v' hv⟩
    · rename_i h1 h2
      obtain ⟨v', hr, hv⟩ := load1_sound hR h1 h (hT x)
      exact ⟨v', hr, conv v' hv⟩
    · simp at h

theorem resAll_sound {ρ : Inj} {T : Env} {H : AH} {a : Act} {w : World} (hR : R P ρ w0 H w) (hT : TRel ρ T a) (f : ResultVar → Sem Value) (hf : ∀ r, f r = match r with
      | .tmp t => (pure (a.tmps.getD t undef) : Sem Value)
      | .cell x t => do loadVar t (← asAddr (a.tmps.getD x undef))) : ∀ (rs : List ResultVar) (K : List Value → Prop), resAll P T H rs K → ∃ vs vs', K vs ∧ LRel ρ vs vs' ∧ (rs.mapM f).run P w = .ok vs' w := by
  intro rs
  induction rs with
  | nil => intro K h; exact ⟨[], [], h, LRel.nil, rfl⟩
  | cons r rs ih =>
    intro K h
    obtain ⟨v, hv, h⟩ := opt_inv h
    obtain ⟨v', hr, hrun⟩ := resV_sound hR hT hv
    obtain ⟨vs, vs', hk, hl, hrun2⟩ := ih _ h
    refine ⟨v :: vs, v' :: vs', hk, LRel.cons hr hl, ?_⟩
    rw [← hf r] at hrun
    simp [hrun, hrun2]

theorem results_sound {ρ : Inj} {T : Env} {H : AH} {a : Act} {w : World} (hR : R P ρ w0 H w) (hT : TRel ρ T a) {fn : Func} {Q : Value → AH → Prop} (h : results P fn.results.toList T H Q) :
    ∃ v v', Q v H ∧ VRel ρ v v' ∧ (Go.results fn a.tmps).run P w = .ok v' w := by
  obtain ⟨vs, vs', hq, hl, hrun⟩ := resAll_sound hR hT _ (fun r => rfl) _ _ h
  refine ⟨one vs, if h : vs'.toArray.size = 1 then vs'.toArray[0] else .tuple vs'.toArray, hq, ?_, ?_⟩
  · match vs, vs', hl with
    | [], vs', hl => rw [hl.cases_nil]; exact LRel.nil.tuple
    | [x], vs', hl =>
      obtain ⟨y, k, rfl, hxy, hk⟩ := hl.cases_cons
      rw [hk.cases_nil]; exact hxy
    | x :: y :: l, vs', hl =>
      obtain ⟨x', k, rfl, _, hk⟩ := hl.cases_cons
      obtain ⟨y', k, rfl, _, _⟩ := hk.cases_cons
      simpa [one] using hl.tuple
  · unfold Go.results
    rw [Array.mapM_eq_mapM_toList]
    simp only [map_eq_pure_bind, bind_assoc, pure_bind, Sem.run_bind]
    erw [hrun]
    rfl

/-! ### calls -/
def MonoC (X : CallT) : Prop := ∀ f args H (K K' : Value → AH → Prop), (∀ v H', K v H' → K' v H') → X f args H K → X f args H K'

/-- A function that may be entered, and whose code is fit. -/
structure Good (P : Program) (f : FuncId) (fn : Func) : Prop where
  at_ : P.funcs[f]? = some fn
  enters : fn.body.isNone = false
  name : (fn.name == "runtime.NumGoroutine") = false
  ok : codeOk P fn.ntmps (bodyOf fn) = true

def CallW (P : Program) (kps : FuncId → Keep) (ext : CallT) : CallT := fun f args H Q =>
  ∀ X : CallT, MonoC X → (∀ f args H Q, (∃ fn, Good P f fn ∧ evBody P X (kps f) fn args H Q) ∨ ext f args H Q → X f args H Q) → X f args H Q

/-- What a call's contract says of the machine. -/
def Told (P : Program) : CallT := fun f args H K => Enters P f ∧ ∀ ρ w0 w args', R P ρ w0 H w → LRel ρ args args'.toList →
  Calls P f args' w (fun e w' => ∃ v', e = .returned v' ∧ Post P ρ w0 H.next K v' w')

theorem Told.ok : CallOk P (Told P) := fun _ _ _ _ h => h
theorem Post.mono {ρ : Inj} {n : Nat} {K K' : Value → AH → Prop} {v' : Value} {w' : World} (hk : ∀ v H, K v H → K' v H) (h : Post P ρ w0 n K v' w') : Post P ρ w0 n K' v' w' := by
  obtain ⟨ρ', v, H', r1, r2, r3, r4, r5, r6⟩ := h
  exact ⟨ρ', v, H', r1, r2, r3, r4, r5, hk _ _ r6⟩
theorem Told.mono : MonoC (Told P) := fun _ _ _ _ _ hk h => ⟨h.1, fun ρ w0 w args' hR ha => (h.2 ρ w0 w args' hR ha).mono fun _ _ ⟨v', e, hp⟩ => ⟨v', e, hp.mono hk⟩⟩

theorem codeOk_mono {N' : Nat} (hN : N ≤ N') : ∀ c : Code, codeOk P N c = true → codeOk P N' c = true := by
  intro c
  induction c with
  | region id ops d =>
    simp only [codeOk, List.all_eq_true]
    intro h o ho
    have := h o ho
    simp only [operOk, Bool.and_eq_true] at this ⊢
    refine ⟨this.1, ?_⟩
    have h2 := this.2
    cases hd : o.dst with
    | none => rfl
    | some d => rw [hd] at h2; exact decide_eq_true (Nat.lt_of_lt_of_le (of_decide_eq_true h2) hN)
  | seq a b iha ihb => simp only [codeOk, Bool.and_eq_true]; exact fun h => ⟨iha h.1, ihb h.2⟩
  | cond c a b iha ihb => simp only [codeOk, Bool.and_eq_true]; exact fun h => ⟨⟨h.1.1, iha h.1.2⟩, ihb h.2⟩
  | block id c ih => exact ih
  | loop c ih => exact ih
  | scope c ih => exact ih
  | _ => intro _; rfl

theorem evBody_told (hmix : P.follows .mixedOrders = true) (hcall : CallOk P call) {f : FuncId} {fn : Func} (g : Good P f fn) {args : List Value} {H : AH} {Q : Value → AH → Prop} (h : evBody P call kp fn args H Q) : Told P f args H Q := by
  refine ⟨⟨fn, g.at_, g.enters, g.name⟩, fun ρ w0 w args' hR ha => ?_⟩
  unfold evBody at h
  split at h
  · rename_i c hc
    have hok : codeOk P (max fn.ntmps args'.size) c = true := codeOk_mono (Nat.le_max_left _ _) _ (by have := g.ok; unfold bodyOf at this; rw [hc] at this; exact this)
    have hT : TRel ρ (argEnv args) { tmps := args' ++ Array.replicate (fn.ntmps - args'.size) undef, defers := [] } := by
      intro t
      unfold argEnv
      have hlen : args.length = args'.size := by rw [ha.1]; simp
      by_cases hlt : t < args.length
      · have e1 : args.getD t undef = args[t] := by simp [List.getD_eq_getElem?_getD, hlt]
        have e2 : (args' ++ Array.replicate (fn.ntmps - args'.size) undef).getD t undef = args'[t]'(by omega) := by
          rw [Array.getD_eq_getD_getElem?, Array.getElem?_append_left (by omega)]
          simp [show t < args'.size by omega]
        rw [e1, e2]
        exact ha.2 t _ _ (List.getElem?_eq_getElem hlt) (by simp [show t < args'.size by omega])
      · have e1 : args.getD t undef = undef := by simp [List.getD_eq_getElem?_getD, List.getElem?_eq_none (show args.length ≤ t by omega)]
        rw [e1]; exact .any _
    have hst : St P w0 ρ H.next (max fn.ntmps args'.size) ρ (argEnv args) H { tmps := args' ++ Array.replicate (fn.ntmps - args'.size) undef, defers := [] } w :=
      { le := ρ.le_refl, hole := fun _ _ => rfl, nn := Nat.le_refl _, r := hR, t := hT, d := rfl, s := by simp only [Array.size_append, Array.size_replicate]; omega }
    refine calls_of_wp g.at_ hc (wp_mono (evCode_sound hmix hcall c hok _ _ _ ρ _ w h hst) ?_)
    have fin : ∀ a' w', Nx P w0 ρ H.next (max fn.ntmps args'.size) (fun T H => results P fn.results.toList T H Q) a' w' →
        a'.defers = [] ∧ ∃ v, (Go.results fn a'.tmps).run P w' = .ok v w' ∧ ∃ v', Ending.returned v = .returned v' ∧ Post P ρ w0 H.next Q v' w' := by
      rintro a' w' ⟨ρ', T', H', hst', hk⟩
      obtain ⟨v, v', hq, hr, hrun⟩ := results_sound hst'.r hst'.t hk
      exact ⟨hst'.d, v', hrun, v', rfl, ρ', v, H', hst'.le, hst'.hole, hst'.nn, hst'.r, hr, hq⟩
    intro e a' w' hq
    cases e with
    | normal => exact fin a' w' hq
    | ret => exact fin a' w' hq
    | exit id => obtain ⟨_, _, _, _, hk⟩ := hq; exact hk.elim
    | goto id => obtain ⟨_, _, _, _, hk⟩ := hq; exact hk.elim
    | _ => exact hq.elim
  · exact h.elim

/-- WHAT THE ABSTRACT MACHINE SAYS HOLDS. -/
theorem callW_told (hmix : P.follows .mixedOrders = true) {kps : FuncId → Keep} {ext : CallT} (hext : CallOk P ext) {f : FuncId} {args : List Value} {H : AH} {Q : Value → AH → Prop} (h : CallW P kps ext f args H Q) : Told P f args H Q :=
  h (Told P) Told.mono fun f args H Q h => by
    rcases h with ⟨fn, g, hb⟩ | he
    · exact evBody_told hmix Told.ok g hb
    · exact hext _ _ _ _ he
end
end Go.AM
