/- THE ABSTRACT MACHINE: operations that touch no memory: what the evaluator says of them holds of the machine. -/
import Derived.Test.YtjpdppohflailaaAmRel
import Derived.Laws.StructEq
set_option linter.all false
namespace Go.AM

def TRel (ρ : Inj) (T : Env) (a : Act) : Prop := ∀ t, VRel ρ (T t) (a.tmps.getD t undef)
theorem TRel.mono {ρ ρ' : Inj} (h : ρ.le ρ') {T : Env} {a : Act} (r : TRel ρ T a) : TRel ρ' T a := fun t => (r t).mono h

def lit1 : Value → Bool
  | .bool _ => true
  | .int _ _ => true
  | .float _ _ => true
  | .complex _ _ _ => true
  | .string _ => true
  | .pointer none => true
  | .slice none _ _ => true
  | .map none => true
  | .chan none => true
  | .nilFunc => true
  | .nilIface => true
  | _ => false
def litV (v : Value) : Bool :=
  match v with
  | .agg cs => cs.toList.all lit1
  | v => lit1 v
theorem lit1_rel {ρ : Inj} {v : Value} (h : lit1 v = true) : VRel ρ v v := by
  unfold lit1 at h
  split at h <;> first | constructor | simp at h
theorem LRel.refl_lit {ρ : Inj} {l : List Value} (h : l.all lit1 = true) : LRel ρ l l := by
  refine ⟨rfl, fun i x y hx hy => ?_⟩
  rw [hx] at hy
  simp only [Option.some.injEq] at hy; subst hy
  exact lit1_rel (List.all_eq_true.1 h x (List.mem_of_getElem? hx))
theorem litV_rel {ρ : Inj} {v : Value} (h : litV v = true) : VRel ρ v v := by
  unfold litV at h
  split at h
  · rename_i cs; exact (LRel.refl_lit h).agg
  · exact lit1_rel h

def opOk (P : Program) : Operand → Bool
  | .tmp _ => true
  | .const v => litV v
  | .global g => decide (g < P.globals.size)
  | .func _ => true

section
variable {P : Program} {ρ : Inj} {T : Env} {a : Act}
theorem ev_rel (hg : P.globals.size ≤ ρ.base) (hT : TRel ρ T a) {x : Operand} (h : opOk P x = true) : VRel ρ (ev T x) (a.eval x) := by
  cases x with
  | tmp t => exact hT t
  | const v => exact litV_rel h
  | global g => exact .ptr _ _ (.inl ⟨Nat.lt_of_lt_of_le (of_decide_eq_true h) hg, rfl⟩)
  | func f => exact .func _ [] [] [] [] rfl (fun i x y h => by simp at h) rfl (fun i x y h => by simp at h)
end

section prims
variable {P : Program} {ρ : Inj} {x x' y y' z z' v : Value}

theorem binInt_inv {op : BinOp} (h : binInt op x y = some v) : ∃ k k' a b, x = .int k a ∧ y = .int k' b := by
  unfold binInt at h
  split at h <;> first | exact ⟨_, _, _, _, rfl, rfl⟩ | simp at h

theorem binInt_sound {op : BinOp} {t : TypeId} {X Y : Operand} (h : binInt op x y = some v) (hx : VRel ρ x x') (hy : VRel ρ y y') :
    VRel ρ v v ∧ ∀ w, (do eqGuard op t X Y x' y'; binOp op t x' y' : Sem Value).run P w = .ok v w := by
  obtain ⟨k, k', a, b, rfl, rfl⟩ := binInt_inv h
  obtain rfl := hx.flat rfl
  obtain rfl := hy.flat rfl
  have hg : ∀ w, (eqGuard op t X Y (.int k a) (.int k' b)).run P w = .ok () w := by
    intro w; unfold eqGuard; split <;> rfl
  have key : VRel ρ v v ∧ ∀ w, (binOp op t (.int k a) (.int k' b)).run P w = .ok v w := by
    cases op with
    | shl =>
      simp only [binInt] at h
      split at h
      · simp at h
      · rename_i hb
        simp only [Option.some.injEq] at h; subst h
        exact ⟨.int _ _, fun w => by simp [binOp, Op.shift, hb]⟩
    | shr =>
      simp only [binInt] at h
      split at h
      · simp at h
      · rename_i hb
        simp only [Option.some.injEq] at h; subst h
        exact ⟨.int _ _, fun w => by simp [binOp, Op.shift, hb]⟩
    | quo | rem =>
      simp only [binInt] at h
      split at h
      · simp at h
      · rename_i hk
        have hk : k = k' := by simpa using hk
        subst hk
        split at h
        · simp at h
        · rename_i hb
          simp only [Option.some.injEq] at h; subst h
          exact ⟨.int _ _, fun w => by simp [binOp, Op.intDiv, hb]⟩
    | _ =>
      simp only [binInt] at h
      split at h
      · simp at h
      · rename_i hk
        have hk : k = k' := by simpa using hk
        subst hk
        first
          | (simp only [Option.some.injEq] at h; subst h
             exact ⟨by constructor, fun w => by simp [binOp, Op.intArith, Op.intBits, Op.intCmp]⟩)
          | simp at h
  refine ⟨key.1, fun w => ?_⟩
  show (Sem.bind _ _).run P w = _
  rw [Sem.run_bind', hg w]
  exact key.2 w

theorem binStr_sound {op : BinOp} {t : TypeId} {X Y : Operand} (h : binStr op x y = some v) (hx : VRel ρ x x') (hy : VRel ρ y y') :
    VRel ρ v v ∧ ∀ w, (do eqGuard op t X Y x' y'; binOp op t x' y' : Sem Value).run P w = .ok v w := by
  have hs : ∃ a b, x = .string a ∧ y = .string b := by
    unfold binStr at h
    split at h <;> first | exact ⟨_, _, rfl, rfl⟩ | simp at h
  obtain ⟨a, b, rfl, rfl⟩ := hs
  obtain rfl := hx.flat rfl
  obtain rfl := hy.flat rfl
  have hg : ∀ w, (eqGuard op t X Y (.string a) (.string b)).run P w = .ok () w := by
    intro w; unfold eqGuard; split <;> rfl
  have key : VRel ρ v v ∧ ∀ w, (binOp op t (.string a) (.string b)).run P w = .ok v w := by
    cases op <;> simp only [binStr] at h <;> first
      | (rw [Option.ite_none_right_eq_some] at h
         obtain ⟨hc, h⟩ := h
         simp only [Option.some.injEq] at h; subst h
         refine ⟨.string _, fun w => ?_⟩
         have : ¬ ((((a.size + b.size : Nat)) : Int) > IntKind.i64.max) := by
           have e : IntKind.i64.max = 9223372036854775807 := by decide
           rw [e]; omega
         unfold binOp Op.stringOp
         simp only [this, if_false]
         rfl)
      | (simp only [Option.some.injEq] at h; subst h
         exact ⟨.bool _, fun w => by simp [binOp, Op.stringOp]⟩)
      | simp at h
  refine ⟨key.1, fun w => ?_⟩
  show (Sem.bind _ _).run P w = _
  rw [Sem.run_bind', hg w]
  exact key.2 w

theorem eqPtr_sound {t e : TypeId} {b : Bool} (ht : P.underlying t = some (.pointer e)) (h : eqPtr x y = some b) (hx : VRel ρ x x') (hy : VRel ρ y y') (d : Nat) (w : World) :
    (Op.equalIn (d + 1) t x' y').run P w = .ok b w := by
  unfold eqPtr at h
  split at h <;> first
    | (simp at h; done)
    | (cases hx <;> cases hy <;> (simp only [Option.some.injEq] at h; subst h; simp [Op.equalIn, underlying, ht]))
theorem eqSlc_sound {t e : TypeId} {b : Bool} (ht : P.underlying t = some (.slice e)) (h : eqSlc x y = some b) (hx : VRel ρ x x') (hy : VRel ρ y y') (d : Nat) (w : World) :
    (Op.equalIn (d + 1) t x' y').run P w = .ok b w := by
  unfold eqSlc at h
  split at h <;> first
    | (simp at h; done)
    | (cases hx <;> cases hy <;> (simp only [Option.some.injEq] at h; subst h; simp [Op.equalIn, underlying, ht]))
theorem eqMap_sound {t k e : TypeId} {b : Bool} (ht : P.underlying t = some (.map k e)) (h : eqMap x y = some b) (hx : VRel ρ x x') (hy : VRel ρ y y') (d : Nat) (w : World) :
    (Op.equalIn (d + 1) t x' y').run P w = .ok b w := by
  unfold eqMap at h
  split at h <;> first
    | (simp at h; done)
    | (cases hx <;> cases hy <;> (simp only [Option.some.injEq] at h; subst h; simp [Op.equalIn, underlying, ht]))
theorem eqFn_sound {t : TypeId} {p r : Array TypeId} {q b : Bool} (ht : P.underlying t = some (.func p r q)) (h : eqFn x y = some b) (hx : VRel ρ x x') (hy : VRel ρ y y') (d : Nat) (w : World) :
    (Op.equalIn (d + 1) t x' y').run P w = .ok b w := by
  unfold eqFn at h
  split at h <;> first
    | (simp at h; done)
    | (cases hx <;> cases hy <;> (simp only [Option.some.injEq] at h; subst h; simp [Op.equalIn, underlying, ht]))
theorem binPtr_sound {op : BinOp} {t : TypeId} {e : TypeId} {X Y : Operand} (ht : P.underlying t = some (.pointer e)) (h : binNil eqPtr op x y = some v) (hx : VRel ρ x x') (hy : VRel ρ y y') :
    VRel ρ v v ∧ ∀ w, (do eqGuard op t X Y x' y'; binOp op t x' y' : Sem Value).run P w = .ok v w := by
  have key : ∀ b, eqPtr x y = some b → ∀ w, (eqGuard op t X Y x' y').run P w = .ok () w ∧ (op = .eql → binOp op t x' y' = do pure (.bool (← Op.equal t x' y'))) ∧ (op = .neq → binOp op t x' y' = do pure (.bool (!(← Op.equal t x' y')))) := by
    intro b hb w
    unfold eqPtr at hb
    split at hb <;> first
      | (simp at hb; done)
      | (cases hx <;> cases hy <;> cases op <;> exact ⟨rfl, fun h => by first | rfl | simp at h, fun h => by first | rfl | simp at h⟩)
  cases op <;> simp only [binNil, Option.map_eq_some_iff] at h <;> first
    | (simp at h; done)
    | (obtain ⟨b, hb, rfl⟩ := h
       refine ⟨.bool _, fun w => ?_⟩
       obtain ⟨h1, h2, h3⟩ := key b hb w
       show (Sem.bind _ _).run P w = _
       rw [Sem.run_bind', h1]
       first | rw [h2 rfl] | rw [h3 rfl]
       have := eqPtr_sound ht hb hx hy 9999 w
       show (Sem.bind (Op.equalIn (9999 + 1) t x' y') _).run P w = _
       rw [Sem.run_bind', this]
       rfl)
theorem binSlc_sound {op : BinOp} {t : TypeId} {e : TypeId} {X Y : Operand} (ht : P.underlying t = some (.slice e)) (h : binNil eqSlc op x y = some v) (hx : VRel ρ x x') (hy : VRel ρ y y') :
    VRel ρ v v ∧ ∀ w, (do eqGuard op t X Y x' y'; binOp op t x' y' : Sem Value).run P w = .ok v w := by
  have key : ∀ b, eqSlc x y = some b → ∀ w, (eqGuard op t X Y x' y').run P w = .ok () w ∧ (op = .eql → binOp op t x' y' = do pure (.bool (← Op.equal t x' y'))) ∧ (op = .neq → binOp op t x' y' = do pure (.bool (!(← Op.equal t x' y')))) := by
    intro b hb w
    unfold eqSlc at hb
    split at hb <;> first
      | (simp at hb; done)
      | (cases hx <;> cases hy <;> cases op <;> exact ⟨rfl, fun h => by first | rfl | simp at h, fun h => by first | rfl | simp at h⟩)
  cases op <;> simp only [binNil, Option.map_eq_some_iff] at h <;> first
    | (simp at h; done)
    | (obtain ⟨b, hb, rfl⟩ := h
       refine ⟨.bool _, fun w => ?_⟩
       obtain ⟨h1, h2, h3⟩ := key b hb w
       show (Sem.bind _ _).run P w = _
       rw [Sem.run_bind', h1]
       first | rw [h2 rfl] | rw [h3 rfl]
       have := eqSlc_sound ht hb hx hy 9999 w
       show (Sem.bind (Op.equalIn (9999 + 1) t x' y') _).run P w = _
       rw [Sem.run_bind', this]
       rfl)
theorem binMap_sound {op : BinOp} {t : TypeId} {k e : TypeId} {X Y : Operand} (ht : P.underlying t = some (.map k e)) (h : binNil eqMap op x y = some v) (hx : VRel ρ x x') (hy : VRel ρ y y') :
    VRel ρ v v ∧ ∀ w, (do eqGuard op t X Y x' y'; binOp op t x' y' : Sem Value).run P w = .ok v w := by
  have key : ∀ b, eqMap x y = some b → ∀ w, (eqGuard op t X Y x' y').run P w = .ok () w ∧ (op = .eql → binOp op t x' y' = do pure (.bool (← Op.equal t x' y'))) ∧ (op = .neq → binOp op t x' y' = do pure (.bool (!(← Op.equal t x' y')))) := by
    intro b hb w
    unfold eqMap at hb
    split at hb <;> first
      | (simp at hb; done)
      | (cases hx <;> cases hy <;> cases op <;> exact ⟨rfl, fun h => by first | rfl | simp at h, fun h => by first | rfl | simp at h⟩)
  cases op <;> simp only [binNil, Option.map_eq_some_iff] at h <;> first
    | (simp at h; done)
    | (obtain ⟨b, hb, rfl⟩ := h
       refine ⟨.bool _, fun w => ?_⟩
       obtain ⟨h1, h2, h3⟩ := key b hb w
       show (Sem.bind _ _).run P w = _
       rw [Sem.run_bind', h1]
       first | rw [h2 rfl] | rw [h3 rfl]
       have := eqMap_sound ht hb hx hy 9999 w
       show (Sem.bind (Op.equalIn (9999 + 1) t x' y') _).run P w = _
       rw [Sem.run_bind', this]
       rfl)
theorem binFn_sound {op : BinOp} {t : TypeId} {p r : Array TypeId} {q : Bool} {X Y : Operand} (ht : P.underlying t = some (.func p r q)) (h : binNil eqFn op x y = some v) (hx : VRel ρ x x') (hy : VRel ρ y y') :
    VRel ρ v v ∧ ∀ w, (do eqGuard op t X Y x' y'; binOp op t x' y' : Sem Value).run P w = .ok v w := by
  have key : ∀ b, eqFn x y = some b → ∀ w, (eqGuard op t X Y x' y').run P w = .ok () w ∧ (op = .eql → binOp op t x' y' = do pure (.bool (← Op.equal t x' y'))) ∧ (op = .neq → binOp op t x' y' = do pure (.bool (!(← Op.equal t x' y')))) := by
    intro b hb w
    unfold eqFn at hb
    split at hb <;> first
      | (simp at hb; done)
      | (cases hx <;> cases hy <;> cases op <;> exact ⟨rfl, fun h => by first | rfl | simp at h, fun h => by first | rfl | simp at h⟩)
  cases op <;> simp only [binNil, Option.map_eq_some_iff] at h <;> first
    | (simp at h; done)
    | (obtain ⟨b, hb, rfl⟩ := h
       refine ⟨.bool _, fun w => ?_⟩
       obtain ⟨h1, h2, h3⟩ := key b hb w
       show (Sem.bind _ _).run P w = _
       rw [Sem.run_bind', h1]
       first | rw [h2 rfl] | rw [h3 rfl]
       have := eqFn_sound ht hb hx hy 9999 w
       show (Sem.bind (Op.equalIn (9999 + 1) t x' y') _).run P w = _
       rw [Sem.run_bind', this]
       rfl)
end prims
end Go.AM
