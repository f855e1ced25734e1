/- THE ABSTRACT MACHINE: code evaluated straight on, with names laid for joins and loops: how a printed function is held against the code, whole. -/
import Derived.Test.YtjpdppohflailaaAmTop
set_option linter.all false
namespace Go.AM

abbrev Cont := AExit → Env → AH → Prop
/-- What each loop that stands around goes on with: the innermost at 0. -/
abbrev Stk := Nat → List Value → AH → Prop
def Stk.shift (S : Stk) : Stk := fun n => S (n + 1)
def Stk.cons (X : List Value → AH → Prop) (S : Stk) : Stk
  | 0 => X
  | n + 1 => S n

def nth : List Value → Nat → Value
  | l, 0 => l.headD undef
  | l, n + 1 => nth l.tail n
def envP : List Nat → List Value → Env
  | [], _ => fun _ => undef
  | k :: ks, l => fun n => if n = k then l.headD undef else envP ks l.tail n

/-- A loop over the values that it keeps: the least there is. -/
def LoopL (B : List Value → AH → (List Value → AH → Prop) → Prop) (l : List Value) (H : AH) : Prop :=
  ∀ X : List Value → AH → Prop, (∀ l H, B l H X → X l H) → X l H

abbrev Plan := List (Nat × (Stk → Env → AH → Prop))
def Plan.get : Plan → Nat → Option (Stk → Env → AH → Prop)
  | [], _ => none
  | a :: l, p => match a.1 == p with | true => some a.2 | false => Plan.get l p

section
variable (P : Program) (call : CallT) (kp : Keep) (pl : Plan)

def evD : Code → Stk → Nat → Env → AH → Cont → Prop
  | .skip, _, _, T, H, K => K .normal T H
  | .label _, _, _, T, H, K => K .normal T H
  | .exit id, _, _, T, H, K => K (.exit id) T H
  | .goto l, _, _, T, H, K => K (.goto l) T H
  | .ret, _, _, T, H, K => K .ret T H
  | .seq a b, S, p, T, H, K => evD a S (2 * p) T H (seqK (match pl.get (2 * p + 1) with | some J => J S | none => fun T' H' => evD b S (2 * p + 1) T' H' K) K)
  | .cond c a b, S, p, T, H, K => ifB (ev T c) (evD a S (2 * p) T H K) (evD b S (2 * p + 1) T H K)
  | .block id c, S, p, T, H, K => evD c S (2 * p) T H (blkK id K)
  | .loop c, S, p, T, H, _ => match pl.get p with
    | some B => LoopL (fun l H X => B (S.cons X) (envP (kp.keep (firstReg c)) l) H) ((kp.keep (firstReg c)).map T) H
    | none => False
  | .scope c, S, p, T, H, K => evD c S (2 * p) T H (scopeK K)
  | .region id ops false, _, _, T, H, K => evOps P call ops.toList ops.toList (restr (kp.keep id) T) H (fun T' H' => K .normal T' H')
  | .region id ops true, _, _, T, H, K =>
    match drawOk P ops.toList (kp.order id) with
    | true => evDraw P call ops.toList (kp.order id) [] (restr (kp.keep id) T) H (fun T' H' => K .normal T' H')
    | false => False
  | _, _, _, _, _, _ => False

def joinK (b : Code) (p : Nat) (Kf : Stk → Cont) : Stk → Cont := fun S => seqK (match pl.get (2 * p + 1) with | some J => J S | none => fun T' H' => evD P call kp pl b S (2 * p + 1) T' H' (Kf S)) (Kf S)
def loopK (ks : List Nat) (Kf : Stk → Cont) : Stk → Cont := fun S => seqK (fun T' H' => S 0 (ks.map T') H') (Kf S.shift)

def obls : Code → Nat → (Stk → Cont) → List ((Stk → Env → AH → Prop) × (Stk → Env → AH → Prop))
  | .seq a b, p, Kf => (match pl.get (2 * p + 1) with | some J => [(J, fun S T H => evD P call kp pl b S (2 * p + 1) T H (Kf S))] | none => []) ++
      (obls a (2 * p) (joinK P call kp pl b p Kf) ++ obls b (2 * p + 1) Kf)
  | .cond _ a b, p, Kf => obls a (2 * p) Kf ++ obls b (2 * p + 1) Kf
  | .block id c, p, Kf => obls c (2 * p) (fun S => blkK id (Kf S))
  | .scope c, p, Kf => obls c (2 * p) (fun S => scopeK (Kf S))
  | .loop c, p, Kf => (match pl.get p with | some B => [(B, fun S T H => evD P call kp pl c S (2 * p) T H (loopK (kp.keep (firstReg c)) Kf S))] | none => []) ++
      obls c (2 * p) (loopK (kp.keep (firstReg c)) Kf)
  | _, _, _ => []
end

section
variable {P : Program} {call : CallT} {kp : Keep} {pl : Plan}

theorem envP_map (T : Env) : ∀ ks : List Nat, envP ks (ks.map T) = restr ks T
  | [] => rfl
  | k :: ks => by
    funext n
    have := congrFun (envP_map T ks) n
    simp only [envP, List.map_cons, List.headD_cons, List.tail_cons, restr, envL] at this ⊢
    by_cases h : n = k
    · subst h; simp
    · simp only [h, if_false]; exact this

theorem evD_sound : ∀ (code : Code) (p : Nat) (Kf : Stk → Cont), (∀ pr ∈ obls P call kp pl code p Kf, pr.1 = pr.2) → ∀ S T H, evD P call kp pl code S p T H (Kf S) → evCode P call kp code T H (Kf S) := by
  intro code
  induction code with
  | seq a b iha ihb =>
    intro p Kf ho S T H h
    simp only [obls, List.mem_append] at ho
    simp only [evCode]
    refine ⟨match pl.get (2 * p + 1) with | some J => J S | none => fun T' H' => evD P call kp pl b S (2 * p + 1) T' H' (Kf S), fun T' H' hj => ?_, ?_⟩
    · apply ihb (2 * p + 1) Kf (fun pr hp => ho pr (.inr (.inr hp)))
      cases hg : pl.get (2 * p + 1) with
      | none => rw [hg] at hj; exact hj
      | some J =>
        rw [hg] at hj
        have := ho (J, fun S T H => evD P call kp pl b S (2 * p + 1) T H (Kf S)) (.inl (by rw [hg]; simp))
        have e := congrFun (congrFun (congrFun this S) T') H'
        simp only at e
        rw [← e]; exact hj
    · exact iha (2 * p) (joinK P call kp pl b p Kf) (fun pr hp => ho pr (.inr (.inl hp))) S T H h
  | cond c a b iha ihb =>
    intro p Kf ho S T H h
    simp only [obls, List.mem_append] at ho
    simp only [evCode]
    simp only [evD] at h
    exact ifB_mono (iha _ _ (fun pr hp => ho pr (.inl hp)) S T H) (ihb _ _ (fun pr hp => ho pr (.inr hp)) S T H) h
  | block id c ih =>
    intro p Kf ho S T H h
    exact ih (2 * p) (fun S => blkK id (Kf S)) ho S T H h
  | scope c ih =>
    intro p Kf ho S T H h
    exact ih (2 * p) (fun S => scopeK (Kf S)) ho S T H h
  | loop c ih =>
    intro p Kf ho S T H h
    simp only [obls, List.mem_append] at ho
    simp only [evD] at h
    simp only [evCode]
    cases hg : pl.get p with
    | none => rw [hg] at h; exact h.elim
    | some B =>
      rw [hg] at h
      simp only at h
      intro X hX
      have hB := ho (B, fun S T H => evD P call kp pl c S (2 * p) T H (loopK (kp.keep (firstReg c)) Kf S)) (.inl (by rw [hg]; simp))
      have := h (fun l H => X (envP (kp.keep (firstReg c)) l) H) (fun l H hb => by
        apply hX
        have e := congrFun (congrFun (congrFun hB (S.cons fun l H => X (envP (kp.keep (firstReg c)) l) H)) (envP (kp.keep (firstReg c)) l)) H
        have := ih (2 * p) (loopK (kp.keep (firstReg c)) Kf) (fun pr hp => ho pr (.inr hp)) _ _ _ (Eq.mp e hb)
        have k : loopK (kp.keep (firstReg c)) Kf (S.cons fun l H => X (envP (kp.keep (firstReg c)) l) H) = seqK (fun T' H' => X (restr (kp.keep (firstReg c)) T') H') (Kf S) := by
          unfold loopK
          have : (fun (T' : Env) (H' : AH) => S.cons (fun l H => X (envP (kp.keep (firstReg c)) l) H) 0 (List.map T' (kp.keep (firstReg c))) H') = fun T' H' => X (restr (kp.keep (firstReg c)) T') H' := by
            funext T' H'; simp only [Stk.cons, envP_map]
          rw [this]; rfl
        rw [k] at this
        exact this)
      rw [envP_map] at this
      exact this
  | region id ops d =>
    intro p Kf ho S T H h
    cases d <;> exact h
  | _ => intro p Kf ho S T H h; exact h

theorem all_of_maps {α : Type} : ∀ {l : List (α × α)}, l.map (·.1) = l.map (·.2) → ∀ p ∈ l, p.1 = p.2
  | [], _ => by simp
  | a :: l, h => by
    simp only [List.map_cons, List.cons.injEq] at h
    intro p hp
    rcases List.mem_cons.1 hp with rfl | hp
    · exact h.1
    · exact all_of_maps h.2 p hp

def nostk : Stk := fun _ _ _ => False

/-- A printed function does what the code does. -/
theorem evBody_of (fn : Func) (args : List Value) (H : AH) (Q : Value → AH → Prop) (code : Code) (hc : fn.body = some code) {G : Prop}
    (ho : (obls P call kp pl code 1 (fun _ => bodyK P fn.results.toList Q)).map (·.1) = (obls P call kp pl code 1 (fun _ => bodyK P fn.results.toList Q)).map (·.2))
    (hg : G = evD P call kp pl code nostk 1 (argEnv args) H (bodyK P fn.results.toList Q)) (h : G) : evBody P call kp fn args H Q := by
  unfold evBody
  rw [hc]
  exact evD_sound code 1 (fun _ => bodyK P fn.results.toList Q) (all_of_maps ho) nostk _ _ (hg ▸ h)
end
end Go.AM
