/- THE ABSTRACT MACHINE: from the world in which a call begins to the abstract heap, and back. -/
import Derived.Test.YtjpdppohflailaaAmCall
import Derived.ChangeSame
import Derived.Carry
set_option linter.all false
namespace Go.AM
open Go.RowKit (Below)
section
variable {P : Program}

/-- What may be looked at of a block that was there when the call began. -/
noncomputable def snapObj (w : World) (b : Nat) : AObj :=
  match w.heap[b]? with
  | some (.cells _ _ _) => .ro (fun i => match w.cell? ⟨b, i, none⟩ with
    | some v => open Classical in if Closed w.heap.size v then some v else none
    | none => none)
  | some (.map es cl) => open Classical in if ∀ e ∈ es.toList, Closed w.heap.size e.key ∧ Closed w.heap.size e.val then .map es.toList cl false else .dead
  | _ => .dead
noncomputable def snap (w : World) : AH := { next := w.heap.size, raw := snapObj w }

theorem snap_R {w : World} (hg : P.globals.size ≤ w.heap.size) : R P ⟨w.heap.size, fun _ => none⟩ w (snap w) w where
  size := rfl
  glob := hg
  nxt := Nat.le_refl _
  below := Below.refl _ _
  ro b hb := by
    have hb : b < w.heap.size := hb
    have : (snap w).get b = snapObj w b := by simp [AH.get, snap, hb]
    rw [this]
    unfold snapObj
    split
    · intro i v hv
      simp only at hv
      split at hv
      · rename_i u hu
        split at hv
        · rename_i hc
          simp only [Option.some.injEq] at hv; subst hv
          exact ⟨hu, hc⟩
        · simp at hv
      · simp at hv
    · rename_i es cl hh
      split
      · rename_i hc
        exact ⟨rfl, by rw [hh], hc⟩
      · trivial
    · trivial
  own b l h := by simp at h
  inj b b' l l' h := by simp at h

theorem closed_rel {w : World} : ∀ {l : List Value}, (∀ v ∈ l, Closed w.heap.size v) → LRel ⟨w.heap.size, fun _ => none⟩ l l
  | [], _ => LRel.nil
  | v :: l, h => LRel.cons (h v (by simp)) (closed_rel fun x hx => h x (by simp [hx]))

/-- A law that the abstract machine finds true is true. -/
theorem entry (hmix : P.follows .mixedOrders = true) {kps : FuncId → Keep} {ext : CallT} (hext : CallOk P ext) {f : FuncId} {args : Array Value} {w : World} (hg : P.globals.size ≤ w.heap.size) (hc : ∀ v ∈ args.toList, Closed w.heap.size v)
    (h : CallW P kps ext f args.toList (snap w) (fun v _ => v = .bool true)) : Calls P f args w (fun e w' => e = .returned (.bool true) ∧ Below w.heap.size w w') := by
  refine ((callW_told hmix hext h).2 _ _ _ args (snap_R hg) (closed_rel hc)).mono ?_
  rintro e w' ⟨v', rfl, ρ', v, H', _, _, _, hR, hv, rfl⟩
  have hb := hR.below
  rw [← hR.size] at hb
  exact ⟨by rw [hv.flat rfl], hb⟩

theorem closed_flat {n : Nat} {v : Value} (h : flat v = true) : Closed n v := by
  cases v <;> first | exact .bool _ | exact .int _ _ | exact .string _ | simp [flat] at h
end

open Go.WideShapes Go.ChangeShapes in
theorem post_of_below {H : Type} {enc : TypeId × Value → H} {P : Program} {f : Func} {s : ChangeSpec} {apart fresh handsOn again : Bool} {W W' : World} {args : Array Value} {v : Value} {ds gs : List (DataW H)} {before pa pv : List MemPlace}
    (hW : DataW.Whole enc P f.params.toList s.vars apart W args.toList ds gs before)
    (hres : ∀ (b : Nat) (sp : Nat → Bool) (hd : Bool), DataW.TrodAll enc P W' b sp hd f.resultTypes.toList (v.resultList f.resultTypes.size) (s.fn H (ds ++ gs)).results [])
    (hargs : ∀ sp : Nat → Bool, (∀ p ∈ before, sp p.block = true) → DataW.TrodAll enc P W' 0 sp true f.params.toList args.toList (s.fn H (ds ++ gs)).args pa)
    (hvars : ∀ sp : Nat → Bool, (∀ p ∈ before, sp p.block = true) → DataW.TrodVars enc P W' sp s.vars (s.fn H (ds ++ gs)).vars pv)
    (hps : before = pa ++ pv) (hb : Below W.heap.size W W')
    (hok : ∀ (j : Nat) (t : TypeId) (r : Value), f.resultTypes[j]? = some t → (v.resultList f.resultTypes.size)[j]? = some r → Value.okWide P W' .any 0 t r) :
    s.post enc P f apart fresh handsOn again W args v W' := by
  have hold : ∀ p ∈ before, (fun b => decide (b < W.heap.size)) p.block = true := fun p hp => by simpa using hW.lt p hp
  have hlt : ∀ p ∈ before, p.block < W.heap.size := fun p hp => hW.lt p hp
  refine ⟨ds, gs, before, [], pa, pv, hW, hres _ _ _, hargs _ hold, hvars _ hold, World.keptBut_mono (fun p hp => ⟨hp, ?_⟩) (hb.frame _), fun _ => ?_⟩
  · rw [hps, List.mem_append] at hp
    exact Or.inr hp
  · obtain ⟨_, _, _, _, _, hz, hn⟩ := hW
    refine ⟨hok, _, _, ([] ++ pa) ++ pv, ⟨[] ++ pa, pv, trodAll_append (hargs _ (fun _ _ => rfl)) (hres _ _ _), hvars _ (fun _ _ => rfl), rfl, ?_, ?_⟩, ?_⟩
    · intro b off hp
      have hin : MemPlace.cell b off ∈ before := by rw [hps]; simpa using hp
      rw [hb.frozen (p := ⟨b, off, none⟩) (hlt _ hin)]
      exact hz b off hin
    · intro ha
      have := hn ha
      rw [hps] at this
      simpa using this
    · intro p hp _
      rw [hps]
      simpa using hp
end Go.AM
