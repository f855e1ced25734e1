/- THE ABSTRACT MACHINE. -/
import Derived.Test.YtmibhogaoakcaaaDoorR5da1A1
set_option linter.all false
section
namespace Go.AM
open Go.RowKit (Below okWide_bool_mk shut_bool)
open Go.ChangeShapes Go.WideShapes
section
variable {Hh : Type} {enc : TypeId × Value → Hh} {P : Program} {W : World}
theorem closed_cells {B : Nat} {v : Value} (h : ∀ x ∈ v.cells.toList, Closed B x) : Closed B v := by
  cases v with
  | agg a =>
    refine .agg a.toList a.toList rfl fun i x y hx hy => ?_
    rw [hx] at hy; simp only [Option.some.injEq] at hy; subst hy
    exact h _ (List.mem_of_getElem? hx)
  | _ => exact h _ (by simp [Value.cells])
theorem arg_SV {t : TypeId} {sh : Sh} {d : Nat} {v : Value} {x : DataW Hh} {ps : List MemPlace} {b0 : Nat} (hsh : shOf P d t = some sh) (hval : Value.okWide P W .any b0 t v) (h : DataW.Trod enc P W 0 (fun _ => true) true t v x ps) :
    ArgSV (snap W) sh v ∧ Closed W.heap.size v := by
  obtain ⟨fuel, h⟩ := h
  obtain ⟨h1, h2⟩ := trod_SV d t sh fuel _ _ hsh h
  refine ⟨?_, closed_cells h2⟩
  cases d with
  | zero => simp [shOf] at hsh
  | succ d =>
  simp only [shOf] at hsh
  split at hsh
  · rename_i k hu
    simp only [Option.some.injEq] at hsh; subst hsh
    obtain ⟨n, rfl⟩ := okWide_int hu hval
    exact h1
  · rename_i hu
    simp only [Option.some.injEq] at hsh; subst hsh
    obtain ⟨n, rfl⟩ := okWide_bool hu hval
    exact h1
  · rename_i hu
    simp only [Option.some.injEq] at hsh; subst hsh
    obtain ⟨n, rfl⟩ := okWide_string hu hval
    exact h1
  · rename_i e hu
    rw [Option.ite_none_left_eq_some] at hsh
    obtain ⟨_, hsh⟩ := hsh
    simp only [Option.map_eq_some_iff] at hsh
    obtain ⟨se, _, rfl⟩ := hsh
    obtain ⟨a, n, c, rfl⟩ := okWide_slice hu hval
    exact h1
  · rename_i fs hu
    rw [Option.ite_none_right_eq_some] at hsh
    obtain ⟨_, hsh⟩ := hsh
    simp only [Option.map_eq_some_iff] at hsh
    obtain ⟨se, _, rfl⟩ := hsh
    obtain ⟨cs, rfl, _⟩ := okWide_struct hu hval
    exact ⟨cs.toList, by simp, h1⟩
  · rename_i m e hu
    rw [Option.ite_none_right_eq_some] at hsh
    obtain ⟨_, hsh⟩ := hsh
    simp only [Option.map_eq_some_iff] at hsh
    obtain ⟨se, _, rfl⟩ := hsh
    have : ∃ cs, v = .agg cs ∧ cs.size = P.cellsOf t := by
      simp only [Value.okWide, hu] at hval
      obtain ⟨cs, h1, h2, _⟩ := hval
      exact ⟨cs, h1, h2⟩
    obtain ⟨cs, rfl, _⟩ := this
    exact ⟨cs.toList, by simp, h1⟩
  · simp at hsh
theorem args_SV {d : Nat} {b0 : Nat} : ∀ {ts : List TypeId} {shs : List Sh} {vs : List Value} {ds : List (DataW Hh)} {ps : List MemPlace}, ts.mapM (shOf P d) = some shs →
    (∀ (j : Nat) t v, ts[j]? = some t → vs[j]? = some v → Value.okWide P W .any b0 t v) → DataW.TrodAll enc P W 0 (fun _ => true) true ts vs ds ps →
    ArgsSV (snap W) shs vs ∧ (∀ v ∈ vs, Closed W.heap.size v) ∧ ds.length = ts.length
  | [], shs, vs, ds, ps, h, _, ht => by
    simp at h; subst h
    cases vs <;> cases ds <;> simp [DataW.TrodAll, ArgsSV] at ht ⊢
  | t :: ts, shs, vs, ds, ps, h, hv, ht => by
    simp only [List.mapM_cons, Option.bind_eq_bind, Option.bind_eq_some_iff, Option.pure_def, Option.some.injEq] at h
    obtain ⟨s, hs, ss, hss, rfl⟩ := h
    cases vs with
    | nil => cases ds <;> simp [DataW.TrodAll] at ht
    | cons v vs =>
      cases ds with
      | nil => simp [DataW.TrodAll] at ht
      | cons x ds =>
        simp only [DataW.TrodAll] at ht
        obtain ⟨p, q, h1, h2, rfl⟩ := ht
        obtain ⟨g1, g2⟩ := arg_SV hs (hv 0 t v rfl rfl) h1
        obtain ⟨g3, g4, g5⟩ := args_SV hss (fun j t v a b => hv (j + 1) t v (by simpa using a) (by simpa using b)) h2
        exact ⟨⟨g1, g3⟩, by simpa using ⟨g2, g4⟩, by simp [g5]⟩
theorem trodAll_stays (hl : laidOutB P = true) {W' : World} {sp : Nat → Bool} : ∀ {ts : List TypeId} {vs : List Value} {ds : List (DataW Hh)} {ps : List MemPlace}, (∀ t ∈ ts, P.readableRec t = true ∧ t < P.types.size) →
    DataW.TrodAll enc P W 0 (fun _ => true) true ts vs ds ps → (∀ x ∈ ps, W.sameAt W' x) → (∀ x ∈ ps, sp x.block = true) → DataW.TrodAll enc P W' 0 sp true ts vs ds ps
  | [], vs, ds, ps, _, ht, _, _ => by cases vs <;> cases ds <;> simp [DataW.TrodAll] at ht ⊢; exact ht
  | t :: ts, vs, ds, ps, hr, ht, hs, hp => by
    cases vs with
    | nil => cases ds <;> simp [DataW.TrodAll] at ht
    | cons v vs =>
      cases ds with
      | nil => simp [DataW.TrodAll] at ht
      | cons x ds =>
        simp only [DataW.TrodAll] at ht ⊢
        obtain ⟨p, q, h1, h2, rfl⟩ := ht
        refine ⟨p, q, ?_, ?_, rfl⟩
        · exact WideElems.Trod_stays hl (hr t (by simp)).1 (hr t (by simp)).2 h1 (fun x hx => hs x (by simp [hx])) (fun x hx => hp x (by simp [hx]))
        · exact trodAll_stays hl (fun t ht => hr t (by simp [ht])) h2 (fun x hx => hs x (by simp [hx])) (fun x hx => hp x (by simp [hx]))
end
theorem law_core {C : Checked} {H : Type} {enc : TypeId × Value → H} {f : FuncId} {fn : Func} {s : ChangeSpec} {tb : TypeId} {shs : List Sh} {d : Nat} {kps : FuncId → Keep} {ext : CallT}
    (hfn : C.prog.funcs[f]? = some fn)
    (hs : ∀ ds : List (DataW H), ds.length = fn.params.toList.length → s.fn H ds = { results := [.lit (.bool true)], args := ds })
    (hv : s.vars = []) (hres : fn.resultTypes = #[tb]) (htb : C.prog.underlying tb = some .bool)
    (hl : laidOutB C.prog = true) (hread : (fn.params.toList.all fun t => C.prog.readableRec t && decide (t < C.prog.types.size)) = true)
    (hsh : fn.params.toList.mapM (shOf C.prog d) = some shs) (hmix : C.prog.follows .mixedOrders = true) (hbody : fn.body.isNone = false) (hname : (fn.name == "runtime.NumGoroutine") = false) (hext : CallOk C.prog ext)
    (law : ∀ (H : AH) (args : List Value) (Q : Value → AH → Prop), ArgsSV H shs args → (∀ H', Q (.bool true) H') → CallW C.prog kps ext f args H Q)
    {W : World} {base : Nat} {args : Array Value} {ds gs : List (DataW H)} {before : List MemPlace}
    (hval0 : ∀ (j : Nat) t v, fn.params[j]? = some t → args[j]? = some v → Value.okWide C.prog W .any base t v)
    (hW : DataW.Whole enc C.prog fn.params.toList s.vars false W args.toList ds gs before) (hglob : C.prog.globals.size ≤ W.heap.size) :
    Calls C.prog f args W fun e W' => ∃ v, e = .returned v ∧ s.post enc C.prog fn false true false false W args v W' := by
  have hW' := hW
  obtain ⟨p, q, hA, hV, rfl, hfz, hnd⟩ := hW
  rw [hv] at hV
  have hgq : gs = [] ∧ q = [] := by
    cases gs with
    | nil => simpa [DataW.TrodVars] using hV
    | cons g gs => simp [DataW.TrodVars] at hV
  obtain ⟨rfl, rfl⟩ := hgq
  obtain ⟨g1, g2, g3⟩ := args_SV hsh (fun j t v a b => hval0 j t v (by simpa using a) (by simpa using b)) hA
  have hcall := entry (f := f) ⟨fn, hfn, hbody, hname⟩ hmix hext (kps := kps) (args := args) (w := W) hglob g2 (law (snap W) args.toList _ g1 fun _ => rfl)
  refine hcall.mono ?_
  rintro e W' ⟨rfl, hb⟩
  refine ⟨_, rfl, ?_⟩
  have hsd := hs ds g3
  have hrl : (Value.bool true).resultList fn.resultTypes.size = [.bool true] := by rw [hres]; rfl
  refine post_of_below (pa := p) (pv := []) hW' ?_ ?_ ?_ rfl hb ?_
  · intro b sp hd
    rw [List.append_nil, hsd, hrl, hres]
    exact ⟨[], [], shut_bool htb true, rfl, rfl⟩
  · intro sp hsp
    rw [List.append_nil, hsd]
    refine trodAll_stays hl (fun t ht => ?_) hA (fun x hx => hb.same ?_) (fun x hx => hsp x (by simpa using hx))
    · have := List.all_eq_true.1 hread t ht
      simpa using this
    · exact hW'.lt x (by simpa using hx)
  · intro sp _
    rw [List.append_nil, hsd, hv]
    rfl
  · intro j t r hj hr
    rw [hres] at hj
    rw [hrl] at hr
    cases j with
    | zero =>
      simp at hj hr
      subst hj; subst hr
      exact okWide_bool_mk htb true
    | succ j => simp at hr
def globB (P : Program) : Bool := match P.globals.size with
  | 0 => true
  | g + 1 => (((begin P (fun _ _ => 0) default).world.heap[g]?).bind Obj.row?).isSome
theorem globs_le {P : Program} {w : World} (h : globB P = true) (hs : w.ShapedOpen P) : P.globals.size ≤ w.heap.size := by
  unfold globB at h
  split at h
  · rename_i e; omega
  · rename_i g e
    rw [Option.isSome_iff_exists] at h
    obtain ⟨⟨z, t⟩, h⟩ := h
    obtain ⟨cs, hc, _⟩ := hs.1 g z t (by omega) h
    rw [e]
    exact (Array.getElem?_eq_some_iff.1 hc).1
theorem law_laid {C : Checked} {os : Os} {H : Type} {enc : TypeId × Value → H} {f : FuncId} {fn : Func} {s : ChangeSpec} {conds : List PathCond} {tb : TypeId} {shs : List Sh} {d : Nat} {kps : FuncId → Keep} {ext : CallT} {l : List (String × DataW Unit)}
    (own : ownKnob C.prog.godebug = none) (started : os.Started) (noInit : C.prog.inits.idxOf? f = none) (hfn : C.prog.funcs[f]? = some fn)
    (witness : ∃ (w : World) (tape : Tape) (i : Input), w.os = os ∧ (w.forCall tape i).Shaped C.prog ∧ i.vars = [] ∧ Input.okWide C.prog (w.forCall tape i) .any w.heap.size f i ∧
      ((s.pre enc C.prog fn conds false (w.forCall tape i).memory i.args ∧ laidMetH C.prog l (w.forCall tape i).memory) ∧ sizedMet enc C.prog fn (OpenSpec.ofChange s) false (w.forCall tape i).memory i.args) ∧ Assume.holds {} C.prog (lone (Frame.enter C.prog f i.args .normal) [] (w.forCall tape i)))
    (hs : ∀ ds : List (DataW H), ds.length = fn.params.toList.length → s.fn H ds = { results := [.lit (.bool true)], args := ds })
    (hv : s.vars = []) (hres : fn.resultTypes = #[tb]) (htb : C.prog.underlying tb = some .bool)
    (hl : laidOutB C.prog = true) (hread : (fn.params.toList.all fun t => C.prog.readableRec t && decide (t < C.prog.types.size)) = true)
    (hsh : fn.params.toList.mapM (shOf C.prog d) = some shs) (hmix : C.prog.follows .mixedOrders = true) (hglob : globB C.prog = true) (hbody : fn.body.isNone = false) (hname : (fn.name == "runtime.NumGoroutine") = false) (hext : CallOk C.prog ext)
    (law : ∀ (H : AH) (args : List Value) (Q : Value → AH → Prop), ArgsSV H shs args → (∀ H', Q (.bool true) H') → CallW C.prog kps ext f args H Q) :
    ReturnsInHanded {} C os f .any (fun w args => (s.pre enc C.prog fn conds false w args ∧ laidMetH C.prog l w) ∧ sizedMet enc C.prog fn (OpenSpec.ofChange s) false w args) (s.post enc C.prog fn false true false false) := by
  refine returnsInHanded_of_calls own started noInit witness ?_
  intro w tape i _ hsh' _ hok hpre hholds
  obtain ⟨_, _, _, fn', hfn', _, _, _, _, hval⟩ := hok
  have e : fn' = fn := Option.some.inj (hfn'.symm.trans hfn)
  subst e
  obtain ⟨⟨⟨ds, gs, before, hw, hc⟩, _⟩, hz⟩ := hpre
  have hw' := DataW.Whole.of_heap (w' := w.forCall tape i) (by rfl) hw
  refine (law_core hfn hs hv hres htb hl hread hsh hmix hbody hname hext law hval hw' (globs_le hglob hsh')).mono fun e W' ⟨v, he, hp⟩ => ?_
  subst he
  exact ChangeSpec.post_blind hp
end Go.AM
end
