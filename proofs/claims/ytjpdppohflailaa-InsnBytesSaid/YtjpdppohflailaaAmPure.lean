/- THE ABSTRACT MACHINE: all operations that touch no memory. -/
import Derived.Test.YtjpdppohflailaaAmOps
set_option linter.all false
namespace Go.AM

theorem ARel.add {ρ : Inj} {a a' : Addr} (h : ARel ρ a a') (n : Nat) : ARel ρ (a.add n) (a'.add n) := by
  rcases h with ⟨h1, rfl⟩ | ⟨h1, h2, l, h3, rfl⟩
  · exact .inl ⟨by unfold Addr.add; split <;> exact h1, rfl⟩
  · refine .inr ⟨by unfold Addr.add; split <;> exact h1, ?_, l, ?_, ?_⟩
    · unfold Addr.add; split
      · exact h2
      · rfl
    · unfold Addr.add; split <;> exact h3
    · unfold Addr.add
      split
      · rfl
      · simp [Nat.add_assoc]

section runs
variable {P : Program} {w : World}
theorem run_underlying' {t : TypeId} {d : TypeDesc} (h : P.underlying t = some d) : (underlying t).run P w = .ok d w := by simp [underlying, h]
theorem run_sizeOf' {t : TypeId} {n : Nat} (h : sizeO P t = some n) : (sizeOf t).run P w = .ok n w := by
  unfold sizeO at h
  cases hi : P.info? t with
  | none => simp [hi] at h
  | some i => simp [hi] at h; simp [sizeOf, typeInfo, hi, h]
theorem run_isAgg' {t : TypeId} {b : Bool} (h : aggO P t = some b) : (isAgg t).run P w = .ok b w := by
  unfold aggO at h
  cases hu : P.underlying t with
  | none => simp [hu] at h
  | some d => cases d <;> simp [hu] at h <;> subst h <;> simp [isAgg, underlying, hu]
theorem run_zero' {t : TypeId} {z : Value} (h : zeroOf P t = some z) : (zeroValue t).run P w = .ok z w := by
  unfold zeroOf at h
  cases hi : P.info? t with
  | none => simp [hi] at h
  | some i => simp [hi] at h; simp [zeroValue, typeInfo, hi, h]
end runs

/-- What a run that touches nothing comes to. -/
def Gives (P : Program) (s : Sem Value) (v : Value) : Prop := ∀ w, s.run P w = .ok v w

section prims
variable {P : Program} {ρ : Inj} {x x' y y' z z' v : Value}

theorem pick_sound {c c' : Value} (h : pick c x y = some v) (hc : VRel ρ c c') (hx : VRel ρ x x') (hy : VRel ρ y y') :
    ∃ v', VRel ρ v v' ∧ Gives P (do pure (if ← asBool c' then x' else y')) v' := by
  unfold pick at h
  split at h
  · rename_i t
    obtain rfl := hc.flat rfl
    simp only [Option.some.injEq] at h; subst h
    refine ⟨if t then x' else y', ?_, fun w => by simp [asBool]⟩
    cases t
    · exact hy
    · exact hx
  · simp at h

theorem binBool_sound {op : BinOp} {t : TypeId} {X Y : Operand} (ht : P.underlying t = some .bool) (h : binBool op x y = some v) (hx : VRel ρ x x') (hy : VRel ρ y y') :
    VRel ρ v v ∧ Gives P (do eqGuard op t X Y x' y'; binOp op t x' y') v := by
  have hs : ∃ a b, x = .bool a ∧ y = .bool b := by
    unfold binBool at h
    split at h <;> first | exact ⟨_, _, rfl, rfl⟩ | simp at h
  obtain ⟨a, b, rfl, rfl⟩ := hs
  obtain rfl := hx.flat rfl
  obtain rfl := hy.flat rfl
  have he : ∀ d w, (Op.equalIn (d + 1) t (.bool a) (.bool b)).run P w = .ok (a == b) w := by
    intro d w; simp [Op.equalIn, underlying, ht]
  cases op <;> simp only [binBool] at h <;> first
    | (simp at h; done)
    | (simp only [Option.some.injEq] at h; subst h
       refine ⟨.bool _, fun w => ?_⟩
       show (Sem.bind (Op.equalIn (9999 + 1) t (.bool a) (.bool b)) _).run P w = _
       rw [Sem.run_bind', he]; rfl)

theorem un_sound {op : UnOp} (h : un op x = some v) (hx : VRel ρ x x') : VRel ρ v v ∧ Gives P (Op.unary op x') v := by
  unfold un at h
  split at h
  · obtain rfl := hx.flat rfl
    simp only [Option.some.injEq] at h; subst h
    exact ⟨.int _ _, fun w => by simp [Op.unary, Op.intArith]⟩
  · obtain rfl := hx.flat rfl
    simp only [Option.some.injEq] at h; subst h
    exact ⟨.int _ _, fun w => by simp [Op.unary, Op.intBits]⟩
  · obtain rfl := hx.flat rfl
    simp only [Option.some.injEq] at h; subst h
    exact ⟨.bool _, fun w => by simp [Op.unary]⟩
  · simp at h

theorem convInt_sound {s d : TypeId} {k j : IntKind} (hs : P.underlying s = some (.int j)) (hd : P.underlying d = some (.int k)) (h : convInt k x = some v) (hx : VRel ρ x x') :
    VRel ρ v v ∧ Gives P (convert s d x') v := by
  unfold convInt at h
  split at h
  · obtain rfl := hx.flat rfl
    simp only [Option.some.injEq] at h; subst h
    exact ⟨.int _ _, fun w => by simp [convert, underlying, hs, hd, Conv.intToInt]⟩
  · simp at h
theorem convRune_sound {s d : TypeId} {j : IntKind} (hs : P.underlying s = some (.int j)) (hd : P.underlying d = some .string) (h : convRune x = some v) (hx : VRel ρ x x') :
    VRel ρ v v ∧ Gives P (convert s d x') v := by
  unfold convRune at h
  split at h
  · obtain rfl := hx.flat rfl
    simp only [Option.some.injEq] at h; subst h
    exact ⟨.string _, fun w => by simp [convert, underlying, hs, hd, Conv.intToString]⟩
  · simp at h
theorem convStr_sound {s d : TypeId} (hs : P.underlying s = some .string) (hd : P.underlying d = some .string) (h : convStr x = some v) (hx : VRel ρ x x') :
    VRel ρ v v ∧ Gives P (convert s d x') v := by
  unfold convStr at h
  split at h
  · obtain rfl := hx.flat rfl
    simp only [Option.some.injEq] at h; subst h
    exact ⟨.string _, fun w => by simp [convert, underlying, hs, hd]⟩
  · simp at h

theorem fieldAt_sound {s f : Nat} {fs : Array Field} {fd : Field} {n : Nat} (hs : P.underlying s = some (.struct fs)) (hf : fs[f]? = some fd) (hn : sizeO P fd.type = some (n + 1)) (h : addOff x fd.offset = some v)
    (hx : VRel ρ x x') : ∃ v', VRel ρ v v' ∧ Gives P (Instr.fieldAt s x' f) v' := by
  unfold addOff at h
  split at h
  · rename_i a
    cases hx with
    | ptr a a' r =>
      simp only [Option.some.injEq] at h; subst h
      refine ⟨_, .ptr _ _ (r.add fd.offset), fun w => ?_⟩
      simp [Instr.fieldAt, underlying, hs, hf, Instr.sureAddr, fieldPlace, run_sizeOf' hn]
  · simp at h

theorem indexAt_arr_sound {t n e s : Nat} {i i' : Value} (ht : P.underlying t = some (.array n e)) (hs : sizeO P e = some s) (h : ixArr n s x i = some v) (hx : VRel ρ x x') (hi : VRel ρ i i') :
    ∃ v', VRel ρ v v' ∧ Gives P (Instr.indexAt t x' i') v' := by
  unfold ixArr at h
  split at h
  · rename_i a k j
    obtain rfl := hi.flat rfl
    cases hx with
    | ptr a a' r =>
      split at h
      · rename_i hb
        simp only [Option.some.injEq] at h; subst h
        refine ⟨_, .ptr _ _ (r.add _), fun w => ?_⟩
        simp [Instr.indexAt, asIntOf, underlying, ht, Instr.sureAddr, hb, run_sizeOf' hs]
      · simp at h
  · simp at h
theorem indexAt_slc_sound {t e s : Nat} {i i' : Value} (ht : P.underlying t = some (.slice e)) (hs : sizeO P e = some s) (h : ixSlc s x i = some v) (hx : VRel ρ x x') (hi : VRel ρ i i') :
    ∃ v', VRel ρ v v' ∧ Gives P (Instr.indexAt t x' i') v' := by
  unfold ixSlc at h
  split at h
  · rename_i a n c k j
    obtain rfl := hi.flat rfl
    cases hx with
    | slc a a' n c c' r =>
      split at h
      · rename_i hb
        simp only [Option.some.injEq] at h; subst h
        rcases r with ⟨r, _⟩ | ⟨r, _⟩ | ⟨r, _⟩
        · refine ⟨_, .ptr _ _ (r.add _), fun w => ?_⟩
          simp [Instr.indexAt, asIntOf, underlying, ht, hb, run_sizeOf' hs]
        · omega
        · omega
      · simp at h
  · simp at h

theorem part1_sound {t off n : Nat} (ht : aggO P t = some false) (_hn : sizeO P t = some n) (h : part1 x off = some v) (hx : VRel ρ x x') :
    ∃ cs v', x' = .agg cs ∧ VRel ρ v v' ∧ Gives P (part t cs off) v' := by
  unfold part1 at h
  split at h
  · rename_i cs
    obtain ⟨ds, rfl, r⟩ := hx.agg_inv
    have h' : cs.toList[off]? = some v := by simpa using h
    obtain ⟨y, hy, hr⟩ := r.get h'
    have hy' : ds[off]? = some y := by simpa using hy
    exact ⟨ds, y, rfl, hr, fun w => by simp [part, run_isAgg' ht, hy']⟩
  · simp at h
theorem partN_sound {t off n : Nat} (ht : aggO P t = some true) (hn : sizeO P t = some n) (h : partN x off n = some v) (hx : VRel ρ x x') :
    ∃ cs v', x' = .agg cs ∧ VRel ρ v v' ∧ Gives P (part t cs off) v' := by
  unfold partN at h
  split at h
  · rename_i cs
    obtain ⟨ds, rfl, r⟩ := hx.agg_inv
    simp only [Option.some.injEq] at h; subst h
    refine ⟨ds, .agg (ds.extract off (off + n)), rfl, ?_, fun w => by simp [part, run_isAgg' ht, run_sizeOf' hn]⟩
    have : LRel ρ (cs.extract off (off + n)).toList (ds.extract off (off + n)).toList := by
      simp only [Array.toList_extract]
      exact (r.drop off).take _
    exact this.agg
  · simp at h

theorem ixAgg1_sound {t n e s : Nat} {i i' : Value} (ht : P.underlying t = some (.array n e)) (ha : aggO P e = some false) (hs : sizeO P e = some s) (h : ixAgg1 n s x i = some v) (hx : VRel ρ x x') (hi : VRel ρ i i') :
    ∃ v', VRel ρ v v' ∧ Gives P (Instr.index t x' i') v' := by
  unfold ixAgg1 at h
  split at h
  · rename_i k j
    obtain rfl := hi.flat rfl
    split at h
    · rename_i hb
      obtain ⟨cs, v', rfl, hr, hg⟩ := part1_sound ha hs h hx
      exact ⟨v', hr, fun w => by simp [Instr.index, asIntOf, underlying, ht, hb, run_sizeOf' hs, hg w]⟩
    · simp at h
  · simp at h
theorem ixAggN_sound {t n e s : Nat} {i i' : Value} (ht : P.underlying t = some (.array n e)) (ha : aggO P e = some true) (hs : sizeO P e = some s) (h : ixAggN n s x i = some v) (hx : VRel ρ x x') (hi : VRel ρ i i') :
    ∃ v', VRel ρ v v' ∧ Gives P (Instr.index t x' i') v' := by
  unfold ixAggN at h
  split at h
  · rename_i k j
    obtain rfl := hi.flat rfl
    split at h
    · rename_i hb
      obtain ⟨cs, v', rfl, hr, hg⟩ := partN_sound ha hs h hx
      exact ⟨v', hr, fun w => by simp [Instr.index, asIntOf, underlying, ht, hb, run_sizeOf' hs, hg w]⟩
    · simp at h
  · simp at h
theorem ixStr_sound {t : Nat} {i i' : Value} (ht : P.underlying t = some .string) (h : ixStr x i = some v) (hx : VRel ρ x x') (hi : VRel ρ i i') :
    VRel ρ v v ∧ Gives P (Instr.index t x' i') v := by
  unfold ixStr at h
  split at h
  · rename_i s k j
    obtain rfl := hi.flat rfl
    obtain rfl := hx.flat rfl
    split at h
    · rename_i hb
      simp only [Option.map_eq_some_iff] at h
      obtain ⟨b, hb', rfl⟩ := h
      refine ⟨.int _ _, fun w => ?_⟩
      simp [Instr.index, asIntOf, underlying, ht, hb, hb']
    · simp at h
  · simp at h
theorem ext_sound {i : Nat} (h : ext x i = some v) (hx : VRel ρ x x') : ∃ v', VRel ρ v v' ∧ Gives P (Instr.extract x' i) v' := by
  unfold ext at h
  split at h
  · simp at h
  rename_i hns
  split at h
  · rename_i vs
    cases hx with
    | any v => simp at h
    | skip => simp [isSkip] at hns
    | tuple l l' hl hr =>
      obtain ⟨y, hy, r⟩ := LRel.get (l := l) (l' := l') ⟨hl, hr⟩ (by simpa using h)
      refine ⟨y, r, fun w => ?_⟩
      have : (⟨l'⟩ : Array Value)[i]? = some y := by simpa using hy
      simp [Instr.extract, this]
  · simp at h

theorem bnd_sound {o o' : Option Value} {d hi n : Nat} {c : BoundsCode} (h : bnd o d hi = some n) (hr : ∀ x, o = some x → ∃ x', o' = some x' ∧ VRel ρ x x') (hn : o = none → o' = none) :
    (o' = none ∧ n = d) ∨ ∃ x', o' = some x' ∧ n ≤ hi ∧ ∀ H w, hi ≤ H → (Instr.sliceBound x' H c).run P w = .ok n w := by
  unfold bnd at h
  split at h
  · simp only [Option.some.injEq] at h; exact .inl ⟨hn rfl, h.symm⟩
  · rename_i k i
    split at h
    · rename_i hb
      simp only [Option.some.injEq] at h; subst h
      obtain ⟨x', hx', r⟩ := hr _ rfl
      obtain rfl := r.flat rfl
      refine .inr ⟨_, hx', by omega, fun H w hH => ?_⟩
      have : 0 ≤ i ∧ i ≤ (H : Int) := ⟨hb.1, by omega⟩
      simp [Instr.sliceBound, asIntOf, this]
    · simp at h
  · simp at h

theorem slStr_sound {t : Nat} {lo hi lo' hi' : Option Value} (ht : P.underlying t = some .string) (h : slStr x lo hi = some v) (hx : VRel ρ x x')
    (hl : (∀ z, lo = some z → ∃ z', lo' = some z' ∧ VRel ρ z z') ∧ (lo = none → lo' = none)) (hh : (∀ z, hi = some z → ∃ z', hi' = some z' ∧ VRel ρ z z') ∧ (hi = none → hi' = none)) :
    VRel ρ v v ∧ Gives P (Instr.sliceAt t x' lo' hi' none) v := by
  unfold slStr at h
  split at h
  · rename_i s
    obtain rfl := hx.flat rfl
    simp only [Option.bind_eq_some_iff, Option.some.injEq] at h
    obtain ⟨hn, h1, ln, h2, rfl⟩ := h
    refine ⟨.string _, fun w => ?_⟩
    have e1 := bnd_sound (P := P) (c := .sliceAlen) h1 hh.1 hh.2
    have e2 := bnd_sound (P := P) (c := .sliceB) h2 hl.1 hl.2
    rcases e1 with ⟨rfl, rfl⟩ | ⟨z, rfl, hz, e1⟩ <;> rcases e2 with ⟨rfl, rfl⟩ | ⟨z', rfl, hz', e2⟩
    · simp [Instr.sliceAt, Instr.slice, Instr.sliceBounds, underlying, ht]
    · simp [Instr.sliceAt, Instr.slice, Instr.sliceBounds, underlying, ht, e2 _ _ (Nat.le_refl _)]
    · simp [Instr.sliceAt, Instr.slice, Instr.sliceBounds, underlying, ht, e1 _ _ (Nat.le_refl _)]
    · simp [Instr.sliceAt, Instr.slice, Instr.sliceBounds, underlying, ht, e1 _ _ (Nat.le_refl _), e2 _ _ (Nat.le_refl _)]
  · simp at h
end prims
end Go.AM
namespace Go.AM
section prims
variable {P : Program} {ρ : Inj} {x x' y y' z z' v : Value}

def ORelV (ρ : Inj) (o o' : Option Value) : Prop := (∀ z, o = some z → ∃ z', o' = some z' ∧ VRel ρ z z') ∧ (o = none → o' = none)

/-- The bounds of a cut, where the machine's capacity is no less than what is known of it. -/
theorem bounds_sound {b : Bool} {n c c' m h l : Nat} {lo hi mx lo' hi' mx' : Option Value} (hc : c ≤ c') (h0 : (mx.isSome && hi.isNone) = false)
    (hm : bnd mx c c = some m) (hh : bnd hi n m = some h) (hl : bnd lo 0 h = some l) (rm : ORelV ρ mx mx') (rh : ORelV ρ hi hi') (rl : ORelV ρ lo lo') :
    ∃ m', (∀ w, (Instr.sliceBounds b n c' lo' hi' mx').run P w = .ok (l, h, m') w) ∧ ((mx = none ∧ m = c ∧ m' = c') ∨ (m' = m ∧ m ≤ c)) ∧ l ≤ h ∧ (h ≤ m ∨ h = n) := by
  have e3 := bnd_sound (P := P) (c := if mx'.isSome then .slice3C else .sliceB) hl rl.1 rl.2
  have hlh : l ≤ h := by
    rcases e3 with ⟨_, rfl⟩ | ⟨_, _, g, _⟩
    · exact Nat.zero_le _
    · exact g
  cases mx with
  | none =>
    have hmx' := rm.2 rfl
    subst hmx'
    have hmc : m = c := by simp [bnd] at hm; exact hm.symm
    subst hmc
    have e2 := bnd_sound (P := P) (c := if b then .sliceAcap else .sliceAlen) hh rh.1 rh.2
    refine ⟨c', fun w => ?_, .inl ⟨rfl, rfl, rfl⟩, hlh, ?_⟩
    · rcases e2 with ⟨rfl, rfl⟩ | ⟨z, rfl, hz, e2⟩ <;> rcases e3 with ⟨rfl, rfl⟩ | ⟨z', rfl, hz', e3⟩
      · simp [Instr.sliceBounds]
      · have g := e3 h w (Nat.le_refl _); simp at g
        simp [Instr.sliceBounds, g]
      · have g := e2 c' w hc
        simp [Instr.sliceBounds, g]
      · have g := e2 c' w hc
        have g' := e3 h w (Nat.le_refl _); simp at g'
        simp [Instr.sliceBounds, g, g']
    · rcases e2 with ⟨_, rfl⟩ | ⟨_, _, hz, _⟩
      · exact .inr rfl
      · exact .inl hz
  | some q =>
    obtain ⟨q', rfl, rq⟩ := rm.1 q rfl
    cases hi with
    | none => simp at h0
    | some u =>
      obtain ⟨u', rfl, ru⟩ := rh.1 u rfl
      have e1 := bnd_sound (P := P) (o := some q) (o' := some q') (c := if b then .slice3Acap else .slice3Alen) hm (fun x hx => by simp at hx; subst hx; exact ⟨q', rfl, rq⟩) (by simp)
      have e2 := bnd_sound (P := P) (o := some u) (o' := some u') (c := .slice3B) hh (fun x hx => by simp at hx; subst hx; exact ⟨u', rfl, ru⟩) (by simp)
      rcases e1 with ⟨g, _⟩ | ⟨z, hz, hzm, e1⟩
      · simp at g
      · rcases e2 with ⟨g, _⟩ | ⟨z2, hz2, hzm2, e2⟩
        · simp at g
        · simp only [Option.some.injEq] at hz hz2; subst hz; subst hz2
          refine ⟨m, fun w => ?_, .inr ⟨rfl, hzm⟩, hlh, .inl hzm2⟩
          have g1 := e1 c' w hc
          have g2 := e2 m w (Nat.le_refl _)
          rcases e3 with ⟨rfl, rfl⟩ | ⟨z', rfl, hz', e3⟩
          · simp [Instr.sliceBounds, g1, g2]
          · have g3 := e3 h w (Nat.le_refl _); simp at g3
            simp [Instr.sliceBounds, g1, g2, g3]

theorem add_off (a : Addr) (n : Nat) : (a.add n).off = a.off + n := by
  unfold Addr.add; split
  · simp [*]
  · rfl
theorem add_block (a : Addr) (n : Nat) : (a.add n).block = a.block := by unfold Addr.add; split <;> rfl
theorem add_spot {a : Addr} (h : a.spot = none) (n : Nat) : (a.add n).spot = none := by
  unfold Addr.add; split
  · exact h
  · rfl
theorem add_zero (a : Addr) : a.add 0 = a := by simp [Addr.add]
theorem flex_of_fits {w0 w : World} {H : AH} (hR : R P ρ w0 H w) {b s e : Nat} {q : Loc} (hq : ρ.loc b = some q) (hfx : q.flex = some e) (hf : fits s (H.get b) = true) : e = s := by
  obtain ⟨_, _, _, _, ho⟩ := hR.own _ _ hq
  unfold fits at hf
  split at hf
  · rename_i cs e2 hget
    rw [hget] at ho
    have h1 := ho.1
    rw [hfx] at h1
    simp only [Option.some.injEq] at h1
    have h3 : e2 = s := by simpa using hf
    omega
  · rename_i cs hget
    rw [hget] at ho
    have h1 := ho.1
    rw [hfx] at h1; simp at h1
  · rename_i f hget
    rw [hget] at ho; exact ho.elim
  · simp at hf

theorem slArr_sound {t n e s : Nat} {lo hi mx lo' hi' mx' : Option Value} (ht : P.underlying t = some (.array n e)) (hs : sizeO P e = some s) (h : slArr n s x lo hi mx = some v) (hx : VRel ρ x x')
    (rm : ORelV ρ mx mx') (rh : ORelV ρ hi hi') (rl : ORelV ρ lo lo') : ∃ v', VRel ρ v v' ∧ Gives P (Instr.sliceAt t x' lo' hi' mx') v' := by
  unfold slArr at h
  split at h
  · rename_i a
    cases hx with
    | ptr a a' r =>
      split at h
      · simp at h
      · rename_i h0
        simp only [Option.bind_eq_some_iff, Option.some.injEq] at h
        obtain ⟨m, hm, hh, h1, l, h2, rfl⟩ := h
        obtain ⟨m', hb, hmm, _, _⟩ := bounds_sound (P := P) (b := false) (Nat.le_refl n) (by cases hi <;> cases mx <;> simp_all) hm h1 h2 rm rh rl
        have : m' = m := by rcases hmm with ⟨_, rfl, rfl⟩ | ⟨rfl, _⟩ <;> rfl
        subst this
        refine ⟨.slice (some (if m' = l then a' else a'.add (l * s))) (hh - l) (m' - l), .slc _ _ _ _ _ (.inl ⟨?_, .inl rfl⟩), fun w => ?_⟩
        · split
          · exact r
          · exact r.add _
        · simp [Instr.sliceAt, underlying, ht, Instr.sureAddr, hb w, run_sizeOf' hs]
  · simp at h

theorem slSlc_sound {t e s : Nat} {lo hi mx lo' hi' mx' : Option Value} {H : AH} {w0 w : World} (ht : P.underlying t = some (.slice e)) (hs : sizeO P e = some s) (h : slSlc s x lo hi mx H = some v) (hx : VRel ρ x x')
    (rm : ORelV ρ mx mx') (rh : ORelV ρ hi hi') (rl : ORelV ρ lo lo') (hR : R P ρ w0 H w) : ∃ v', VRel ρ v v' ∧ (Instr.sliceAt t x' lo' hi' mx').run P w = .ok v' w := by
  unfold slSlc at h
  split at h
  · rename_i n c
    cases hx with
    | snil n c =>
      split at h
      · simp at h
      · rename_i h0
        simp only [Option.bind_eq_some_iff, Option.some.injEq] at h
        obtain ⟨m, hm, hh, h1, l, h2, rfl⟩ := h
        obtain ⟨m', hb, hmm, _, _⟩ := bounds_sound (P := P) (b := true) (Nat.le_refl c) (by cases hi <;> cases mx <;> simp_all) hm h1 h2 rm rh rl
        have : m' = m := by rcases hmm with ⟨_, rfl, rfl⟩ | ⟨rfl, _⟩ <;> rfl
        subst this
        refine ⟨_, .snil _ _, ?_⟩
        simp [Instr.sliceAt, Instr.slice, underlying, ht, hb w, run_sizeOf' hs]
  · rename_i a n c
    cases hx with
    | slc a a' n c c' r =>
      split at h
      · simp at h
      · rename_i h0
        simp only [Bool.or_eq_true, Bool.not_eq_true', not_or, Bool.not_eq_true, Bool.not_eq_false] at h0
        simp only [Option.bind_eq_some_iff] at h
        obtain ⟨m, hm, hh, h1, l, h2, h3⟩ := h
        rw [Option.ite_none_right_eq_some] at h3
        obtain ⟨hhm, h3⟩ := h3
        simp only [Option.some.injEq] at h3; subst h3
        have hcc : c ≤ c' := by
          rcases r with ⟨_, rfl | ⟨_, _, _, _, _, g, _⟩⟩ | ⟨_, rfl, _⟩ | ⟨_, rfl, _⟩
          · exact Nat.le_refl _
          · exact g
          · exact Nat.zero_le _
          · exact Nat.zero_le _
        obtain ⟨m', hb, hmm, hlh, _⟩ := bounds_sound (P := P) (b := true) hcc (by
          cases hi <;> cases mx <;> simp_all) hm h1 h2 rm rh rl
        refine ⟨.slice (some (if m' = l then a' else a'.add (l * s))) (hh - l) (m' - l), .slc _ _ _ _ _ ?_, ?_⟩
        · by_cases hcz : c = 0
          · subst hcz
            have hm0 : m = 0 := by rcases hmm with ⟨_, g, _⟩ | ⟨_, g⟩ <;> omega
            have hl0 : l = 0 := by omega
            have hh0 : hh = 0 := by omega
            subst hm0; subst hl0; subst hh0
            have e1 : (if m' = 0 then a' else a'.add (0 * s)) = a' := by rw [Nat.zero_mul, add_zero]; split <;> rfl
            have e2 : (if (0 : Nat) = 0 then a else a.add (0 * s)) = a := by simp
            rw [e1, e2]
            simp only [Nat.sub_zero]
            rcases hmm with ⟨_, _, rfl⟩ | ⟨rfl, _⟩
            · rcases r with r | ⟨_, _, r⟩ | ⟨_, _, r⟩
              · exact .inl r
              · exact .inr (.inl ⟨rfl, rfl, r⟩)
              · exact .inr (.inr ⟨rfl, rfl, r⟩)
            · rcases r with ⟨ra, _⟩ | ⟨_, _, hba, hsp, q, e', hq, hfx, hbl, hsp', hoff⟩ | ⟨_, _, _, r⟩
              · exact .inl ⟨ra, .inl rfl⟩
              · exact .inr (.inl ⟨rfl, rfl, hba, hsp, q, e', hq, hfx, hbl, hsp', by omega⟩)
              · exact .inr (.inr ⟨rfl, rfl, rfl, r⟩)
          have hfit : fits s (H.get a.block) = true := by simpa [hcz] using h0.2
          rcases r with ⟨ra, rc⟩ | ⟨hn0, hc0, hba, hsp, q, e', hq, hfx, hbl, hsp', hoff⟩ | ⟨_, hc0, _⟩
          · rcases hmm with ⟨hmx, rfl, rfl⟩ | ⟨rfl, hmc⟩
            · rcases rc with rfl | ⟨q, e', hba, hq, hfx, hcc', hoff⟩
              · refine .inl ⟨?_, .inl rfl⟩
                split
                · exact ra
                · exact ra.add _
              · obtain rfl := flex_of_fits hR hq hfx hfit
                have ha' : a' = ⟨q.block, q.shift + a.off, none⟩ ∧ a.spot = none := by
                  rcases ra with ⟨g, _⟩ | ⟨_, g, q2, hq2, rfl⟩
                  · omega
                  · rw [hq] at hq2; simp only [Option.some.injEq] at hq2; subst hq2; exact ⟨rfl, g⟩
                have hmul : (m' - l) * e' + l * e' ≤ m' * e' := by
                  rw [← Nat.add_mul]; exact Nat.mul_le_mul_right _ (by omega)
                by_cases hml : m = l
                · by_cases hml' : m' = l
                  · refine .inl ⟨?_, .inl (by omega)⟩
                    simp only [hml, hml', if_true]; exact ra
                  · refine .inr (.inl ⟨by omega, by omega, by simp only [hml, if_true]; exact hba, by simp only [hml, if_true]; exact ha'.2, q, e', by simp only [hml, if_true]; exact hq, hfx, ?_, ?_, ?_⟩)
                    · simp only [hml', if_false, add_block, ha'.1]
                    · simp only [hml', if_false]; exact add_spot (by rw [ha'.1]) _
                    · simp only [hml', if_false, add_off]; omega
                · have hml' : ¬ m' = l := by omega
                  simp only [hml, hml', if_false]
                  refine .inl ⟨ra.add _, .inr ⟨q, e', by rw [add_block]; exact hba, by rw [add_block]; exact hq, hfx, by omega, ?_⟩⟩
                  rw [add_off]; omega
            · refine .inl ⟨?_, .inl rfl⟩
              split
              · exact ra
              · exact ra.add _
          · exact absurd hc0 hcz
          · exact absurd hc0 hcz
        · simp [Instr.sliceAt, Instr.slice, underlying, ht, hb w, run_sizeOf' hs, apply_ite]
  · simp at h

theorem arrPtr_sound {t n e : Nat} (ht : P.underlying t = some (.array n e)) (h : arrPtr n x = some v) (hx : VRel ρ x x') : ∃ v', VRel ρ v v' ∧ Gives P (Instr.arrayAt t x') v' := by
  unfold arrPtr at h
  split at h
  · rename_i a len c
    rw [Option.ite_none_right_eq_some] at h
    obtain ⟨⟨hn, hl⟩, h⟩ := h
    simp only [Option.some.injEq] at h; subst h
    cases hx with
    | slc a a' n c c' r =>
      rcases r with ⟨ra, _⟩ | ⟨g, _⟩ | ⟨g, _⟩
      · refine ⟨_, .ptr _ _ ra, fun w => ?_⟩
        have : ¬ len < n := by omega
        simp [Instr.arrayAt, underlying, ht, this]
      · omega
      · omega
  · simp at h

theorem lenStr_sound {ats : Array TypeId} {args : Array Value} {t ty : TypeId} (h1 : ats[0]? = some t) (h2 : args[0]? = some x') (ht : P.underlying t = some .string) (h : lenStr x = some v) (hx : VRel ρ x x') :
    VRel ρ v v ∧ Gives P (Builtin.len_ ats ty args) v := by
  unfold lenStr at h
  split at h
  · obtain rfl := hx.flat rfl
    simp only [Option.some.injEq] at h; subst h
    exact ⟨.int _ _, fun w => by simp [Builtin.len_, h1, h2, underlying, ht, goInt]⟩
  · simp at h
theorem lenSlc_sound {ats : Array TypeId} {args : Array Value} {t ty e : TypeId} (h1 : ats[0]? = some t) (h2 : args[0]? = some x') (ht : P.underlying t = some (.slice e)) (h : lenSlc x = some v) (hx : VRel ρ x x') :
    VRel ρ v v ∧ Gives P (Builtin.len_ ats ty args) v := by
  unfold lenSlc at h
  split at h
  · simp only [Option.some.injEq] at h; subst h
    refine ⟨.int _ _, fun w => ?_⟩
    cases hx <;> simp [Builtin.len_, h1, h2, underlying, ht, goInt]
  · simp at h

theorem min2_sound (h : min2 x y = some v) (hx : VRel ρ x x') (hy : VRel ρ y y') : VRel ρ v v ∧ Gives P (Builtin.min2 x' y') v := by
  unfold min2 at h
  split at h
  · obtain rfl := hx.flat rfl
    obtain rfl := hy.flat rfl
    rw [Option.ite_none_right_eq_some] at h
    obtain ⟨rfl, h⟩ := h
    simp only [Option.some.injEq] at h; subst h
    exact ⟨.int _ _, fun w => by simp [Builtin.min2]⟩
  · simp at h
theorem max2_sound (h : max2 x y = some v) (hx : VRel ρ x x') (hy : VRel ρ y y') : VRel ρ v v ∧ Gives P (Builtin.max2 x' y') v := by
  unfold max2 at h
  split at h
  · obtain rfl := hx.flat rfl
    obtain rfl := hy.flat rfl
    rw [Option.ite_none_right_eq_some] at h
    obtain ⟨rfl, h⟩ := h
    simp only [Option.some.injEq] at h; subst h
    exact ⟨.int _ _, fun w => by simp [Builtin.max2]⟩
  · simp at h
theorem fold_sound {f : Value → Value → Option Value} {g : Value → Value → Sem Value} (hfg : ∀ x y x' y' v, f x y = some v → VRel ρ x x' → VRel ρ y y' → VRel ρ v v ∧ Gives P (g x' y') v) :
    ∀ (l l' : List Value) (x x' v : Value), foldGo f x l = some v → VRel ρ x x' → LRel ρ l l' → ∃ v', VRel ρ v v' ∧ Gives P (l'.foldlM g x') v'
  | [], l', x, x', v, h, hx, hl => by
    obtain rfl := hl.cases_nil
    simp only [foldGo, Option.some.injEq] at h; subst h
    exact ⟨x', hx, fun w => rfl⟩
  | y :: l, l', x, x', v, h, hx, hl => by
    obtain ⟨y', k, rfl, hy, hk⟩ := hl.cases_cons
    simp only [foldGo, Option.bind_eq_some_iff] at h
    obtain ⟨z, h1, h2⟩ := h
    obtain ⟨hz, hg⟩ := hfg _ _ _ _ _ h1 hx hy
    obtain ⟨v', hv, hv'⟩ := fold_sound hfg l k z z v h2 hz hk
    refine ⟨v', hv, fun w => ?_⟩
    rw [List.foldlM_cons, Sem.run_bind, hg w]
    exact hv' w

theorem fill_sound (place : Nat → Option (Nat × Nat)) : ∀ (ps ps' : List (Nat × Value)) (cs cs' ds : Array Value), Instr.fill place cs ps = some ds → ps.length = ps'.length →
    (∀ (i : Nat) (p p' : Nat × Value), ps[i]? = some p → ps'[i]? = some p' → p'.1 = p.1 ∧ VRel ρ p.2 p'.2 ∧ p.2 ≠ undef) → LRel ρ cs.toList cs'.toList → ∃ ds', Instr.fill place cs' ps' = some ds' ∧ LRel ρ ds.toList ds'.toList
  | [], ps', cs, cs', ds, h, hl, _, hc => by
    have : ps' = [] := by cases ps' <;> simp_all
    subst this
    simp only [Instr.fill, Option.some.injEq] at h; subst h
    exact ⟨cs', rfl, hc⟩
  | (i, u) :: ps, ps', cs, cs', ds, h, hl, hr, hc => by
    cases ps' with
    | nil => simp at hl
    | cons p' ps' =>
      obtain ⟨j, u'⟩ := p'
      obtain ⟨hj, hu, hne⟩ := hr 0 (i, u) (j, u') rfl rfl
      simp only at hj hu hne
      subst hj
      simp only [Instr.fill] at h ⊢
      cases hp : place j with
      | none => simp [hp] at h
      | some q =>
        obtain ⟨off, size⟩ := q
        simp only [hp] at h ⊢
        have hcl := hu.cells hne
        have hsz : u'.cells.size = u.cells.size := by have := hcl.1; simpa using this.symm
        have hsc : cs'.size = cs.size := by have := hc.1; simpa using this.symm
        rw [hsz, hsc]
        split at h
        · simp at h
        · rename_i hcond
          rw [if_neg hcond]
          refine fill_sound place ps ps' _ _ ds h (by simpa using hl) (fun k p p' hk hk' => hr (k + 1) p p' (by simpa using hk) (by simpa using hk')) ?_
          -- the cells of one part laid into the row
          have gen : ∀ (zs zs' : List (Value × Nat)) (cs cs' : Array Value), LRel ρ cs.toList cs'.toList → zs.length = zs'.length → (∀ (i : Nat) (p p' : Value × Nat), zs[i]? = some p → zs'[i]? = some p' → p'.2 = p.2 ∧ VRel ρ p.1 p'.1) →
              LRel ρ (zs.foldl (fun cs (c, j) => cs.setIfInBounds (off + j) c) cs).toList (zs'.foldl (fun cs (c, j) => cs.setIfInBounds (off + j) c) cs').toList := by
            intro zs
            induction zs with
            | nil => intro zs' cs cs' hc hl _; cases zs' <;> simp_all
            | cons p zs ih =>
              intro zs' cs cs' hc hl hr
              cases zs' with
              | nil => simp at hl
              | cons p' zs' =>
                obtain ⟨e, r⟩ := hr 0 p p' rfl rfl
                simp only [List.foldl_cons]
                refine ih zs' _ _ ?_ (by simpa using hl) (fun k q q' hk hk' => hr (k + 1) q q' (by simpa using hk) (by simpa using hk'))
                rw [e]
                simp only [Array.toList_setIfInBounds]
                exact hc.set _ r
          have e : ∀ (a : Array Value) (b : Array Value), (a.zipIdx.foldl (fun cs (c, j) => cs.setIfInBounds (off + j) c) b) = (a.toList.zipIdx.foldl (fun cs (c, j) => cs.setIfInBounds (off + j) c) b) := by
            intro a b; rw [← Array.foldl_toList, Array.toList_zipIdx]
          rw [e, e]
          refine gen _ _ _ _ hc (by simp [hcl.1]) (fun k p p' hk hk' => ?_)
          rw [List.getElem?_zipIdx] at hk hk'
          simp only [Option.map_eq_some_iff] at hk hk'
          obtain ⟨c, hc1, rfl⟩ := hk
          obtain ⟨c', hc1', rfl⟩ := hk'
          exact ⟨rfl, hcl.2 k c c' hc1 hc1'⟩
end prims
end Go.AM
