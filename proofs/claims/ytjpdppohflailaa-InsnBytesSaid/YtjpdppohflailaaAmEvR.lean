/- THE ABSTRACT MACHINE: operations that look into memory. -/
import Derived.Test.YtjpdppohflailaaAmEvP2
import Derived.MapKept
import Derived.Laws.BytesString
set_option linter.all false
namespace Go.AM
open Go.RowKit (Below)
section
variable {P : Program} {ρ : Inj} {T : Env} {a : Act} {v : Value} {w0 w : World} {H : AH}

theorem cell_row {C : Array Value} {e : TypeId} {fr : Nat × Nat} {b : Nat} (h : w.heap[b]? = some (.cells C e fr)) (i : Nat) : w.cell? ⟨b, i, none⟩ = C[i]? := by
  simp [World.cell?, h]

/-- A cell that the abstract heap holds is there. -/
theorem R.cell (hR : R P ρ w0 H w) {A A' : Addr} (r : ARel ρ A A') {i : Nat} {x : Value} (hs : A.spot = none) (h : (H.get A.block).cell (A.off + i) = some x) : ∃ y, w.cell? (A'.add i) = some y ∧ VRel ρ x y := by
  have ha : ∀ B : Addr, B.spot = none → B.add i = ⟨B.block, B.off + i, none⟩ := by
    intro B hB
    obtain ⟨b, o, s⟩ := B
    simp only at hB; subst hB
    unfold Addr.add; split
    · simp [*]
    · rfl
  rcases r with ⟨hb, rfl⟩ | ⟨hb, _, l, hl, rfl⟩
  · have ho := hR.ro _ hb
    cases hg : H.get A'.block with
    | ro f =>
      rw [hg] at ho h
      obtain ⟨h1, h2⟩ := ho _ _ h
      refine ⟨x, ?_, ?_⟩
      · rw [ha A' hs, hR.below.cell (p := ⟨A'.block, A'.off + i, none⟩) hb]; exact h1
      · rw [hR.size] at h2; exact h2.rel
    | cells c fx => rw [hg] at ho; exact ho.elim
    | _ => rw [hg] at h; simp [AObj.cell] at h
  · obtain ⟨_, _, _, _, ho⟩ := hR.own _ _ hl
    cases hg : H.get A.block with
    | cells c fx =>
      rw [hg] at ho h
      obtain ⟨_, C, e, fr, h1, h2, h3, _, h5⟩ := ho
      obtain ⟨y, hy, hr⟩ := h5 _ _ h
      refine ⟨y, ?_, hr⟩
      rw [ha _ rfl, cell_row h1, ← hy]
      congr 1; simp only; omega
    | ro f => rw [hg] at ho; exact ho.elim
    | _ => rw [hg] at h; simp [AObj.cell] at h

theorem rowF_cell {f : Nat → Option Value} : ∀ (n i : Nat) (l : List Value), rowF f i n = some l → l.length = n ∧ ∀ j x, l[j]? = some x → f (i + j) = some x
  | 0, i, l, h => by simp only [rowF, Option.some.injEq] at h; subst h; exact ⟨rfl, fun j x hx => by simp at hx⟩
  | n + 1, i, l, h => by
    simp only [rowF, Option.bind_eq_some_iff, Option.map_eq_some_iff] at h
    obtain ⟨y, hy, l', hl', rfl⟩ := h
    obtain ⟨h1, h2⟩ := rowF_cell n (i + 1) l' hl'
    refine ⟨by simp [h1], fun j x hx => ?_⟩
    cases j with
    | zero => simp at hx; subst hx; exact hy
    | succ j => simp at hx; have := h2 j x hx; rw [← this]; congr 1; omega
theorem row_cell {o : AObj} {i n : Nat} {l : List Value} (h : o.row i n = some l) : l.length = n ∧ ∀ j x, l[j]? = some x → o.cell (i + j) = some x := by
  unfold AObj.row at h
  split at h
  · rename_i c fx
    rw [Option.ite_none_right_eq_some] at h
    obtain ⟨hle, h⟩ := h
    simp only [Option.some.injEq] at h; subst h
    refine ⟨by simp; omega, fun j x hx => ?_⟩
    rw [List.getElem?_take] at hx
    split at hx
    · rw [List.getElem?_drop] at hx; exact hx
    · simp at hx
  · exact rowF_cell n i l h
  · simp at h

theorem R.row (hR : R P ρ w0 H w) {A A' : Addr} (r : ARel ρ A A') {n : Nat} {l : List Value} (hs : A.spot = none) (h : (H.get A.block).row A.off n = some l) :
    ∃ l', LRel ρ l l' ∧ l'.length = n ∧ ∀ j x, l'[j]? = some x → w.cell? (A'.add j) = some x := by
  obtain ⟨hlen, hc⟩ := row_cell h
  have key : ∀ (l : List Value) (k : Nat), (∀ j x, l[j]? = some x → ∃ y, w.cell? (A'.add (k + j)) = some y ∧ VRel ρ x y) → ∃ l', LRel ρ l l' ∧ ∀ j x, l'[j]? = some x → w.cell? (A'.add (k + j)) = some x := by
    intro l
    induction l with
    | nil => intro k _; exact ⟨[], LRel.nil, fun j x hx => by simp at hx⟩
    | cons x l ih =>
      intro k hk
      obtain ⟨y, hy, hr⟩ := hk 0 x rfl
      obtain ⟨l', h1, h2⟩ := ih (k + 1) (fun j z hz => by have := hk (j + 1) z (by simpa using hz); rw [show k + 1 + j = k + (j + 1) from by omega]; exact this)
      refine ⟨y :: l', LRel.cons hr h1, fun j z hz => ?_⟩
      cases j with
      | zero => simp at hz; subst hz; exact hy
      | succ j => simp at hz; have := h2 j z hz; rw [show k + (j + 1) = k + 1 + j from by omega]; exact this
  obtain ⟨l', h1, h2⟩ := key l 0 (fun j x hx => by rw [Nat.zero_add]; exact hR.cell r hs (hc j x hx))
  exact ⟨l', h1, h1.1 ▸ hlen, fun j x hx => by have := h2 j x hx; rwa [Nat.zero_add] at this⟩

theorem ARel.spot {A A' : Addr} (r : ARel ρ A A') (hs : A.spot = none) : A'.spot = none := by
  rcases r with ⟨_, rfl⟩ | ⟨_, _, l, _, rfl⟩
  · exact hs
  · rfl

theorem load1_sound (hR : R P ρ w0 H w) {t : Nat} {p p' : Value} (ht : aggO P t = some false) (h : load1 p H = some v) (hp : VRel ρ p p') : ∃ v', VRel ρ v v' ∧ (Instr.loadAt t p').run P w = .ok v' w := by
  unfold load1 at h
  split at h
  · rename_i A
    split at h
    · simp at h
    · rename_i hs
      have hs : A.spot = none := by simpa using hs
      cases hp with
      | ptr _ A' r =>
        obtain ⟨y, hy, hr⟩ := hR.cell r (i := 0) hs (by simpa using h)
        rw [add_zero] at hy
        refine ⟨y, hr, ?_⟩
        simp [Instr.loadAt, Instr.sureAddr, loadVar, run_isAgg' ht, hy]
  · simp at h
theorem loadN_sound (hR : R P ρ w0 H w) {t n : Nat} {p p' : Value} (ht : aggO P t = some true) (hn : sizeO P t = some n) (h : loadN n p H = some v) (hp : VRel ρ p p') : ∃ v', VRel ρ v v' ∧ (Instr.loadAt t p').run P w = .ok v' w := by
  unfold loadN at h
  split at h
  · rename_i A
    split at h
    · simp at h
    · rename_i hs
      have hs : A.spot = none := by simpa using hs
      simp only [Option.map_eq_some_iff] at h
      obtain ⟨l, hl, rfl⟩ := h
      cases hp with
      | ptr _ A' r =>
        obtain ⟨l', h1, h2, h3⟩ := hR.row r hs hl
        refine ⟨.agg l'.toArray, h1.agg, ?_⟩
        have := run_loadCells_list (P := P) (w := w) A' l' h3
        rw [h2] at this
        simp [Instr.loadAt, Instr.sureAddr, loadVar, run_isAgg' ht, run_sizeOf' hn, this]
  · simp at h

theorem strOf_sound (hR : R P ρ w0 H w) {s d e : Nat} {x x' : Value} (hs : P.underlying s = some (.slice e)) (he : P.underlying e = some (.int .u8)) (hd : P.underlying d = some .string) (h : strOf x H = some v) (hx : VRel ρ x x') :
    VRel ρ v v ∧ (convert s d x').run P w = .ok v w := by
  unfold strOf at h
  split at h
  · simp only [Option.some.injEq] at h; subst h
    cases hx with
    | snil => exact ⟨.string _, by rw [run_convert_bytes_string w s d e none _ _ hs he hd]; simp [Conv.bytesToString]⟩
  · rename_i A n c
    split at h
    · rename_i hn0
      subst hn0
      simp only [Option.some.injEq] at h; subst h
      refine ⟨.string _, ?_⟩
      cases hx with
      | slc _ A' _ _ c' r =>
        rw [run_convert_bytes_string w s d e (some A') 0 c' hs he hd]
        rw [run_bytesToString w A' 0 c' [] (by simp [loadCells, loadCellsFrom])]
        simp
    rename_i hnz
    split at h
    · simp at h
    · rename_i hsp
      have hsp : A.spot = none := by simpa using hsp
      simp only [Option.bind_eq_some_iff, Option.map_eq_some_iff] at h
      obtain ⟨l, hl, bs, hbs, rfl⟩ := h
      refine ⟨.string _, ?_⟩
      cases hx with
      | slc _ A' _ _ c' r =>
        rw [run_convert_bytes_string w s d e (some A') n c' hs he hd]
        have hns : ∀ (l : List Value) (bs : List UInt8), l.mapM byteOfV = some bs → ∃ ns : List Int, l = ns.map (Value.int .u8) ∧ bs = ns.map (fun n => UInt8.ofNat n.toNat) := by
          intro l
          induction l with
          | nil => intro bs h; simp at h; subst h; exact ⟨[], rfl, rfl⟩
          | cons x l ih =>
            intro bs h
            simp only [List.mapM_cons, Option.bind_eq_bind, Option.bind_eq_some_iff, Option.pure_def, Option.some.injEq] at h
            obtain ⟨b, hb, bs', hbs', rfl⟩ := h
            obtain ⟨ns, rfl, rfl⟩ := ih bs' hbs'
            unfold byteOfV at hb
            split at hb
            · rename_i m
              simp only [Option.some.injEq] at hb; subst hb
              exact ⟨m :: ns, rfl, rfl⟩
            · simp at hb
        obtain ⟨ns, rfl, rfl⟩ := hns l bs hbs
        have fin : ∀ (ns : List Int) (s : ByteArray), ns.foldl (fun r n => r.push (UInt8.ofNat n.toNat)) s = ⟨s.data ++ (ns.map (fun n => UInt8.ofNat n.toNat)).toArray⟩ := by
          intro ns
          induction ns with
          | nil => intro s; simp
          | cons m ns ih => intro s; rw [List.foldl_cons, ih]; simp [ByteArray.push]
        have hload : (loadCells A' n).run P w = .ok (ns.map (Value.int .u8)).toArray w := by
          rcases r with ⟨r, _⟩ | ⟨rfl, _⟩ | ⟨rfl, _⟩
          · obtain ⟨l', h1, h2, h3⟩ := hR.row r hsp hl
            have hl' : l' = ns.map (Value.int .u8) := by
              apply List.ext_getElem?
              intro j
              cases hj : (ns.map (Value.int .u8))[j]? with
              | none =>
                rw [List.getElem?_eq_none_iff] at hj ⊢
                rw [← h1.1]; exact hj
              | some x =>
                obtain ⟨y, hy, hr⟩ := h1.get hj
                rw [hy]
                have hf : flat x = true := by
                  rw [List.getElem?_map] at hj
                  simp only [Option.map_eq_some_iff] at hj
                  obtain ⟨m, _, rfl⟩ := hj
                  rfl
                rw [hr.flat hf]
            rw [← hl', ← h2]
            exact run_loadCells_list w A' l' h3
          · have := (row_cell hl).1
            have : ns = [] := by cases ns <;> simp_all
            subst this
            simp [loadCells, loadCellsFrom]
          · exact absurd rfl hnz
        rw [run_bytesToString w A' n c' ns hload, fin]
        simp [ByteArray.empty, ByteArray.emptyWithCapacity]
        rfl
  · simp at h

theorem lenMap_sound (hR : R P ρ w0 H w) {ats : Array TypeId} {args : Array Value} {t ty k e : Nat} {x x' : Value} (h1 : ats[0]? = some t) (h2 : args[0]? = some x') (ht : P.underlying t = some (.map k e)) (h : lenMap x H = some v) (hx : VRel ρ x x') :
    VRel ρ v v ∧ (Builtin.len_ ats ty args).run P w = .ok v w := by
  unfold lenMap at h
  split at h
  · simp only [Option.some.injEq] at h; subst h
    cases hx
    exact ⟨.int _ _, by simp [Builtin.len_, h1, h2, underlying, ht, goInt]⟩
  · rename_i r
    split at h
    · rename_i es cl rw_ hg
      simp only [Option.some.injEq] at h; subst h
      refine ⟨.int _ _, ?_⟩
      cases hx with
      | map _ r' hr =>
        have : ∃ es', w.heap[r']? = some (.map es' cl) ∧ es'.size = es.length := by
          rcases hr with ⟨hb, rfl⟩ | ⟨hb, l, hl, rfl⟩
          · have ho := hR.ro _ hb
            rw [hg] at ho
            obtain ⟨_, h3, _⟩ := ho
            exact ⟨es.toArray, by rw [hR.below.block _ hb]; exact h3, by simp⟩
          · obtain ⟨_, _, _, _, ho⟩ := hR.own _ _ hl
            rw [hg] at ho
            obtain ⟨es', h3, h4⟩ := ho
            exact ⟨es', h3, by have := h4.len; simpa using this.symm⟩
        obtain ⟨es', h3, h4⟩ := this
        have h5 := run_getObj_map (P := P) w _ _ _ h3
        simp [Builtin.len_, h1, h2, underlying, ht, goInt, h5, h4]
    · simp at h
  · simp at h

/-! ### maps -/
theorem R.map (hR : R P ρ w0 H w) {r r' : Nat} {es : List MapEntry} {cl : Nat} {b : Bool} (hr : BRel ρ r r') (hg : H.get r = .map es cl b) :
    ∃ es', w.heap[r']? = some (.map es' cl) ∧ ERel ρ es es'.toList ∧ (b = true → ρ.base ≤ r ∧ ∃ l, ρ.loc r = some l ∧ r' = l.block) := by
  rcases hr with ⟨hb, rfl⟩ | ⟨hb, l, hl, rfl⟩
  · have ho := hR.ro _ hb
    rw [hg] at ho
    obtain ⟨h1, h3, h4⟩ := ho
    refine ⟨es.toArray, by rw [hR.below.block _ hb]; exact h3, ⟨by simp, fun i e e' he he' => ?_⟩, fun h => by simp [h1] at h⟩
    have he'' : es[i]? = some e' := by simpa using he'
    rw [he] at he''; simp only [Option.some.injEq] at he''; subst he''
    obtain ⟨g1, g2⟩ := h4 e (List.mem_of_getElem? he)
    rw [hR.size] at g1 g2
    exact ⟨rfl, g1.rel, g2.rel⟩
  · obtain ⟨_, _, _, _, ho⟩ := hR.own _ _ hl
    rw [hg] at ho
    obtain ⟨es', h3, h4⟩ := ho
    exact ⟨es', h3, h4, fun _ => ⟨hb, l, hl, rfl⟩⟩

/-- A key's kind, and its type's description. -/
def KindOf : Nat → TypeDesc → Prop
  | 0, .int _ => True
  | 1, .string => True
  | 2, .bool => True
  | _, _ => False
theorem kindO_of {t kd : Nat} (h : kindO P t = some kd) : ∃ d, P.underlying t = some d ∧ KindOf kd d := by
  unfold kindO at h
  split at h
  · rename_i k hu; simp only [Option.some.injEq] at h; subst h; exact ⟨_, hu, trivial⟩
  · rename_i hu; simp only [Option.some.injEq] at h; subst h; exact ⟨_, hu, trivial⟩
  · rename_i hu; simp only [Option.some.injEq] at h; subst h; exact ⟨_, hu, trivial⟩
  · simp at h
theorem sameCell_now {kd : Nat} {d : TypeDesc} {x y : Value} {b : Bool} (hk : KindOf kd d) (h : sameCell kd x y = some b) : Instr.sameNow d x y = some b ∧ flat x = true ∧ flat y = true := by
  unfold sameCell at h
  split at h
  · rw [Option.ite_none_right_eq_some] at h
    obtain ⟨rfl, h⟩ := h
    simp only [Option.some.injEq] at h; subst h
    cases d <;> simp [KindOf] at hk
    exact ⟨by simp [Instr.sameNow], rfl, rfl⟩
  · simp only [Option.some.injEq] at h; subst h
    cases d <;> simp [KindOf] at hk
    exact ⟨by simp [Instr.sameNow], rfl, rfl⟩
  · simp only [Option.some.injEq] at h; subst h
    cases d <;> simp [KindOf] at hk
    exact ⟨by simp [Instr.sameNow], rfl, rfl⟩
  · simp at h
theorem ERel.tail {e e' : MapEntry} {es es' : List MapEntry} (h : ERel ρ (e :: es) (e' :: es')) : ERel ρ es es' :=
  ⟨by have := h.len; simpa using this, fun i x y hx hy => h.at_ (i + 1) x y (by simpa using hx) (by simpa using hy)⟩
theorem findE_sound {kd : Nat} {d : TypeDesc} (hk : KindOf kd d) {k k' : Value} (hkk : VRel ρ k k') : ∀ (es es' : List MapEntry) (r : Option (Nat × Value)) (n : Nat), findE kd k es = some r → ERel ρ es es' →
    ∃ r', Instr.findNow d k' es' n = some r' ∧ (r = none → r' = none) ∧ ∀ i u, r = some (i, u) → ∃ u', r' = some (n + i, u') ∧ VRel ρ u u' ∧ i < es.length
  | [], es', r, n, h, he => by
    have : es' = [] := by have := he.len; cases es' <;> simp_all
    subst this
    simp only [findE, Option.some.injEq] at h; subst h
    exact ⟨none, rfl, fun _ => rfl, fun i u h => by simp at h⟩
  | e :: es, es', r, n, h, he => by
    cases es' with
    | nil => have := he.len; simp at this
    | cons e' es' =>
      obtain ⟨_, hkey, hval⟩ := he.at_ 0 e e' rfl rfl
      simp only [findE, Option.bind_eq_some_iff] at h
      obtain ⟨b, hb, h⟩ := h
      obtain ⟨h1, h2, h3⟩ := sameCell_now hk hb
      obtain rfl := hkk.flat h2
      have hke := hkey.flat h3
      cases b with
      | true =>
        simp only [Option.some.injEq] at h; subst h
        refine ⟨some (n, e'.val), by simp [Instr.findNow, hke, h1], fun h => by simp at h, fun i u h => ?_⟩
        simp only [Option.some.injEq, Prod.mk.injEq] at h
        obtain ⟨rfl, rfl⟩ := h
        exact ⟨e'.val, rfl, hval, by simp⟩
      | false =>
        simp only [Option.map_eq_some_iff] at h
        obtain ⟨q, hq, rfl⟩ := h
        obtain ⟨r', g1, g2, g3⟩ := findE_sound hk hkk es es' q (n + 1) hq he.tail
        refine ⟨r', by simp [Instr.findNow, hke, h1, g1], fun h => g2 (by cases q <;> simp_all), fun i u h => ?_⟩
        cases q with
        | none => simp at h
        | some p =>
          simp only [Option.map_some, Option.some.injEq, Prod.mk.injEq] at h
          obtain ⟨rfl, rfl⟩ := h
          obtain ⟨u', a1, a2, a3⟩ := g3 p.1 p.2 rfl
          exact ⟨u', by rw [a1]; congr 2; omega, a2, by simp; omega⟩

theorem isKey_of {kd : Nat} {d : TypeDesc} (hk : KindOf kd d) (k : Value) (_h : True) : (∀ (w : World) (e : Bool) (kt n : Nat), P.underlying kt = some d → (Instr.checkKey e (n + 1) kt k).run P w = .ok () w) := by
  intro w e kt n hu
  unfold Instr.checkKey
  simp only [Sem.run_bind, run_underlying' hu, Result.andThen_ok]
  unfold KindOf at hk
  split at hk <;> first | (cases k <;> rfl) | exact hk.elim

theorem run_findKey' {kt : TypeId} {d : TypeDesc} {k : Value} {l : List MapEntry} {r : Option (Nat × Value)} (hd : P.underlying kt = some d) (h : Instr.findNow d k l 0 = some r) (w : World) :
    (Instr.findKey kt k l).run P w = .ok r w := by simp [Instr.findKey, underlying, hd, h]

theorem look_sound (hR : R P ρ w0 H w) {t kt e kd : Nat} {z m m' k k' : Value} {ok : Bool} (ht : P.underlying t = some (.map kt e)) (hz : zeroOf P e = some z) (hkd : kindO P kt = some kd) (hlz : litV z = true)
    (h : look kd z ok m k H = some v) (hm : VRel ρ m m') (hk : VRel ρ k k') : ∃ v', VRel ρ v v' ∧ (Instr.lookup t m' k' ok).run P w = .ok v' w := by
  obtain ⟨d, hd, hkd'⟩ := kindO_of hkd
  unfold look at h
  simp only [Option.bind_eq_some_iff, Option.map_eq_some_iff] at h
  obtain ⟨es, hes, r, hr, rfl⟩ := h
  have he : ∃ es' : Array MapEntry, ERel ρ es es'.toList ∧ ((m' = .map none ∧ es' = #[]) ∨ ∃ q cl, m' = .map (some q) ∧ w.heap[q]? = some (.map es' cl)) := by
    unfold entriesOf at hes
    split at hes
    · simp only [Option.some.injEq] at hes; subst hes
      cases hm
      exact ⟨#[], ⟨rfl, fun i e e' h => by simp at h⟩, .inl ⟨rfl, rfl⟩⟩
    · rename_i q
      split at hes
      · rename_i es0 cl b hg
        simp only [Option.some.injEq] at hes; subst hes
        cases hm with
        | map _ q' hq =>
          obtain ⟨es', h1, h2, _⟩ := hR.map hq hg
          exact ⟨es', h2, .inr ⟨q', cl, rfl, h1⟩⟩
      · simp at hes
    · simp at hes
  obtain ⟨es', her, hrun⟩ := he
  obtain ⟨r', g1, g2, g3⟩ := findE_sound hkd' hk es es'.toList r 0 hr her
  have hck := fun e => isKey_of (P := P) hkd' k' trivial w e kt 9999 hd
  have hfk := run_findKey' (P := P) hd g1 w
  have main : ∀ (v : Value) (b : Bool), (r' = none → v = z ∧ b = false) → (∀ i u, r' = some (i, u) → v = u ∧ b = true) → (Instr.lookup t m' k' ok).run P w = .ok (if ok then .tuple #[v, .bool b] else v) w := by
    intro v b h1 h2
    rcases hrun with ⟨rfl, rfl⟩ | ⟨q, cl, rfl, hq⟩
    · simp only [Instr.lookup, Sem.run_bind, run_underlying' ht, Result.andThen_ok, Sem.run_pure, hck, hfk]
      cases r' with
      | none =>
        obtain ⟨rfl, rfl⟩ := h1 rfl
        simp only [Sem.run_bind, run_zero' hz, Result.andThen_ok, Sem.run_pure]
      | some p =>
        obtain ⟨rfl, rfl⟩ := h2 p.1 p.2 rfl
        simp only [Sem.run_bind, Sem.run_pure, Result.andThen_ok]
    · have h5 := run_getObj_map (P := P) w _ _ _ hq
      simp only [Instr.lookup, Sem.run_bind, run_underlying' ht, Result.andThen_ok, Sem.run_pure, h5, hck, hfk]
      cases r' with
      | none =>
        obtain ⟨rfl, rfl⟩ := h1 rfl
        simp only [Sem.run_bind, run_zero' hz, Result.andThen_ok, Sem.run_pure]
      | some p =>
        obtain ⟨rfl, rfl⟩ := h2 p.1 p.2 rfl
        simp only [Sem.run_bind, Sem.run_pure, Result.andThen_ok]
  cases r with
  | none =>
    have := g2 rfl; subst this
    refine ⟨_, ?_, main z false (fun _ => ⟨rfl, rfl⟩) (fun i u h => by simp at h)⟩
    cases ok
    · exact litV_rel hlz
    · exact (LRel.cons (litV_rel hlz) (LRel.cons (.bool false) LRel.nil)).tuple
  | some p =>
    obtain ⟨u', a1, a2, _⟩ := g3 p.1 p.2 rfl
    subst a1
    refine ⟨_, ?_, main u' true (fun h => by simp at h) (fun i u h => by simp at h; exact ⟨h.2, rfl⟩)⟩
    cases ok
    · exact a2
    · exact (LRel.cons a2 (LRel.cons (.bool true) LRel.nil)).tuple

theorem evR_sound (hR : R P ρ w0 H w) (hT : TRel ρ T a) {o : Oper} (hok : ∀ x ∈ o.op.operands.toList, opOk P x = true) (hty : opTyOk P o.op = true) (h : evR P T o.op H = some v) :
    ∃ v', VRel ρ v v' ∧ (execOp a.eval o).run P w = .ok (.value v') w := by
  have hg := hR.glob
  have lift : ∀ {s : Sem Value}, execOp a.eval o = (do pure (.value (← s)) : Sem Next) → (∃ v', VRel ρ v v' ∧ s.run P w = .ok v' w) → ∃ v', VRel ρ v v' ∧ (execOp a.eval o).run P w = .ok (.value v') w := by
    intro s hs ⟨v', hr, h⟩
    exact ⟨v', hr, by rw [hs]; simp [h]⟩
  cases hop : o.op with
  | load t x =>
    rw [hop] at h hok
    simp only [evR] at h
    have hx := ev_rel hg hT (hok x (by simp [Op.operands]))
    split at h
    · rename_i n h1 h2
      exact lift (by simp only [execOp, hop]) (loadN_sound hR h1 h2 h hx)
    · rename_i n h1 h2
      exact lift (by simp only [execOp, hop]) (load1_sound hR h1 h hx)
    · simp at h
  | lookup t m k ok =>
    rw [hop] at h hok hty
    simp only [evR] at h
    have hm := ev_rel hg hT (hok m (by simp [Op.operands]))
    have hk := ev_rel hg hT (hok k (by simp [Op.operands]))
    split at h
    · rename_i kt e ht
      split at h
      · rename_i z kd hz hkd
        have hlz : litV z = true := by simp [opTyOk, ht, hz] at hty; exact hty.2
        exact lift (by simp only [execOp, hop]) (look_sound hR ht hz hkd hlz h hm hk)
      · simp at h
    · simp at h
  | convert s d x =>
    rw [hop] at h hok
    simp only [evR] at h
    have hx := ev_rel hg hT (hok x (by simp [Op.operands]))
    split at h
    · rename_i e h1 h2
      split at h
      · rename_i he
        exact lift (by simp only [execOp, hop]) ⟨v, strOf_sound hR h1 he h2 h hx⟩
      · simp at h
    · simp at h
  | slice t x lo hi mx =>
    rw [hop] at h hok
    simp only [evR] at h
    have hx := ev_rel hg hT (hok x (by simp [Op.operands]))
    have hl := opt_rel (lo := lo) hg hT (fun y hy => hok y (by simp [Op.operands]; simp at hy; simp [hy]))
    have hh := opt_rel (lo := hi) hg hT (fun y hy => hok y (by simp [Op.operands]; simp at hy; simp [hy]))
    have hm := opt_rel (lo := mx) hg hT (fun y hy => hok y (by simp [Op.operands]; simp at hy; simp [hy]))
    split at h
    · rename_i e ht
      split at h
      · rename_i s hs
        exact lift (by simp only [execOp, hop]) (slSlc_sound ht hs h hx hm hh hl hR)
      · simp at h
    · simp at h
  | call c =>
    rw [hop] at h hok
    simp only [evR] at h
    split at h
    · rename_i kt e x hc hu hx
      simp only [Option.bind_eq_some_iff] at hu
      obtain ⟨t, h1, h2⟩ := hu
      have hr := ev_rel hg hT (hok x (by simp only [Op.operands, Call.operands, Array.toList_append, List.mem_append]; exact .inr (List.mem_of_getElem? (i := 0) (by simpa using hx))))
      obtain ⟨hr', hgv⟩ := lenMap_sound (P := P) (ty := o.type) hR h1 (args := c.args.map a.eval) (by simp [hx]) h2 h hr
      exact ⟨v, hr', by simp [execOp, hop, resolve, hc, invoke, builtin, hgv]⟩
    · simp at h
  | _ => rw [hop] at h; simp [evR] at h
end
end Go.AM
