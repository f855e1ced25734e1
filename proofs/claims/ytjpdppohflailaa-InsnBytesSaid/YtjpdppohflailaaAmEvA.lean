/- THE ABSTRACT MACHINE: operations that make memory. -/
import Derived.Test.YtjpdppohflailaaAmEvR
set_option linter.all false
namespace Go.AM
open Go.RowKit (Below)
section
variable {P : Program} {ρ : Inj} {T : Env} {a : Act} {v : Value} {w0 w : World} {H : AH}

theorem lit1_cells {z : Value} (h : z.cells.toList.all lit1 = true) : LRel ρ z.cells.toList z.cells.toList := LRel.refl_lit h

theorem orel_cells {l : Loc} {c : List Value} {C : Array Value} {e : Nat} {fr : Nat × Nat} (hs : l.shift = 0) (ht : C.size = l.total) (hl : c.length ≤ C.size)
    (hf : ∀ i, i < l.total → ¬ (fr.1 ≤ i ∧ i < fr.2)) (h : ∀ (i : Nat) (x : Value), c[i]? = some x → ∃ y, C[i]? = some y ∧ VRel ρ x y) : ORel ρ l (.cells c l.flex) (some (.cells C e fr)) :=
  ⟨rfl, C, e, fr, rfl, ht, by rw [hs]; omega, hf, fun i x hx => by rw [hs, Nat.zero_add]; exact h i x hx⟩

theorem mkPtr_rel {b : Nat} {l : Loc} (hb : ρ.base ≤ b) (hl : ρ.loc b = some l) (hs : l.shift = 0) : VRel ρ (mkPtr b) (.pointer (some ⟨l.block, 0, none⟩)) :=
  .ptr _ _ (.inr ⟨hb, rfl, l, hl, by simp [hs]⟩)

/-- What an allocation owes: the new block is laid for b. -/
def Laid (P : Program) (ρ : Inj) (w0 : World) (H : AH) (b : Nat) (x : Value) (s : Sem Value) (w : World) : Prop :=
  ∃ ρ' v' w', ρ.le ρ' ∧ (∀ y, y ≠ b → ρ'.loc y = ρ.loc y) ∧ R P ρ' w0 H w' ∧ VRel ρ' x v' ∧ s.run P w = .ok v' w'

theorem laid_row (hR : R P ρ w0 H w) {b : Nat} (hb : ρ.base ≤ b) (hn : b < H.next) (hl : ρ.loc b = none) {c : List Value} (hg : H.get b = .cells c none) {C : Array Value} (hc : LRel ρ c C.toList) (e : Nat) (x : Value) (s : Sem Value) (mkv : Nat → Value)
    (hx : ∀ ρ' : Inj, ρ'.base = ρ.base → ρ'.loc b = some ⟨w.heap.size, 0, C.size, none⟩ → VRel ρ' x (mkv w.heap.size)) (hs : s.run P w = .ok (mkv w.heap.size) (w.alloc (.cells C e))) : Laid P ρ w0 H b x s w := by
  refine ⟨ρ.put b ⟨w.heap.size, 0, C.size, none⟩, mkv w.heap.size, _, Inj.le_put hl, fun y hy => by simp [Inj.put, hy], ?_, ?_, hs⟩
  · refine hR.laid hb hn hl _ _ rfl ?_
    rw [hg]
    exact orel_cells (l := ⟨w.heap.size, 0, C.size, none⟩) rfl rfl (by have := hc.1; simp at this; omega) (fun i _ h => by simp at h) (fun i x hx => by
      obtain ⟨y, hy, hr⟩ := hc.get hx
      exact ⟨y, by simpa using hy, hr⟩)
  · exact hx _ rfl (by simp [Inj.put])

theorem zero_all {t : Nat} {z : Value} (hz : zeroOf P t = some z) (h : zeroOk P t = true) : z.cells.toList.all lit1 = true := by simpa [zeroOk, hz] using h

theorem defd_ne {x : Value} (h : defd x = true) : x ≠ undef := by intro e; rw [e] at h; simp [defd, undef] at h

theorem wrap_small {n : Int} (h0 : 0 ≤ n) (h1 : n < 2 ^ 62) : IntKind.i64.wrap n = n := by
  have e1 : n % (2 ^ 64 : Int) = n := Int.emod_eq_of_lt h0 (by omega)
  have e2 : ¬ (n ≥ (2 ^ 63 : Int)) := by omega
  show (if true && decide (n % (2 ^ 64 : Int) ≥ (2 ^ 63 : Int)) then n % (2 ^ 64 : Int) - 2 ^ 64 else n % (2 ^ 64 : Int)) = n
  simp only [e1, e2, decide_false, Bool.and_false, Bool.false_eq_true, if_false]

theorem push_modify {α : Type} (xs : Array α) (x : α) (f : α → α) : (xs.push x).modify xs.size f = xs.push (f x) := by
  apply Array.ext_getElem?
  intro i
  rw [Array.getElem?_modify, Array.getElem?_push, Array.getElem?_push]
  by_cases h : xs.size = i
  · subst h; simp
  · rw [if_neg h, if_neg (fun e => h e.symm), if_neg (fun e => h e.symm)]

theorem alloc_freeze (w : World) (C : Array Value) (e n : Nat) : (w.alloc (.cells C e)).freeze ⟨w.heap.size, n, none⟩ 1 = w.alloc (.cells C e (n, n + 1)) := by
  show ({ w with heap := (w.heap.push _).modify w.heap.size _ } : World) = { w with heap := w.heap.push _ }
  rw [push_modify]
  rfl

def strCells (s : ByteArray) (cap : Nat) : Array Value := (s.data.map fun (b : UInt8) => Value.int .u8 (b.toNat : Nat)) ++ Array.replicate (cap - s.size) (Value.int .u8 0)
theorem stringToBytes_run (w : World) (e : Nat) (s : ByteArray) : ∃ cap, s.size ≤ cap ∧ (Conv.stringToBytes e s).run P w = .ok (.slice (some ⟨w.heap.size, 0, none⟩) s.size cap)
    (w.drew.alloc (.cells (strCells s cap) e (cap, cap + 1))) := by
  refine ⟨(Question.appendCap s.size 0 e).cut (w.tape w.drawn (.appendCap s.size 0 e)), by simp [Question.cut], ?_⟩
  have hc : s.size ≤ (Question.appendCap s.size 0 e).cut (w.tape w.drawn (.appendCap s.size 0 e)) := by simp [Question.cut]
  have hch : (choose (.appendCap s.size 0 e)).run P w = .ok ((Question.appendCap s.size 0 e).cut (w.tape w.drawn (.appendCap s.size 0 e))) w.drew := by
    rw [run_choose]; rfl
  generalize (Question.appendCap s.size 0 e).cut (w.tape w.drawn (.appendCap s.size 0 e)) = cap at *
  have hsz : (strCells s cap).size = cap := by
    have : s.data.size = s.size := rfl
    simp [strCells, this]; omega
  have hd : (Conv.stringToBytes e s : Sem Value) = (do
      let cap ← choose (.appendCap s.size 0 e)
      let a ← newRow e (strCells s cap)
      markStringish a
      pure (.slice (some a) s.size cap)) := rfl
  rw [hd]
  simp only [Sem.run_bind, hch, Result.andThen_ok, newRow, run_newObj, Sem.run_pure, markStringish, run_shape]
  have hsh : World.shape? (w.drew.alloc (.cells (strCells s cap) e)) w.drew.heap.size = some (e, cap) := by
    unfold World.shape?
    have : (w.drew.alloc (.cells (strCells s cap) e)).heap[w.drew.heap.size]? = some (.cells (strCells s cap) e) := by
      show (w.drew.heap.push _)[w.drew.heap.size]? = _
      rw [Array.getElem?_push_size]
    rw [this]
    simp only [hsz]
  rw [World.alloc_eq, hsh]
  simp only [run_freeze, Result.andThen_ok]
  have := alloc_freeze w.drew (strCells s cap) e cap
  rw [this]
  rfl

theorem evA_sound (hR : R P ρ w0 H w) (hT : TRel ρ T a) {o : Oper} (hok : ∀ x ∈ o.op.operands.toList, opOk P x = true) (hty : opTyOk P o.op = true) {obj : AObj} {mkv : Nat → Value} (h : evA P T o.op = some (obj, mkv))
    {b : Nat} (hb : ρ.base ≤ b) (hn : b < H.next) (hl : ρ.loc b = none) (hget : H.get b = obj) :
    ∃ ρ' v' w', ρ.le ρ' ∧ (∀ y, y ≠ b → ρ'.loc y = ρ.loc y) ∧ R P ρ' w0 H w' ∧ VRel ρ' (mkv b) v' ∧ (execOp a.eval o).run P w = .ok (.value v') w' := by
  have hg := hR.glob
  have lift : ∀ {s : Sem Value}, execOp a.eval o = (do pure (.value (← s)) : Sem Next) → Laid P ρ w0 H b (mkv b) s w →
      ∃ ρ' v' w', ρ.le ρ' ∧ (∀ y, y ≠ b → ρ'.loc y = ρ.loc y) ∧ R P ρ' w0 H w' ∧ VRel ρ' (mkv b) v' ∧ (execOp a.eval o).run P w = .ok (.value v') w' := by
    intro s hs ⟨ρ', v', w', h1, h2, h3, h4, h5⟩
    exact ⟨ρ', v', w', h1, h2, h3, h4, by rw [hs]; simp [h5]⟩
  cases hop : o.op with
  | alloc t =>
    rw [hop] at h hok hty
    simp only [evA] at h
    split at h
    · rename_i z hz
      simp only [Option.some.injEq, Prod.mk.injEq] at h
      obtain ⟨rfl, rfl⟩ := h
      have hz' := zero_all hz hty
      refine lift (s := Instr.alloc t true (.tuple #[])) (by simp only [execOp, hop]) (laid_row hR hb hn hl hget (C := z.cells) (LRel.refl_lit hz') t _ _ (fun k => .pointer (some ⟨k, 0, none⟩)) (fun ρ' h1 h2 => ?_) ?_)
      · exact mkPtr_rel (h1 ▸ hb) h2 rfl
      · simp [Instr.alloc, run_zero' hz, newVar, newRow]
    · simp at h
  | box t x =>
    rw [hop] at h hok
    simp only [evA, boxO] at h
    rw [Option.ite_none_right_eq_some] at h
    obtain ⟨hd, h⟩ := h
    simp only [Option.some.injEq, Prod.mk.injEq] at h
    obtain ⟨rfl, rfl⟩ := h
    have hx := ev_rel hg hT (hok x (by simp [Op.operands]))
    refine lift (s := Instr.box t (a.eval x)) (by simp only [execOp, hop]) (laid_row hR hb hn hl hget (C := (a.eval x).cells) (hx.cells (defd_ne hd)) t _ _ (fun k => .pointer (some ⟨k, 0, none⟩)) (fun ρ' h1 h2 => ?_) ?_)
    · exact mkPtr_rel (h1 ▸ hb) h2 rfl
    · simp [Instr.box, newVar, newRow]
  | buildSlice t len parts =>
    rw [hop] at h hok hty
    simp only [evA] at h
    have hpk : ∀ p ∈ parts.toList, opOk P p.2 = true := fun p hp => hok p.2 (by simp only [Op.operands]; exact List.mem_map_of_mem hp)
    split at h
    · rename_i e ht
      split at h
      · rename_i z s hz hs
        split at h
        · rename_i hle
          have hle : len * s ≤ 2 ^ 24 := of_decide_eq_true hle
          unfold buildS at h
          rw [Option.ite_none_right_eq_some] at h
          obtain ⟨hd, h⟩ := h
          simp only [Option.map_eq_some_iff, Prod.mk.injEq] at h
          obtain ⟨ds, hds, rfl, rfl⟩ := h
          have hz' : z.cells.toList.all lit1 = true := zero_all hz (by simpa [opTyOk, ht] using hty)
          have hrep : (repl (len * s) z.cells).all lit1 = true := by
            refine List.all_eq_true.2 fun x hx => ?_
            simp only [repl, Array.toList_map, Array.toList_range, List.mem_map] at hx
            obtain ⟨i, _, rfl⟩ := hx
            by_cases hzs : i % z.cells.size < z.cells.size
            · rw [getElem!_pos z.cells _ hzs]
              exact List.all_eq_true.1 hz' _ (by simp)
            · rw [getElem!_neg z.cells _ hzs]; rfl
          obtain ⟨ds', h1, h2⟩ := fill_sound (ρ := ρ) _ _ ((parts.map fun (i, x) => (i, a.eval x)).toList) _ _ _ hds (by simp) (parts_rel hg hT hpk hd) (LRel.refl_lit (l := (repl (len * s) z.cells)) hrep)
          refine lift (s := Instr.buildSlice t len (parts.map fun (i, x) => (i, a.eval x))) (by simp only [execOp, hop]) (laid_row hR hb hn hl hget (C := ds') h2 e _ _ (fun k => .slice (some ⟨k, 0, none⟩) len len) (fun ρ' g1 g2 => ?_) ?_)
          · exact .slc _ _ _ _ _ (.inl ⟨.inr ⟨g1 ▸ hb, rfl, _, g2, rfl⟩, .inl rfl⟩)
          · have hgt : ¬ (len * s > 2 ^ 24) := by omega
            simp only [Instr.buildSlice, Sem.run_bind, run_underlying' ht, Result.andThen_ok, run_sizeOf' hs, Sem.run_ite, if_neg hgt, Sem.run_pure]
            by_cases h0 : len * s = 0
            · have e1 : (Array.range (len * s)).map (fun x => z.cells[x % z.cells.size]!) = (Array.range (len * s)).map (fun i => (#[] : Array Value)[i % (#[] : Array Value).size]!) := by simp [h0]
              rw [e1] at h1
              simp only [if_pos h0, Result.andThen_ok, h1]
              simp [newRow]
            · simp only [if_neg h0, Sem.run_bind, run_zero' hz, Result.andThen_ok, Sem.run_pure, h1]
              simp [newRow]
        · simp at h
      · simp at h
    · simp at h
  | makeMap t r =>
    rw [hop] at h hok
    have fin : obj = .map [] 0 true → mkv = (fun b => .map (some b)) → (∃ k e, P.underlying t = some (.map k e)) → (∀ x, r = some x → ∃ k n, a.eval x = .int k n) →
        ∃ ρ' v' w', ρ.le ρ' ∧ (∀ y, y ≠ b → ρ'.loc y = ρ.loc y) ∧ R P ρ' w0 H w' ∧ VRel ρ' (mkv b) v' ∧ (execOp a.eval o).run P w = .ok (.value v') w' := by
      rintro rfl rfl ⟨k, e, ht⟩ hr
      refine lift (s := Instr.makeMap t (r.map a.eval)) (by simp only [execOp, hop]) ⟨ρ.put b ⟨w.heap.size, 0, 0, none⟩, .map (some w.heap.size), w.alloc (.map #[] 0), Inj.le_put hl, fun y hy => by simp [Inj.put, hy], ?_, ?_, ?_⟩
      · refine hR.laid hb hn hl _ _ rfl ?_
        rw [hget]
        exact ⟨#[], rfl, rfl, fun i e e' h => by simp at h⟩
      · exact .map _ _ (.inr ⟨hb, _, by simp [Inj.put]; rfl, rfl⟩)
      · cases r with
        | none => simp [Instr.makeMap]
        | some x =>
          obtain ⟨k', n, hx⟩ := hr x rfl
          simp [Instr.makeMap, hx, asInt, asIntOf, underlying, ht]
    cases r with
    | none =>
      simp only [evA] at h
      split at h
      · rename_i k e ht
        simp only [Option.some.injEq, Prod.mk.injEq] at h
        exact fin h.1.symm h.2.symm ⟨_, _, ht⟩ (fun x hx => by simp at hx)
      · simp at h
    | some x =>
      simp only [evA] at h
      have hx := ev_rel hg hT (hok x (by simp [Op.operands]))
      split at h
      · rename_i k e k' n ht hi
        simp only [Option.some.injEq, Prod.mk.injEq] at h
        rw [hi] at hx
        exact fin h.1.symm h.2.symm ⟨_, _, ht⟩ (fun y hy => by simp at hy; subst hy; exact ⟨_, _, hx.flat rfl⟩)
      · simp at h
  | makeSlice t l c =>
    rw [hop] at h hok hty
    simp only [evA] at h
    have hlx := ev_rel hg hT (hok l (by simp [Op.operands]))
    have hcx := ev_rel hg hT (hok c (by simp [Op.operands]))
    split at h
    · rename_i e ht
      split at h
      · rename_i z s q hz hs hq
        unfold makeS at h
        split at h
        · rename_i n m hn1 hm1
          rw [Option.ite_none_right_eq_some] at h
          obtain ⟨⟨h0, h1, h2, h3⟩, h⟩ := h
          simp only [Option.some.injEq, Prod.mk.injEq] at h
          obtain ⟨rfl, rfl⟩ := h
          rw [hn1] at hlx; rw [hm1] at hcx
          have el := hlx.flat rfl
          have ec := hcx.flat rfl
          have hz' : z.cells.toList.all lit1 = true := zero_all hz (by simpa [opTyOk, ht] using hty)
          have hrep : (repl (m.toNat * s) z.cells).all lit1 = true := by
            refine List.all_eq_true.2 fun x hx => ?_
            simp only [repl, Array.toList_map, Array.toList_range, List.mem_map] at hx
            obtain ⟨i, _, rfl⟩ := hx
            by_cases hzs : i % z.cells.size < z.cells.size
            · rw [getElem!_pos z.cells _ hzs]
              exact List.all_eq_true.1 hz' _ (by simp)
            · rw [getElem!_neg z.cells _ hzs]; rfl
          refine lift (s := Instr.makeSlice t (a.eval l) (a.eval c)) (by simp only [execOp, hop]) (laid_row hR hb hn hl hget (C := (Array.range (m.toNat * s)).map (fun x => z.cells[x % z.cells.size]!)) (LRel.refl_lit hrep) e _ _ (fun k => .slice (some ⟨k, 0, none⟩) n.toNat m.toNat) (fun ρ' g1 g2 => ?_) ?_)
          · exact .slc _ _ _ _ _ (.inl ⟨.inr ⟨g1 ▸ hb, rfl, _, g2, rfl⟩, .inl rfl⟩)
          · rw [el, ec]
            have hqi : (P.info? e).map (·.bytes) = some q := hq
            obtain ⟨ti, hti, htb⟩ := Option.map_eq_some_iff.1 hqi
            have w1 := wrap_small h0 (by omega : n < 2 ^ 62)
            have w2 := wrap_small (by omega : 0 ≤ m) h3
            have hti' : (typeInfo e).run P w = .ok ti w := by simp [typeInfo, hti]
            have hbig : ¬ ((ti.bytes : Int) * m > 2 ^ 48) := by rw [htb, Int.mul_comm]; omega
            have hm0 : ¬ m < 0 := by omega
            have hn0 : ¬ n < 0 := by omega
            have hnm : ¬ n > m := by omega
            simp only [Instr.makeSlice, Sem.run_bind, run_underlying' ht, Result.andThen_ok, asInt, asIntOf, Sem.run_pure, hti', w1, w2, hm0, hbig, hn0, hnm, decide_false, Bool.or_false, Bool.false_eq_true, if_false, Sem.run_ite, run_askRoom, run_sizeOf' hs]
            by_cases hzero : m.toNat * s = 0
            · simp only [if_pos hzero, Result.andThen_ok]
              have e0 : (Array.range 0) = #[] := rfl
              simp [newRow, hzero, e0]
            · simp only [if_neg hzero, Sem.run_bind, run_zero' hz, Result.andThen_ok, Sem.run_pure]
              simp [newRow]
        · simp at h
      · simp at h
    · simp at h
  | convert s d x =>
    rw [hop] at h hok
    simp only [evA] at h
    have hx := ev_rel hg hT (hok x (by simp [Op.operands]))
    split at h
    · rename_i e hs hd
      split at h
      · rename_i he
        unfold bytesO at h
        split at h
        · rename_i str hstr
          rw [Option.ite_none_right_eq_some] at h
          obtain ⟨hlt, h⟩ := h
          simp only [Option.some.injEq, Prod.mk.injEq] at h
          obtain ⟨rfl, rfl⟩ := h
          rw [hstr] at hx
          have ex := hx.flat rfl
          refine lift (s := convert s d (a.eval x)) (by simp only [execOp, hop]) ?_
          obtain ⟨cap, hcap, hrun⟩ := stringToBytes_run (P := P) w e str
          have hR2 := hR.drew
          refine ⟨ρ.put b ⟨w.heap.size, 0, cap, some 1⟩, .slice (some ⟨w.heap.size, 0, none⟩) str.size cap, _, Inj.le_put hl, fun y hy => by simp [Inj.put, hy], hR2.laid hb hn hl ⟨w.heap.size, 0, cap, some 1⟩ (.cells (strCells str cap) e (cap, cap + 1)) rfl ?_, ?_, ?_⟩
          · rw [hget]
            have hsz : str.data.size = str.size := rfl
            refine orel_cells (l := ⟨w.heap.size, 0, cap, some 1⟩) rfl (by simp [strCells, hsz]; omega) (by simp [strCells, hsz]) (fun i hi hh => by simp only at hh hi; omega) (fun i x hx => ⟨x, ?_, ?_⟩)
            · have hi : i < str.data.size := by
                rcases Nat.lt_or_ge i str.data.size with g | g
                · exact g
                · rw [List.getElem?_eq_none (by simpa using g)] at hx; simp at hx
              unfold strCells
              rw [Array.getElem?_append_left (by simpa using hi), ← hx]
              simp
            · rw [List.getElem?_map] at hx
              simp only [Option.map_eq_some_iff] at hx
              obtain ⟨q, _, rfl⟩ := hx
              exact .int _ _
          · exact .slc _ _ _ _ _ (.inl ⟨.inr ⟨hb, rfl, _, by simp [Inj.put]; rfl, rfl⟩, .inr ⟨⟨w.heap.size, 0, cap, some 1⟩, 1, hb, by simp [Inj.put], rfl, hcap, by simp⟩⟩)
          · rw [ex]
            simp only [convert, Sem.run_bind, run_underlying' hs, run_underlying' hd, Result.andThen_ok, run_underlying' he]
            exact hrun
        · simp at h
      · simp at h
    · simp at h
  | _ => rw [hop] at h; simp [evA] at h
end
end Go.AM
