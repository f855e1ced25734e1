/- THE ABSTRACT MACHINE: texts XAmTyped, XAmLaw. -/
import Derived.Test.YtakplbkhbalfoaaAmC
import Derived.HandedShaped
import Derived.JoinedOf
import Derived.WideKeyArgs
import Derived.ChangeArms
import Derived.OpenShut
import Derived.RowKit
set_option linter.all false
section
/- THE ABSTRACT MACHINE: what can be read of an argument as data, as rows of the abstract heap. -/
namespace Go.AM
open Go.RowKit (Below)

/-- The shape of a type of plain data. -/
inductive Sh where
  | int (k : IntKind)
  | bool
  | str
  | slice (size : Nat) (e : Sh)
  | struct (l : List Sh)
  | arr (n : Nat) (e : Sh)

def Sh.size : Sh → Nat
  | .struct l => sizes l
  | .arr n e => n * e.size
  | _ => 1
where sizes : List Sh → Nat
  | [] => 0
  | s :: l => s.size + sizes l

mutual
def SV (H : AH) : Sh → List Value → Prop
  | .int k, cs => ∃ n, cs = [.int k n] ∧ k.has n
  | .bool, cs => ∃ b, cs = [.bool b]
  | .str, cs => ∃ l : List UInt8, cs = [AM.str l] ∧ l.length ≤ 9223372036854775807
  | .slice size e, cs => ∃ v rows, cs = [v] ∧ Rows H size v rows ∧ rows.length ≤ 9223372036854775807 ∧ ∀ r ∈ rows, SV H e r
  | .struct l, cs => SVs H l cs
  | .arr n e, cs => ∃ rows : List (List Value), rows.length = n ∧ cs = rows.flatten ∧ ∀ r ∈ rows, SV H e r
def SVs (H : AH) : List Sh → List Value → Prop
  | [], cs => cs = []
  | s :: l, cs => ∃ c1 c2, cs = c1 ++ c2 ∧ SV H s c1 ∧ SVs H l c2
end
def ArgSV (H : AH) (sh : Sh) (v : Value) : Prop :=
  match sh with
  | .struct l => ∃ cs, v = .agg cs.toArray ∧ SVs H l cs
  | .arr n e => ∃ cs, v = .agg cs.toArray ∧ SV H (.arr n e) cs
  | s => SV H s [v]

/-- The shape of a type; none: not of plain data, or not laid out one behind the other. -/
def shFields (f : TypeId → Option Sh) (size : TypeId → Nat) : List Field → Nat → Option (List Sh)
  | [], _ => some []
  | x :: l, off => if x.offset = off then (f x.type).bind fun s => (shFields f size l (off + size x.type)).map (s :: ·) else none
def shOf (P : Program) : Nat → TypeId → Option Sh
  | 0, _ => none
  | d + 1, t =>
    match P.underlying t with
    | some (.int k) => some (.int k)
    | some .bool => some .bool
    | some .string => some .str
    | some (.slice e) => if P.cellsOf e = 0 then none else (shOf P d e).map (.slice (P.cellsOf e))
    | some (.struct fs) => if (fs.toList.map fun x => P.cellsOf x.type).sum = P.cellsOf t then (shFields (shOf P d) P.cellsOf fs.toList 0).map .struct else none
    | some (.array n e) => if n * P.cellsOf e = P.cellsOf t then (shOf P d e).map (.arr n) else none
    | _ => none

theorem mapM_get {α β : Type} {f : α → Option β} : ∀ {l : List α} {ys : List β}, l.mapM f = some ys → ys.length = l.length ∧ ∀ i (h : i < l.length), ∃ y, f l[i] = some y ∧ ys[i]? = some y
  | [], ys, h => by simp at h; subst h; simp
  | x :: l, ys, h => by
    simp only [List.mapM_cons, Option.bind_eq_bind, Option.bind_eq_some_iff, Option.pure_def, Option.some.injEq] at h
    obtain ⟨y, hy, ys', hys, rfl⟩ := h
    obtain ⟨h1, h2⟩ := mapM_get hys
    refine ⟨by simp [h1], fun i hi => ?_⟩
    cases i with
    | zero => exact ⟨y, hy, rfl⟩
    | succ i => simpa using h2 i (by simpa using hi)

section
variable {Hh : Type} {enc : TypeId × Value → Hh} {P : Program} {W : World}

theorem cell_lt {a : Addr} {v : Value} (h : W.cell? a = some v) : a.block < W.heap.size ∧ a.spot = none ∧ ∃ c e fr, W.heap[a.block]? = some (.cells c e fr) := by
  unfold World.cell? at h
  split at h
  · rename_i c e fr hb
    refine ⟨(Array.getElem?_eq_some_iff.1 hb).1, ?_, c, e, fr, hb⟩
    cases hs : a.spot with
    | none => rfl
    | some _ => rw [hs] at h; simp at h
  · simp at h

theorem cells_get {a : Addr} {n : Nat} {cs : List Value} (h : W.cells? 0 a n = some cs) : cs.length = n ∧ ∀ i, i < n → W.cell? (a.add i) = cs[i]? := by
  unfold World.cells? at h
  rw [if_pos (Nat.zero_le _)] at h
  obtain ⟨h1, h2⟩ := mapM_get h
  refine ⟨by simpa using h1, fun i hi => ?_⟩
  obtain ⟨y, hy, hc⟩ := h2 i (by simpa using hi)
  simp at hy
  rw [hy, hc]

/-- What lies in a block of the world that can be looked at. -/
theorem snap_row {b o : Nat} {cs : List Value} (hb : ∃ c e fr, W.heap[b]? = some (.cells c e fr)) (h : ∀ i, i < cs.length → W.cell? ⟨b, o + i, none⟩ = cs[i]?) (hc : ∀ v ∈ cs, Closed W.heap.size v) :
    ((snap W).get b).row o cs.length = some cs ∧ ∀ s, fits s ((snap W).get b) = true := by
  obtain ⟨c, e, fr, hb⟩ := hb
  have hlt : b < W.heap.size := (Array.getElem?_eq_some_iff.1 hb).1
  have hs : (snap W).get b = snapObj W b := by simp [AH.get, snap, hlt]
  rw [hs]
  unfold snapObj
  rw [hb]
  refine ⟨?_, fun s => rfl⟩
  refine rowF_some _ _ _ _ rfl fun j hj => ?_
  rw [h j hj, List.getElem?_eq_getElem hj]
  simp only
  rw [if_pos (hc _ (List.getElem_mem _))]

theorem add_eq {a : Addr} (hs : a.spot = none) (n : Nat) : a.add n = ⟨a.block, a.off + n, none⟩ := by
  obtain ⟨b, o, s⟩ := a
  simp only at hs; subst hs
  simp only [Addr.add]
  by_cases h : n = 0
  · simp [h]
  · simp [h]

theorem shFields_sound {f : TypeId → Option Sh} {size : TypeId → Nat} {Ok : TypeId → List Value → Prop} (hf : ∀ t sh cs, f t = some sh → Ok t cs → SV (snap W) sh cs ∧ ∀ v ∈ cs, Closed W.heap.size v) (cs : List Value) :
    ∀ (fs : List Field) (off : Nat) (l : List Sh), shFields f size fs off = some l → (∀ x ∈ fs, Ok x.type ((cs.drop x.offset).take (size x.type))) → ∀ n, n = (fs.map (fun x => size x.type)).sum →
      SVs (snap W) l ((cs.drop off).take n) ∧ ∀ v ∈ (cs.drop off).take n, Closed W.heap.size v
  | [], off, l, h, _, n, hn => by
    simp [shFields] at h; subst h; simp at hn; subst hn; simp [SVs]
  | x :: fs, off, l, h, hok, n, hn => by
    simp only [shFields] at h
    rw [Option.ite_none_right_eq_some] at h
    obtain ⟨hoff, h⟩ := h
    simp only [Option.bind_eq_some_iff, Option.map_eq_some_iff] at h
    obtain ⟨s, hs, l', hl', rfl⟩ := h
    have h1 := hf x.type s _ hs (hok x (by simp))
    rw [hoff] at h1
    have h2 := shFields_sound hf cs fs (off + size x.type) l' hl' (fun y hy => hok y (by simp [hy])) _ rfl
    simp only [List.map_cons, List.sum_cons] at hn
    have e : (cs.drop off).take n = (cs.drop off).take (size x.type) ++ (cs.drop (off + size x.type)).take (fs.map (fun x => size x.type)).sum := by
      rw [hn, List.take_add, List.drop_drop]
    rw [e]
    refine ⟨⟨_, _, rfl, h1.1, h2.1⟩, fun v hv => ?_⟩
    rcases List.mem_append.1 hv with hv | hv
    · exact h1.2 v hv
    · exact h2.2 v hv

theorem chunk_flatten {α : Type} {n s : Nat} : ∀ (cs : List α), cs.length = n * s → cs = ((List.range n).map fun i => (cs.drop (i * s)).take s).flatten := by
  induction n with
  | zero => intro cs h; simp at h; simp [h]
  | succ n ih =>
    intro cs h
    have hs : (n + 1) * s = n * s + s := Nat.succ_mul n s
    have h1 := ih (cs.take (n * s)) (by simp; omega)
    rw [List.range_succ, List.map_append, List.flatten_append]
    have e1 : ((List.range n).map fun i => (cs.drop (i * s)).take s) = ((List.range n).map fun i => ((cs.take (n * s)).drop (i * s)).take s) := by
      apply List.map_congr_left
      intro i hi
      have hi : i < n := List.mem_range.1 hi
      have : i * s + s ≤ n * s := by rw [← Nat.succ_mul]; exact Nat.mul_le_mul_right _ hi
      rw [List.drop_take, List.take_take, Nat.min_eq_left (by omega)]
    rw [e1, ← h1]
    simp only [List.map_cons, List.map_nil, List.flatten_cons, List.flatten_nil, List.append_nil]
    rw [List.take_of_length_le (l := cs.drop (n * s)) (by simp; omega), List.take_append_drop]

theorem elem_sound {e : TypeId} {fuel : Nat} {a : Addr} {i : Nat} {y : DataW Hh × List MemPlace}
    (h : ((W.cells? 0 (a.add (i * P.cellsOf e)) (P.cellsOf e)).bind (DataW.trod enc P W 0 (fun _ => true) true fuel e)) = some y) :
    ∃ cs, W.cells? 0 (a.add (i * P.cellsOf e)) (P.cellsOf e) = some cs ∧ DataW.trod enc P W 0 (fun _ => true) true fuel e cs = some y := by
  simpa only [Option.bind_eq_some_iff] using h

theorem trod_SV : ∀ (d : Nat) (t : TypeId) (sh : Sh) (fuel : Nat) (cs : List Value) (x : DataW Hh × List MemPlace), shOf P d t = some sh → DataW.trod enc P W 0 (fun _ => true) true fuel t cs = some x →
    SV (snap W) sh cs ∧ ∀ v ∈ cs, Closed W.heap.size v := by
  intro d
  induction d with
  | zero => intro t sh fuel cs x h; simp [shOf] at h
  | succ d ih =>
    intro t sh fuel cs x h ht
    simp only [shOf] at h
    split at h
    · rename_i k hu
      simp only [Option.some.injEq] at h; subst h
      obtain ⟨n, rfl, _, hw⟩ := DataW.trod_int hu ht
      simp only [Lit.wf, Bool.and_eq_true, decide_eq_true_eq] at hw
      exact ⟨⟨n, rfl, hw⟩, by simp; exact .int _ _⟩
    · rename_i hu
      simp only [Option.some.injEq] at h; subst h
      obtain ⟨b, rfl, _⟩ := DataW.trod_bool hu ht
      exact ⟨⟨b, rfl⟩, by simp; exact .bool _⟩
    · rename_i hu
      simp only [Option.some.injEq] at h; subst h
      obtain ⟨s, rfl, _, hs⟩ := DataW.trod_string hu ht
      refine ⟨⟨s.data.toList, by rw [str_of], ?_⟩, by simp; exact .string _⟩
      have : s.data.toList.length = s.size := rfl
      rw [this]
      unfold maxLen at hs; omega
    · rename_i e hu
      rw [Option.ite_none_left_eq_some] at h
      obtain ⟨hsz, h⟩ := h
      simp only [Option.map_eq_some_iff] at h
      obtain ⟨se, hse, rfl⟩ := h
      rcases DataW.trod_slice hu ht with ⟨rfl, _⟩ | ⟨a, len, cap, elems, rest, n, rfl, rfl, _, _, hlc, hcm, hel, h1, h2, _⟩
      · exact ⟨⟨_, [], rfl, Rows.nil _ _ none, by simp, by simp⟩, by simp; exact .snil _ _⟩
      obtain ⟨hrl, h2⟩ := h2 rfl
      -- each element
      have hall : ∀ i, i < cap → ∃ cs y, W.cells? 0 (a.add (i * P.cellsOf e)) (P.cellsOf e) = some cs ∧ DataW.trod enc P W 0 (fun _ => true) true n e cs = some y := by
        intro i hi
        by_cases hil : i < len
        · have := h1 i hil
          rw [List.getElem?_eq_getElem (by omega)] at this
          obtain ⟨cs, q1, q2⟩ := elem_sound this
          exact ⟨cs, _, q1, q2⟩
        · have := h2 (i - len) (by omega)
          rw [List.getElem?_eq_getElem (by omega), show len + (i - len) = i by omega] at this
          obtain ⟨cs, q1, q2⟩ := elem_sound this
          exact ⟨cs, _, q1, q2⟩
      by_cases hc0 : cap = 0
      · subst hc0
        have : len = 0 := by omega
        subst this
        exact ⟨⟨_, [], rfl, Rows.nil _ _ (some a), by simp, by simp⟩, by simp; exact .slc _ _ _ _ _ (.inr (.inr ⟨rfl, rfl, rfl, rfl⟩))⟩
      obtain ⟨c0, y0, hc1, _⟩ := hall 0 (by omega)
      obtain ⟨hc2, hc3⟩ := cells_get hc1
      have hcell := hc3 0 (by omega)
      rw [List.getElem?_eq_getElem (by omega)] at hcell
      obtain ⟨hlt, hsp, hblk⟩ := cell_lt hcell
      have ea : ((a.add (0 * P.cellsOf e)).add 0) = a := by rw [Nat.zero_mul]; simp [Addr.add]
      rw [ea] at hlt hsp hblk
      have hcl : Closed W.heap.size (.slice (some a) len cap) := .slc _ _ _ _ _ (.inl ⟨.inl ⟨hlt, rfl⟩, .inl rfl⟩)
      let rows : List (List Value) := (List.range len).map fun i => (W.cells? 0 (a.add (i * P.cellsOf e)) (P.cellsOf e)).getD []
      have hrows : ∀ i (hi : i < len), ∃ y, W.cells? 0 (a.add (i * P.cellsOf e)) (P.cellsOf e) = some (rows[i]'(by simp [rows, hi])) ∧ DataW.trod enc P W 0 (fun _ => true) true n e (rows[i]'(by simp [rows, hi])) = some y := by
        intro i hi
        obtain ⟨cs, y, q1, q2⟩ := hall i (by omega)
        have : rows[i]'(by simp [rows, hi]) = cs := by simp [rows, q1]
        rw [this]; exact ⟨y, q1, q2⟩
      have hmem : ∀ r ∈ rows, r.length = P.cellsOf e ∧ SV (snap W) se r ∧ ∀ v ∈ r, Closed W.heap.size v := by
        intro r hr
        obtain ⟨i, hi, rfl⟩ := List.getElem_of_mem hr
        have hil : i < len := by simpa [rows] using hi
        obtain ⟨y, q1, q2⟩ := hrows i hil
        exact ⟨(cells_get q1).1, ih e se n _ y hse q2⟩
      have hlenr : rows.length = len := by simp [rows]
      have hfl := flatten_length rows fun r hr => (hmem r hr).1
      have hfc : ∀ j, j < rows.flatten.length → W.cell? ⟨a.block, a.off + j, none⟩ = rows.flatten[j]? := by
        intro j hj
        rw [hfl, hlenr] at hj
        have hpos : 0 < P.cellsOf e := by omega
        have hq : j / P.cellsOf e < len := (Nat.div_lt_iff_lt_mul hpos).2 hj
        obtain ⟨y, q1, _⟩ := hrows _ hq
        have hm : j % P.cellsOf e < P.cellsOf e := Nat.mod_lt _ hpos
        have := (cells_get q1).2 _ hm
        have hfp := flatten_part rows (fun r hr => (hmem r hr).1) (j / P.cellsOf e) (by omega)
        rw [← hfp, List.getElem?_take, if_pos hm, List.getElem?_drop] at this
        rw [show j / P.cellsOf e * P.cellsOf e + j % P.cellsOf e = j by rw [Nat.mul_comm]; exact Nat.div_add_mod _ _] at this
        rw [← this]
        have e2 : a.add (j / P.cellsOf e * P.cellsOf e) = ⟨a.block, a.off + j / P.cellsOf e * P.cellsOf e, none⟩ := add_eq hsp _
        rw [e2, add_eq rfl]
        simp only
        rw [Nat.add_assoc, show j / P.cellsOf e * P.cellsOf e + j % P.cellsOf e = j by rw [Nat.mul_comm]; exact Nat.div_add_mod _ _]
      obtain ⟨r1, r2⟩ := snap_row (o := a.off) (cs := rows.flatten) hblk hfc (by
        intro v hv
        obtain ⟨r, hr, hv⟩ := List.mem_flatten.1 hv
        exact (hmem r hr).2.2 v hv)
      rw [hfl] at r1
      refine ⟨⟨_, rows, rfl, ⟨fun r hr => (hmem r hr).1, .inr ⟨a.block, a.off, cap, ?_, by omega, r2 _, r1⟩⟩, ?_, fun r hr => (hmem r hr).2.1⟩, by simpa using hcl⟩
      · obtain ⟨b, o, sp⟩ := a
        simp only at hsp; subst hsp
        rw [hlenr]
      · rw [hlenr]; unfold maxLen at hcm; omega
    · rename_i fs hu
      rw [Option.ite_none_right_eq_some] at h
      obtain ⟨hsum, h⟩ := h
      simp only [Option.map_eq_some_iff] at h
      obtain ⟨l, hl, rfl⟩ := h
      obtain ⟨xs, n, rfl, _, hlen, hxs, hf⟩ := DataW.trod_struct hu ht
      have := shFields_sound (W := W) (f := shOf P d) (size := P.cellsOf) (Ok := fun t cs => ∃ x, DataW.trod enc P W 0 (fun _ => true) true n t cs = some x) (fun t sh cs h1 ⟨x, h2⟩ => ih t sh n cs x h1 h2) cs fs.toList 0 l hl (by
        intro f hfm
        obtain ⟨i, hi, rfl⟩ := List.getElem_of_mem hfm
        have hi' : i < fs.size := by simpa using hi
        have := hf i fs[i] (by simp [hi'])
        rw [List.getElem?_eq_getElem (by omega)] at this
        exact ⟨_, by simpa using this⟩) _ rfl
      rw [hsum, List.drop_zero, List.take_of_length_le (by omega)] at this
      exact ⟨this.1, this.2⟩
    · rename_i m e hu
      rw [Option.ite_none_right_eq_some] at h
      obtain ⟨hsum, h⟩ := h
      simp only [Option.map_eq_some_iff] at h
      obtain ⟨se, hse, rfl⟩ := h
      obtain ⟨xs, n, rfl, _, hlen, hxs, hf⟩ := DataW.trod_array hu ht
      have hch := chunk_flatten (n := m) (s := P.cellsOf e) cs (by omega)
      have hr : ∀ r ∈ (List.range m).map (fun i => (cs.drop (i * P.cellsOf e)).take (P.cellsOf e)), SV (snap W) se r ∧ ∀ v ∈ r, Closed W.heap.size v := by
        intro r hr
        obtain ⟨i, hi, rfl⟩ := List.mem_map.1 hr
        have hi : i < m := List.mem_range.1 hi
        have := hf i hi
        rw [List.getElem?_eq_getElem (by omega)] at this
        exact ih e se n _ _ hse this
      refine ⟨⟨_, by simp, hch, fun r h => (hr r h).1⟩, fun v hv => ?_⟩
      rw [hch] at hv
      obtain ⟨r, h1, h2⟩ := List.mem_flatten.1 hv
      exact (hr r h1).2 v h2
    · simp at h
end
def ArgsSV (H : AH) : List Sh → List Value → Prop
  | [], [] => True
  | s :: ss, v :: vs => ArgSV H s v ∧ ArgsSV H ss vs
  | _, _ => False

theorem ArgsSV.nil_inv {H : AH} {args : List Value} (h : ArgsSV H [] args) : args = [] := by cases args <;> simp [ArgsSV] at h ⊢
theorem ArgsSV.cons_inv {H : AH} {s : Sh} {ss : List Sh} {args : List Value} (h : ArgsSV H (s :: ss) args) : ∃ v vs, args = v :: vs ∧ ArgSV H s v ∧ ArgsSV H ss vs := by
  cases args with
  | nil => simp [ArgsSV] at h
  | cons v vs => exact ⟨v, vs, rfl, h.1, h.2⟩
theorem SV.u8 {H : AH} {cs : List Value} (h : SV H (.int .u8) cs) : ∃ x : BitVec 8, cs = [u8 x] := by
  obtain ⟨n, rfl, h1, h2⟩ := h
  have e1 : IntKind.u8.min = 0 := rfl
  have e2 : IntKind.u8.max = 2 ^ 8 - 1 := rfl
  rw [e1] at h1; rw [e2] at h2
  simp only [Int.reducePow, Int.reduceSub] at h2
  refine ⟨BitVec.ofInt 8 n, ?_⟩
  rw [u8_def, BitVec.toNat_ofInt, Int.toNat_of_nonneg (Int.emod_nonneg _ (by decide)), Int.emod_eq_of_lt h1 (by omega)]
theorem SV.u16 {H : AH} {cs : List Value} (h : SV H (.int .u16) cs) : ∃ x : BitVec 16, cs = [u16 x] := by
  obtain ⟨n, rfl, h1, h2⟩ := h
  have e1 : IntKind.u16.min = 0 := rfl
  have e2 : IntKind.u16.max = 2 ^ 16 - 1 := rfl
  rw [e1] at h1; rw [e2] at h2
  simp only [Int.reducePow, Int.reduceSub] at h2
  refine ⟨BitVec.ofInt 16 n, ?_⟩
  rw [u16_def, BitVec.toNat_ofInt, Int.toNat_of_nonneg (Int.emod_nonneg _ (by decide)), Int.emod_eq_of_lt h1 (by omega)]
theorem SV.u32 {H : AH} {cs : List Value} (h : SV H (.int .u32) cs) : ∃ x : BitVec 32, cs = [u32 x] := by
  obtain ⟨n, rfl, h1, h2⟩ := h
  have e1 : IntKind.u32.min = 0 := rfl
  have e2 : IntKind.u32.max = 2 ^ 32 - 1 := rfl
  rw [e1] at h1; rw [e2] at h2
  simp only [Int.reducePow, Int.reduceSub] at h2
  refine ⟨BitVec.ofInt 32 n, ?_⟩
  rw [u32_def, BitVec.toNat_ofInt, Int.toNat_of_nonneg (Int.emod_nonneg _ (by decide)), Int.emod_eq_of_lt h1 (by omega)]
theorem SV.u64 {H : AH} {cs : List Value} (h : SV H (.int .u64) cs) : ∃ x : BitVec 64, cs = [u64 x] := by
  obtain ⟨n, rfl, h1, h2⟩ := h
  have e1 : IntKind.u64.min = 0 := rfl
  have e2 : IntKind.u64.max = 2 ^ 64 - 1 := rfl
  rw [e1] at h1; rw [e2] at h2
  simp only [Int.reducePow, Int.reduceSub] at h2
  refine ⟨BitVec.ofInt 64 n, ?_⟩
  rw [u64_def, BitVec.toNat_ofInt, Int.toNat_of_nonneg (Int.emod_nonneg _ (by decide)), Int.emod_eq_of_lt h1 (by omega)]
theorem SV.i64 {H : AH} {cs : List Value} (h : SV H (.int .i64) cs) : ∃ n : Int, cs = [vi n] ∧ -9223372036854775808 ≤ n ∧ n < 9223372036854775808 := by
  obtain ⟨n, rfl, h1, h2⟩ := h
  have e1 : IntKind.i64.min = -9223372036854775808 := rfl
  have e2 : IntKind.i64.max = 9223372036854775807 := rfl
  rw [e1] at h1; rw [e2] at h2
  exact ⟨n, rfl, h1, by omega⟩
theorem ArgSV.u8 {H : AH} {v : Value} (h : ArgSV H (.int .u8) v) : ∃ x : BitVec 8, v = u8 x := by
  obtain ⟨x, e⟩ := SV.u8 (show SV H (.int .u8) [v] from h)
  exact ⟨x, by simpa using e⟩
theorem ArgSV.u16 {H : AH} {v : Value} (h : ArgSV H (.int .u16) v) : ∃ x : BitVec 16, v = u16 x := by
  obtain ⟨x, e⟩ := SV.u16 (show SV H (.int .u16) [v] from h)
  exact ⟨x, by simpa using e⟩
theorem ArgSV.u32 {H : AH} {v : Value} (h : ArgSV H (.int .u32) v) : ∃ x : BitVec 32, v = u32 x := by
  obtain ⟨x, e⟩ := SV.u32 (show SV H (.int .u32) [v] from h)
  exact ⟨x, by simpa using e⟩
theorem ArgSV.u64 {H : AH} {v : Value} (h : ArgSV H (.int .u64) v) : ∃ x : BitVec 64, v = u64 x := by
  obtain ⟨x, e⟩ := SV.u64 (show SV H (.int .u64) [v] from h)
  exact ⟨x, by simpa using e⟩
theorem ArgSV.i64 {H : AH} {v : Value} (h : ArgSV H (.int .i64) v) : ∃ n : Int, v = vi n ∧ -9223372036854775808 ≤ n ∧ n < 9223372036854775808 := by
  obtain ⟨x, e, h1, h2⟩ := SV.i64 (show SV H (.int .i64) [v] from h)
  exact ⟨x, by simpa using e, h1, h2⟩
theorem ArgSV.bool {H : AH} {v : Value} (h : ArgSV H .bool v) : ∃ b : Bool, v = vb b := by
  obtain ⟨x, e⟩ := (show SV H .bool [v] from h)
  exact ⟨x, by simpa using e⟩
/-- Rows of one cell each, told as data. -/
theorem rows_map {α : Type} {f : α → Value} : ∀ {rows : List (List Value)}, (∀ r ∈ rows, ∃ x, r = [f x]) → ∃ l : List α, rows = l.map fun x => [f x]
  | [], _ => ⟨[], rfl⟩
  | r :: rows, h => by
    obtain ⟨x, rfl⟩ := h r (by simp)
    obtain ⟨l, rfl⟩ := rows_map (rows := rows) (fun r hr => h r (by simp [hr]))
    exact ⟨x :: l, rfl⟩
theorem SV.vals {α : Type} {f : α → Value} {H : AH} {e : Sh} {cs : List Value} (hf : ∀ r, SV H e r → ∃ x, r = [f x]) (h : SV H (.slice 1 e) cs) : ∃ v, ∃ l : List α, cs = [v] ∧ Vals H v (l.map f) ∧ l.length ≤ 9223372036854775807 := by
  obtain ⟨v, rows, rfl, h1, h2, h3⟩ := h
  obtain ⟨l, rfl⟩ := rows_map fun r hr => hf r (h3 r hr)
  refine ⟨v, l, rfl, ?_, by simpa using h2⟩
  simpa [Vals, List.map_map, Function.comp_def] using h1
theorem ArgSV.u8s {H : AH} {v : Value} (h : ArgSV H (.slice 1 (.int .u8)) v) : ∃ l : List (BitVec 8), Vals H v (l.map AM.u8) := by
  obtain ⟨w, l, e, h1, _⟩ := SV.vals (f := AM.u8) (fun r hr => hr.u8) (show SV H (.slice 1 (.int .u8)) [v] from h)
  obtain rfl : v = w := by simpa using e
  exact ⟨l, h1⟩
theorem ArgSV.u16s {H : AH} {v : Value} (h : ArgSV H (.slice 1 (.int .u16)) v) : ∃ l : List (BitVec 16), Vals H v (l.map AM.u16) := by
  obtain ⟨w, l, e, h1, _⟩ := SV.vals (f := AM.u16) (fun r hr => hr.u16) (show SV H (.slice 1 (.int .u16)) [v] from h)
  obtain rfl : v = w := by simpa using e
  exact ⟨l, h1⟩
theorem ArgSV.u32s {H : AH} {v : Value} (h : ArgSV H (.slice 1 (.int .u32)) v) : ∃ l : List (BitVec 32), Vals H v (l.map AM.u32) := by
  obtain ⟨w, l, e, h1, _⟩ := SV.vals (f := AM.u32) (fun r hr => hr.u32) (show SV H (.slice 1 (.int .u32)) [v] from h)
  obtain rfl : v = w := by simpa using e
  exact ⟨l, h1⟩
theorem ArgSV.u64s {H : AH} {v : Value} (h : ArgSV H (.slice 1 (.int .u64)) v) : ∃ l : List (BitVec 64), Vals H v (l.map AM.u64) := by
  obtain ⟨w, l, e, h1, _⟩ := SV.vals (f := AM.u64) (fun r hr => hr.u64) (show SV H (.slice 1 (.int .u64)) [v] from h)
  obtain rfl : v = w := by simpa using e
  exact ⟨l, h1⟩
end Go.AM
end
section
/- THE ABSTRACT MACHINE: from what it says of a law to the given statement. -/
namespace Go.AM
open Go.RowKit (Below okWide_bool_mk shut_bool)
open Go.ChangeShapes Go.WideShapes

section
variable {Hh : Type} {enc : TypeId × Value → Hh} {P : Program} {W : World}

theorem closed_cells {B : Nat} {v : Value} (h : ∀ x ∈ v.cells.toList, Closed B x) : Closed B v := by
  cases v with
  | agg a =>
    refine .agg a.toList a.toList rfl fun i x y hx hy => ?_
    rw [hx] at hy; simp only [Option.some.injEq] at hy; subst hy
    exact h _ (List.mem_of_getElem? hx)
  | _ => exact h _ (by simp [Value.cells])

theorem arg_SV {t : TypeId} {sh : Sh} {d : Nat} {v : Value} {x : DataW Hh} {ps : List MemPlace} {b0 : Nat} (hsh : shOf P d t = some sh) (hval : Value.okWide P W .any b0 t v) (h : DataW.Trod enc P W 0 (fun _ => true) true t v x ps) :
    ArgSV (snap W) sh v ∧ Closed W.heap.size v := by
  obtain ⟨fuel, h⟩ := h
  obtain ⟨h1, h2⟩ := trod_SV d t sh fuel _ _ hsh h
  refine ⟨?_, closed_cells h2⟩
  cases d with
  | zero => simp [shOf] at hsh
  | succ d =>
  simp only [shOf] at hsh
  split at hsh
  · rename_i k hu
    simp only [Option.some.injEq] at hsh; subst hsh
    obtain ⟨n, rfl⟩ := okWide_int hu hval
    exact h1
  · rename_i hu
    simp only [Option.some.injEq] at hsh; subst hsh
    obtain ⟨n, rfl⟩ := okWide_bool hu hval
    exact h1
  · rename_i hu
    simp only [Option.some.injEq] at hsh; subst hsh
    obtain ⟨n, rfl⟩ := okWide_string hu hval
    exact h1
  · rename_i e hu
    rw [Option.ite_none_left_eq_some] at hsh
    obtain ⟨_, hsh⟩ := hsh
    simp only [Option.map_eq_some_iff] at hsh
    obtain ⟨se, _, rfl⟩ := hsh
    obtain ⟨a, n, c, rfl⟩ := okWide_slice hu hval
    exact h1
  · rename_i fs hu
    rw [Option.ite_none_right_eq_some] at hsh
    obtain ⟨_, hsh⟩ := hsh
    simp only [Option.map_eq_some_iff] at hsh
    obtain ⟨se, _, rfl⟩ := hsh
    obtain ⟨cs, rfl, _⟩ := okWide_struct hu hval
    exact ⟨cs.toList, by simp, h1⟩
  · rename_i m e hu
    rw [Option.ite_none_right_eq_some] at hsh
    obtain ⟨_, hsh⟩ := hsh
    simp only [Option.map_eq_some_iff] at hsh
    obtain ⟨se, _, rfl⟩ := hsh
    have : ∃ cs, v = .agg cs ∧ cs.size = P.cellsOf t := by
      simp only [Value.okWide, hu] at hval
      obtain ⟨cs, h1, h2, _⟩ := hval
      exact ⟨cs, h1, h2⟩
    obtain ⟨cs, rfl, _⟩ := this
    exact ⟨cs.toList, by simp, h1⟩
  · simp at hsh

theorem args_SV {d : Nat} {b0 : Nat} : ∀ {ts : List TypeId} {shs : List Sh} {vs : List Value} {ds : List (DataW Hh)} {ps : List MemPlace}, ts.mapM (shOf P d) = some shs →
    (∀ (j : Nat) t v, ts[j]? = some t → vs[j]? = some v → Value.okWide P W .any b0 t v) → DataW.TrodAll enc P W 0 (fun _ => true) true ts vs ds ps →
    ArgsSV (snap W) shs vs ∧ (∀ v ∈ vs, Closed W.heap.size v) ∧ ds.length = ts.length
  | [], shs, vs, ds, ps, h, _, ht => by
    simp at h; subst h
    cases vs <;> cases ds <;> simp [DataW.TrodAll, ArgsSV] at ht ⊢
  | t :: ts, shs, vs, ds, ps, h, hv, ht => by
    simp only [List.mapM_cons, Option.bind_eq_bind, Option.bind_eq_some_iff, Option.pure_def, Option.some.injEq] at h
    obtain ⟨s, hs, ss, hss, rfl⟩ := h
    cases vs with
    | nil => cases ds <;> simp [DataW.TrodAll] at ht
    | cons v vs =>
      cases ds with
      | nil => simp [DataW.TrodAll] at ht
      | cons x ds =>
        simp only [DataW.TrodAll] at ht
        obtain ⟨p, q, h1, h2, rfl⟩ := ht
        obtain ⟨g1, g2⟩ := arg_SV hs (hv 0 t v rfl rfl) h1
        obtain ⟨g3, g4, g5⟩ := args_SV hss (fun j t v a b => hv (j + 1) t v (by simpa using a) (by simpa using b)) h2
        exact ⟨⟨g1, g3⟩, by simpa using ⟨g2, g4⟩, by simp [g5]⟩

theorem trodAll_stays (hl : laidOutB P = true) {W' : World} {sp : Nat → Bool} : ∀ {ts : List TypeId} {vs : List Value} {ds : List (DataW Hh)} {ps : List MemPlace}, (∀ t ∈ ts, P.readableRec t = true ∧ t < P.types.size) →
    DataW.TrodAll enc P W 0 (fun _ => true) true ts vs ds ps → (∀ x ∈ ps, W.sameAt W' x) → (∀ x ∈ ps, sp x.block = true) → DataW.TrodAll enc P W' 0 sp true ts vs ds ps
  | [], vs, ds, ps, _, ht, _, _ => by cases vs <;> cases ds <;> simp [DataW.TrodAll] at ht ⊢; exact ht
  | t :: ts, vs, ds, ps, hr, ht, hs, hp => by
    cases vs with
    | nil => cases ds <;> simp [DataW.TrodAll] at ht
    | cons v vs =>
      cases ds with
      | nil => simp [DataW.TrodAll] at ht
      | cons x ds =>
        simp only [DataW.TrodAll] at ht ⊢
        obtain ⟨p, q, h1, h2, rfl⟩ := ht
        refine ⟨p, q, ?_, ?_, rfl⟩
        · exact WideElems.Trod_stays hl (hr t (by simp)).1 (hr t (by simp)).2 h1 (fun x hx => hs x (by simp [hx])) (fun x hx => hp x (by simp [hx]))
        · exact trodAll_stays hl (fun t ht => hr t (by simp [ht])) h2 (fun x hx => hs x (by simp [hx])) (fun x hx => hp x (by simp [hx]))
end

/-- A LAW THAT THE ABSTRACT MACHINE FINDS TRUE, AS A ROW'S STEP. -/
theorem law_lifted {C : Checked} {os : Os} {H : Type} {enc : TypeId × Value → H} {f : FuncId} {fn : Func} {s : ChangeSpec} {conds : List PathCond} {tb : TypeId} {shs : List Sh} {d : Nat} {kps : FuncId → Keep} {ext : CallT}
    (own : ownKnob C.prog.godebug = none) (started : os.Started) (noInit : C.prog.inits.idxOf? f = none) (hfn : C.prog.funcs[f]? = some fn)
    (witness : ∃ (w : World) (tape : Tape) (i : Input), w.os = os ∧ (w.forCall tape i).Shaped C.prog ∧ i.vars = [] ∧ Input.okWide C.prog (w.forCall tape i) .any w.heap.size f i ∧
      s.pre6 enc C.prog fn conds false (w.forCall tape i).memory i.args ∧ Assume.holds {} C.prog (lone (Frame.enter C.prog f i.args .normal) [] (w.forCall tape i)))
    (hs : ∀ ds : List (DataW H), ds.length = fn.params.toList.length → s.fn H ds = { results := [.lit (.bool true)], args := ds })
    (hv : s.vars = []) (hres : fn.resultTypes = #[tb]) (htb : C.prog.underlying tb = some .bool)
    (hl : laidOutB C.prog = true) (hread : (fn.params.toList.all fun t => C.prog.readableRec t && decide (t < C.prog.types.size)) = true)
    (hsh : fn.params.toList.mapM (shOf C.prog d) = some shs) (hmix : C.prog.follows .mixedOrders = true) (hglob : C.prog.globals.size = 0) (hbody : fn.body.isNone = false) (hname : (fn.name == "runtime.NumGoroutine") = false) (hext : CallOk C.prog ext)
    (law : ∀ (H : AH) (args : List Value) (Q : Value → AH → Prop), ArgsSV H shs args → (∀ H', Q (.bool true) H') → CallW C.prog kps ext f args H Q) :
    ReturnsInHanded {} C os f .any (s.pre6 enc C.prog fn conds false) (s.post enc C.prog fn false true false false) := by
  refine returnsInHanded_of_change_shaped (C := C) own started noInit hfn witness ?_
  intro W base args ds gs before hval0 hW _ _ _ _
  have hW' := hW
  obtain ⟨p, q, hA, hV, rfl, hfz, hnd⟩ := hW
  rw [hv] at hV
  have hgq : gs = [] ∧ q = [] := by
    cases gs with
    | nil => simpa [DataW.TrodVars] using hV
    | cons g gs => simp [DataW.TrodVars] at hV
  obtain ⟨rfl, rfl⟩ := hgq
  obtain ⟨g1, g2, g3⟩ := args_SV hsh (fun j t v a b => hval0 j t v (by simpa using a) (by simpa using b)) hA
  have hcall := entry (f := f) ⟨fn, hfn, hbody, hname⟩ hmix hext (kps := kps) (args := args) (w := W) (by rw [hglob]; exact Nat.zero_le _) g2 (law (snap W) args.toList _ g1 fun _ => rfl)
  refine hcall.mono ?_
  rintro e W' ⟨rfl, hb⟩
  refine ⟨_, rfl, ?_⟩
  have hsd := hs ds g3
  have hrl : (Value.bool true).resultList fn.resultTypes.size = [.bool true] := by rw [hres]; rfl
  refine post_of_below (pa := p) (pv := []) hW' ?_ ?_ ?_ rfl hb ?_
  · intro b sp hd
    rw [List.append_nil, hsd, hrl, hres]
    exact ⟨[], [], shut_bool htb true, rfl, rfl⟩
  · intro sp hsp
    rw [List.append_nil, hsd]
    refine trodAll_stays hl (fun t ht => ?_) hA (fun x hx => hb.same ?_) (fun x hx => hsp x (by simpa using hx))
    · have := List.all_eq_true.1 hread t ht
      simpa using this
    · exact hW'.lt x (by simpa using hx)
  · intro sp _
    rw [List.append_nil, hsd, hv]
    rfl
  · intro j t r hj hr
    rw [hres] at hj
    rw [hrl] at hr
    cases j with
    | zero =>
      simp at hj hr
      subst hj; subst hr
      exact okWide_bool_mk htb true
    | succ j => simp at hr
end Go.AM
end
