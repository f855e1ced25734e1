/- THE ABSTRACT MACHINE: structs, arrays and slices that are built, reckoned over lists; a heap that has grown. -/
import Derived.Test.YtjpdppohflailaaAmWords
set_option linter.all false
namespace Go.AM

/-- A value's cells, as a list. -/
def vcells : Value → List Value
  | .agg a => a.toList
  | v => [v]
@[simp] theorem vcells_agg (a : Array Value) : vcells (.agg a) = a.toList := rfl
@[simp] theorem vcells_int (k : IntKind) (n : Int) : vcells (.int k n) = [.int k n] := rfl
@[simp] theorem vcells_bool (b : Bool) : vcells (.bool b) = [.bool b] := rfl
@[simp] theorem vcells_string (b : ByteArray) : vcells (.string b) = [.string b] := rfl
@[simp] theorem vcells_slice (o : Option Addr) (n c : Nat) : vcells (.slice o n c) = [.slice o n c] := rfl
@[simp] theorem vcells_pointer (o : Option Addr) : vcells (.pointer o) = [.pointer o] := rfl
@[simp] theorem vcells_map (o : Option Nat) : vcells (.map o) = [.map o] := rfl
@[simp] theorem vcells_func (g : Fn) (a b : Array Value) : vcells (.func g a b) = [.func g a b] := rfl
@[simp] theorem vcells_nilFunc : vcells .nilFunc = [.nilFunc] := rfl
@[simp] theorem vcells_iface (t : TypeId) (v : Value) : vcells (.iface t v) = [.iface t v] := rfl
@[simp] theorem vcells_nilIface : vcells .nilIface = [.nilIface] := rfl
@[simp] theorem vcells_u8 (x : BitVec 8) : vcells (u8 x) = [u8 x] := rfl
@[simp] theorem vcells_u16 (x : BitVec 16) : vcells (u16 x) = [u16 x] := rfl
@[simp] theorem vcells_u32 (x : BitVec 32) : vcells (u32 x) = [u32 x] := rfl
@[simp] theorem vcells_u64 (x : BitVec 64) : vcells (u64 x) = [u64 x] := rfl
theorem cells_toList (v : Value) : v.cells.toList = vcells v := by cases v <;> rfl

@[simp] theorem defd_agg (a : Array Value) : defd (.agg a) = true := rfl
@[simp] theorem defd_int (k : IntKind) (n : Int) : defd (.int k n) = true := rfl
@[simp] theorem defd_bool (b : Bool) : defd (.bool b) = true := rfl
@[simp] theorem defd_string (b : ByteArray) : defd (.string b) = true := rfl
@[simp] theorem defd_slice (o : Option Addr) (n c : Nat) : defd (.slice o n c) = true := rfl
@[simp] theorem defd_pointer (o : Option Addr) : defd (.pointer o) = true := rfl
@[simp] theorem defd_map (o : Option Nat) : defd (.map o) = true := rfl
@[simp] theorem defd_func (g : Fn) (a b : Array Value) : defd (.func g a b) = true := rfl
@[simp] theorem defd_nilFunc : defd .nilFunc = true := rfl
@[simp] theorem defd_iface (t : TypeId) (v : Value) : defd (.iface t v) = true := rfl
@[simp] theorem defd_nilIface : defd .nilIface = true := rfl
@[simp] theorem plain1_int (k : IntKind) (n : Int) : plain1 (.int k n) = true := rfl
@[simp] theorem plain1_bool (b : Bool) : plain1 (.bool b) = true := rfl
@[simp] theorem plain1_string (b : ByteArray) : plain1 (.string b) = true := rfl
@[simp] theorem plain1_slice (o : Option Addr) (n c : Nat) : plain1 (.slice o n c) = true := rfl
@[simp] theorem plain1_pointer (o : Option Addr) : plain1 (.pointer o) = true := rfl
@[simp] theorem plain1_map (o : Option Nat) : plain1 (.map o) = true := rfl
@[simp] theorem plain1_func (g : Fn) (a b : Array Value) : plain1 (.func g a b) = true := rfl
@[simp] theorem plain1_nilFunc : plain1 .nilFunc = true := rfl
@[simp] theorem plain1_iface (t : TypeId) (v : Value) : plain1 (.iface t v) = true := rfl
@[simp] theorem plain1_nilIface : plain1 .nilIface = true := rfl

/-- Parts laid over zeros. -/
def fillL (place : Nat → Option (Nat × Nat)) (cells : List Value) : List (Nat × Value) → Option (List Value)
  | [] => some cells
  | (i, v) :: rest =>
    match place i with
    | none => none
    | some (off, size) => if (vcells v).length = size ∧ off + size ≤ cells.length then fillL place (splice cells off (vcells v)) rest else none

theorem zipIdx_fold (vs : List Value) : ∀ (off k : Nat) (cells : Array Value), off + k + vs.length ≤ cells.size →
    (vs.zipIdx k).foldl (fun cs (p : Value × Nat) => cs.setIfInBounds (off + p.2) p.1) cells = (splice cells.toList (off + k) vs).toArray := by
  induction vs with
  | nil => intro off k cells h; simp [splice]
  | cons v vs ih =>
    intro off k cells h
    simp only [List.length_cons] at h
    simp only [List.zipIdx_cons, List.foldl_cons]
    rw [ih off (k + 1) _ (by simp; omega)]
    apply Array.toList_inj.1
    simp only [Array.toList_setIfInBounds, splice]
    apply List.ext_getElem?
    intro i
    have hl : off + k < cells.toList.length := by simp; omega
    simp only [List.getElem?_append, List.length_append, List.length_take, List.length_set, List.length_cons]
    by_cases h1 : i < off + k
    · have e1 : i < min (off + (k + 1)) cells.toList.length := by omega
      have e2 : i < min (off + k) cells.toList.length := by omega
      simp [e1, e2, h1, List.getElem?_take, List.getElem?_set, show ¬ (off + k = i) by omega, show i < off + (k+1) by omega, show i < min (off + (k+1)) cells.toList.length + vs.length by omega, show i < min (off + k) cells.toList.length + (vs.length + 1) by omega]
      have e3 : i < cells.size := by omega
      simp [show i < min (off + (k + 1)) cells.size by omega, show i < min (off + k) cells.size by omega, show i < min (off + (k+1)) cells.size + vs.length by omega, show i < min (off + k) cells.size + (vs.length + 1) by omega]
    · by_cases h2 : i = off + k
      · subst h2
        simp [List.getElem?_take, show off + k < cells.size by omega, show off + k < min (off + (k+1)) cells.size by omega, show ¬ off + k < min (off + k) cells.size by omega, show off + k < min (off + (k+1)) cells.size + vs.length by omega, show off + k < min (off + k) cells.size + (vs.length + 1) by omega, show off + k - min (off + k) cells.size = 0 by omega]
      · have e4 : ¬ i < min (off + (k + 1)) cells.size := by omega
        have e5 : ¬ i < min (off + k) cells.size := by omega
        have m1 : min (off + (k + 1)) cells.size = off + k + 1 := by omega
        have m2 : min (off + k) cells.size = off + k := by omega
        simp only [Array.length_toList, m1, m2]
        by_cases h3 : i < off + k + 1 + vs.length
        · simp [h3, show ¬ i < off + k + 1 by omega, show ¬ i < off + k by omega, show i < off + k + (vs.length + 1) by omega]
          rw [show i - (off + k) = (i - (off + k + 1)) + 1 by omega, List.getElem?_cons_succ]
        · simp [h3, show ¬ i < off + k + (vs.length + 1) by omega]
          have : i ≠ off + k := by omega
          rw [show off + (k + 1) + vs.length + (i - (off + k + 1 + vs.length)) = i by omega, show off + k + (vs.length + 1) + (i - (off + k + (vs.length + 1))) = i by omega]
          simp [List.getElem?_set, Ne.symm this]

theorem fill_fillL (place : Nat → Option (Nat × Nat)) : ∀ (parts : List (Nat × Value)) (cells : Array Value), Instr.fill place cells parts = (fillL place cells.toList parts).map (·.toArray) := by
  intro parts
  induction parts with
  | nil => intro cells; simp [Instr.fill, fillL]
  | cons p rest ih =>
    intro cells
    obtain ⟨i, v⟩ := p
    simp only [Instr.fill, fillL]
    cases place i with
    | none => rfl
    | some q =>
      obtain ⟨off, size⟩ := q
      simp only
      have e : v.cells.size = (vcells v).length := by rw [← cells_toList]; simp
      by_cases h : (vcells v).length = size ∧ off + size ≤ cells.toList.length
      · rw [if_pos h]
        have hc : ((v.cells.size ≠ size : Bool) || decide (off + v.cells.size > cells.size)) = false := by
          have h2 := h.2
          simp only [Array.length_toList] at h2
          simp [e, h.1]; omega
        rw [hc]
        simp only [Bool.false_eq_true, if_false]
        rw [ih]
        have hz : (v.cells.zipIdx.foldl (fun cs (c, j) => cs.setIfInBounds (off + j) c) cells) = (splice cells.toList off (vcells v)).toArray := by
          have := zipIdx_fold (vcells v) off 0 cells (by have h2 := h.2; simp only [Array.length_toList] at h2; omega)
          rw [← cells_toList] at this ⊢
          rw [show off + 0 = off from rfl] at this
          rw [← this]
          rw [← Array.foldl_toList, Array.toList_zipIdx]
        rw [hz]
      · rw [if_neg h]
        have hc : ((v.cells.size ≠ size : Bool) || decide (off + v.cells.size > cells.size)) = true := by
          simp only [Array.length_toList] at h
          simp [e]; omega
        rw [hc]; rfl

theorem repl_eq (len size : Nat) (zero : Array Value) (h : zero.size = size) : repl (len * size) zero = (List.replicate len zero.toList).flatten := by
  apply List.ext_getElem?
  intro i
  simp only [repl, Array.toList_map, Array.toList_range, List.getElem?_map]
  by_cases hz : size = 0
  · have : zero.toList = [] := by apply List.eq_nil_of_length_eq_zero; simp [h, hz]
    simp [hz, this]
  by_cases hi : i < len * size
  · rw [List.getElem?_range hi]
    have hm : i % size < zero.size := by rw [h]; exact Nat.mod_lt _ (by omega)
    have key : ∀ (n j : Nat), j < n * size → (List.replicate n zero.toList).flatten[j]? = some (zero[j % size]!) := by
      intro n
      induction n with
      | zero => intro j hj; simp at hj
      | succ n ih =>
        intro j hj
        simp only [List.replicate_succ, List.flatten_cons]
        by_cases hj2 : j < size
        · rw [List.getElem?_append_left (by simp [h]; exact hj2)]
          rw [Nat.mod_eq_of_lt hj2]
          have : j < zero.size := by omega
          simp [this]
        · rw [List.getElem?_append_right (by simp [h]; omega)]
          simp only [Array.length_toList, h]
          rw [Nat.succ_mul] at hj
          rw [ih (j - size) (by omega)]
          rw [Nat.mod_eq_sub_mod (by omega : j ≥ size)]
    rw [key len i hi]
    simp [h]
  · rw [List.getElem?_eq_none (by simp; omega), List.getElem?_eq_none]
    · rfl
    · simp [h, List.length_flatten, List.map_replicate, List.sum_replicate_nat]; omega

@[simp] theorem buildV_eq (places : List (Nat × Nat)) (zero : List Value) (parts : List (Nat × Value)) :
    buildV places zero.toArray parts = if parts.all (fun p => defd p.2) then (fillL (places[·]?) zero parts).map (fun l => .agg l.toArray) else none := by
  unfold buildV
  rw [fill_fillL]
  split <;> simp [Option.map_map, Function.comp_def]
@[simp] theorem buildA_eq (size : Nat) (zero : List Value) (parts : List (Nat × Value)) :
    buildA size zero.toArray parts = if parts.all (fun p => defd p.2) then (fillL (fun i => some (i * size, size)) zero parts).map (fun l => .agg l.toArray) else none := by
  unfold buildA
  rw [fill_fillL]
  split <;> simp [Option.map_map, Function.comp_def]
@[simp] theorem buildS_eq (len size : Nat) (zero : List Value) (parts : List (Nat × Value)) (h : zero.length = size) :
    buildS len size zero.toArray parts = if parts.all (fun p => defd p.2) then (fillL (fun i => some (i * size, size)) (List.replicate len zero).flatten parts).map (fun l => (.cells l none, fun b => slc b 0 len len)) else none := by
  unfold buildS
  rw [fill_fillL, repl_eq len size _ (by simpa using h)]
  split
  · simp [Option.map_map, Function.comp_def]
    rfl
  · rfl
@[simp] theorem fillL_nil (place : Nat → Option (Nat × Nat)) (cells : List Value) : fillL place cells [] = some cells := rfl
@[simp] theorem fillL_cons (place : Nat → Option (Nat × Nat)) (cells : List Value) (i : Nat) (v : Value) (rest : List (Nat × Value)) :
    fillL place cells ((i, v) :: rest) = match place i with
      | none => none
      | some (off, size) => if (vcells v).length = size ∧ off + size ≤ cells.length then fillL place (splice cells off (vcells v)) rest else none := rfl

/-! ### a heap that has grown -/
/-- What was there is there as it was. -/
def Ext (H H' : AH) : Prop := H.next ≤ H'.next ∧ ∀ b, b < H.next → H'.get b = H.get b
@[simp] theorem Ext.refl (H : AH) : Ext H H := ⟨Nat.le_refl _, fun _ _ => rfl⟩
theorem Ext.trans {H H' H'' : AH} (h : Ext H H') (h' : Ext H' H'') : Ext H H'' := ⟨Nat.le_trans h.1 h'.1, fun b hb => (h'.2 b (Nat.lt_of_lt_of_le hb h.1)).trans (h.2 b hb)⟩
@[simp] theorem Ext.new {H H' : AH} (h : Ext H H') (o : AObj) : Ext H (H'.new o) := ⟨Nat.le_succ_of_le h.1, fun b hb => by rw [AH.get_new_lt _ _ (Nat.lt_of_lt_of_le hb h.1)]; exact h.2 b hb⟩
@[simp] theorem Ext.put {H H' : AH} (h : Ext H H') {b : Nat} (hb : H.next ≤ b) (o : AObj) : Ext H (H'.put b o) := ⟨h.1, fun x hx => by rw [AH.get_put_ne _ _ (by omega)]; exact h.2 x hx⟩
theorem Ext.get {H H' : AH} (h : Ext H H') {b : Nat} (hb : b < H.next) : H'.get b = H.get b := h.2 b hb
theorem Ext.cells {H H' : AH} (h : Ext H H') {b : Nat} {c : List Value} {f : Option Nat} (hb : H.get b = .cells c f) : H'.get b = .cells c f := by
  rw [h.2 b (AH.lt_of_get (by rw [hb]; simp)), hb]
theorem Ext.obj {H H' : AH} (h : Ext H H') {b : Nat} {o : AObj} (ho : o ≠ .dead) (hb : H.get b = o) : H'.get b = o := by
  rw [h.2 b (AH.lt_of_get (by rw [hb]; exact ho)), hb]
theorem AH.lt_cells {H : AH} {b : Nat} {c : List Value} {f : Option Nat} (hb : H.get b = .cells c f) : b < H.next := AH.lt_of_get (by rw [hb]; simp)
end Go.AM
