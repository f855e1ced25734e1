/- THE ABSTRACT MACHINE: how an abstract heap and the machine's world hang together. -/
import Derived.Test.YtjpdppohflailaaAm
import Derived.Laws.Sem
import Derived.Laws.World
import Derived.Laws.Cells
import Derived.Below
set_option linter.all false
namespace Go.AM
open Go.RowKit (Below)

structure Loc where
  block : Nat
  shift : Nat
  total : Nat
  flex : Option Nat

structure Inj where
  base : Nat
  loc : Nat → Option Loc

def ARel (ρ : Inj) (a a' : Addr) : Prop :=
  (a.block < ρ.base ∧ a' = a) ∨ (ρ.base ≤ a.block ∧ a.spot = none ∧ ∃ l, ρ.loc a.block = some l ∧ a' = ⟨l.block, l.shift + a.off, none⟩)

def CapRel (ρ : Inj) (a : Addr) (c : Nat) (a' : Addr) (c' : Nat) : Prop :=
  c' = c ∨ ∃ l e, ρ.base ≤ a.block ∧ ρ.loc a.block = some l ∧ l.flex = some e ∧ c ≤ c' ∧ a'.off + c' * e ≤ l.total

def SRel (ρ : Inj) (a : Addr) (n c : Nat) (a' : Addr) (c' : Nat) : Prop :=
  (ARel ρ a a' ∧ CapRel ρ a c a' c') ∨
  (n = 0 ∧ c = 0 ∧ ρ.base ≤ a.block ∧ a.spot = none ∧ ∃ l e, ρ.loc a.block = some l ∧ l.flex = some e ∧ a'.block = l.block ∧ a'.spot = none ∧ a'.off + c' * e ≤ l.total) ∨
  (n = 0 ∧ c = 0 ∧ c' = 0 ∧ a' = a)

def BRel (ρ : Inj) (r r' : Nat) : Prop := (r < ρ.base ∧ r' = r) ∨ (ρ.base ≤ r ∧ ∃ l, ρ.loc r = some l ∧ r' = l.block)

inductive VRel (ρ : Inj) : Value → Value → Prop
  | any (v) : VRel ρ (.tuple #[]) v
  | bool (b) : VRel ρ (.bool b) (.bool b)
  | int (k n) : VRel ρ (.int k n) (.int k n)
  | float (k b) : VRel ρ (.float k b) (.float k b)
  | complex (k a b) : VRel ρ (.complex k a b) (.complex k a b)
  | string (s) : VRel ρ (.string s) (.string s)
  | pnil : VRel ρ (.pointer none) (.pointer none)
  | ptr (a a') (h : ARel ρ a a') : VRel ρ (.pointer (some a)) (.pointer (some a'))
  | snil (n c) : VRel ρ (.slice none n c) (.slice none n c)
  | slc (a a' n c c') (h : SRel ρ a n c a' c') : VRel ρ (.slice (some a) n c) (.slice (some a') n c')
  | mnil : VRel ρ (.map none) (.map none)
  | map (r r') (h : BRel ρ r r') : VRel ρ (.map (some r)) (.map (some r'))
  | cnil : VRel ρ (.chan none) (.chan none)
  | func (fn f f' c c') (hf : f.length = f'.length) (h : ∀ (i : Nat) (x y : Value), f[i]? = some x → f'[i]? = some y → VRel ρ x y)
      (hc : c.length = c'.length) (k : ∀ (i : Nat) (x y : Value), c[i]? = some x → c'[i]? = some y → VRel ρ x y) : VRel ρ (.func fn ⟨f⟩ ⟨c⟩) (.func fn ⟨f'⟩ ⟨c'⟩)
  | nilFunc : VRel ρ .nilFunc .nilFunc
  | nilIface : VRel ρ .nilIface .nilIface
  | iface (t v v') (h : VRel ρ v v') : VRel ρ (.iface t v) (.iface t v')
  | agg (l l') (hl : l.length = l'.length) (h : ∀ (i : Nat) (x y : Value), l[i]? = some x → l'[i]? = some y → VRel ρ x y) : VRel ρ (.agg ⟨l⟩) (.agg ⟨l'⟩)
  | tuple (l l') (hl : l.length = l'.length) (h : ∀ (i : Nat) (x y : Value), l[i]? = some x → l'[i]? = some y → VRel ρ x y) : VRel ρ (.tuple ⟨l⟩) (.tuple ⟨l'⟩)
  | skip : VRel ρ (.tuple ⟨[.tuple ⟨[]⟩]⟩) (.tuple ⟨[]⟩)

/-- Lists of values, place by place. -/
def LRel (ρ : Inj) (l l' : List Value) : Prop := l.length = l'.length ∧ ∀ (i : Nat) (x y : Value), l[i]? = some x → l'[i]? = some y → VRel ρ x y

def Inj.le (ρ ρ' : Inj) : Prop := ρ'.base = ρ.base ∧ ∀ b l, ρ.loc b = some l → ρ'.loc b = some l
theorem Inj.le_refl (ρ : Inj) : ρ.le ρ := ⟨rfl, fun _ _ h => h⟩
theorem Inj.le_trans {a b c : Inj} (h : a.le b) (k : b.le c) : a.le c := ⟨k.1.trans h.1, fun x l hx => k.2 x l (h.2 x l hx)⟩

theorem ARel.mono {ρ ρ' : Inj} (h : ρ.le ρ') {a a' : Addr} (r : ARel ρ a a') : ARel ρ' a a' := by
  rcases r with ⟨h1, h2⟩ | ⟨h1, h2, l, h3, h4⟩
  · exact .inl ⟨h.1 ▸ h1, h2⟩
  · exact .inr ⟨h.1 ▸ h1, h2, l, h.2 _ _ h3, h4⟩
theorem CapRel.mono {ρ ρ' : Inj} (h : ρ.le ρ') {a a' : Addr} {c c' : Nat} (r : CapRel ρ a c a' c') : CapRel ρ' a c a' c' := by
  rcases r with h1 | ⟨l, e, h1, h2, h3⟩
  · exact .inl h1
  · exact .inr ⟨l, e, h.1 ▸ h1, h.2 _ _ h2, h3⟩
theorem SRel.mono {ρ ρ' : Inj} (h : ρ.le ρ') {a a' : Addr} {n c c' : Nat} (r : SRel ρ a n c a' c') : SRel ρ' a n c a' c' := by
  rcases r with ⟨h1, h2⟩ | ⟨h1, h2, h3, h4, l, e, h5, h6⟩ | h1
  · exact .inl ⟨h1.mono h, h2.mono h⟩
  · exact .inr (.inl ⟨h1, h2, h.1 ▸ h3, h4, l, e, h.2 _ _ h5, h6⟩)
  · exact .inr (.inr h1)
theorem BRel.mono {ρ ρ' : Inj} (h : ρ.le ρ') {a a' : Nat} (r : BRel ρ a a') : BRel ρ' a a' := by
  rcases r with ⟨h1, h2⟩ | ⟨h1, l, h3, h4⟩
  · exact .inl ⟨h.1 ▸ h1, h2⟩
  · exact .inr ⟨h.1 ▸ h1, l, h.2 _ _ h3, h4⟩
theorem VRel.mono {ρ ρ' : Inj} (h : ρ.le ρ') {v v' : Value} (r : VRel ρ v v') : VRel ρ' v v' := by
  induction r with
  | any v => exact .any v
  | bool b => exact .bool b
  | int k n => exact .int k n
  | float k b => exact .float k b
  | complex k a b => exact .complex k a b
  | string s => exact .string s
  | pnil => exact .pnil
  | ptr a a' r => exact .ptr a a' (r.mono h)
  | snil n c => exact .snil n c
  | slc a a' n c c' r => exact .slc a a' n c c' (r.mono h)
  | mnil => exact .mnil
  | map r r' k => exact .map r r' (k.mono h)
  | cnil => exact .cnil
  | func fn f f' c c' hf _ hc _ ih1 ih2 => exact .func fn f f' c c' hf ih1 hc ih2
  | nilFunc => exact .nilFunc
  | nilIface => exact .nilIface
  | iface t v v' _ ih => exact .iface t v v' ih
  | agg l l' hl _ ih => exact .agg l l' hl ih
  | tuple l l' hl _ ih => exact .tuple l l' hl ih
  | skip => exact .skip
theorem LRel.mono {ρ ρ' : Inj} (h : ρ.le ρ') {l l' : List Value} (r : LRel ρ l l') : LRel ρ' l l' := ⟨r.1, fun i x y hx hy => (r.2 i x y hx hy).mono h⟩

section lists
variable {ρ : Inj} {l l' k k' : List Value} {x y : Value}
theorem LRel.nil : LRel ρ [] [] := ⟨rfl, fun i x y h => by simp at h⟩
theorem LRel.cons (h : VRel ρ x y) (r : LRel ρ l l') : LRel ρ (x :: l) (y :: l') := by
  refine ⟨by simp [r.1], fun i a b ha hb => ?_⟩
  cases i with
  | zero => simp at ha hb; subst ha; subst hb; exact h
  | succ i => simp at ha hb; exact r.2 i a b ha hb
theorem LRel.head (r : LRel ρ (x :: l) (y :: l')) : VRel ρ x y := r.2 0 x y rfl rfl
theorem LRel.tail (r : LRel ρ (x :: l) (y :: l')) : LRel ρ l l' := ⟨by have := r.1; simpa using this, fun i a b ha hb => r.2 (i + 1) a b (by simpa using ha) (by simpa using hb)⟩
theorem LRel.cases_nil {l' : List Value} (r : LRel ρ [] l') : l' = [] := by
  have := r.1; cases l' <;> simp_all
theorem LRel.cases_cons {l' : List Value} (r : LRel ρ (x :: l) l') : ∃ y k, l' = y :: k ∧ VRel ρ x y ∧ LRel ρ l k := by
  cases l' with
  | nil => have := r.1; simp at this
  | cons y k => exact ⟨y, k, rfl, r.head, r.tail⟩
theorem LRel.append (r : LRel ρ l l') (s : LRel ρ k k') : LRel ρ (l ++ k) (l' ++ k') := by
  refine ⟨by simp [r.1, s.1], fun i a b ha hb => ?_⟩
  by_cases hi : i < l.length
  · rw [List.getElem?_append_left hi] at ha
    rw [List.getElem?_append_left (by rw [← r.1]; exact hi)] at hb
    exact r.2 i a b ha hb
  · rw [List.getElem?_append_right (by omega)] at ha
    rw [List.getElem?_append_right (by rw [← r.1]; omega), ← r.1] at hb
    exact s.2 _ a b ha hb
theorem LRel.take (r : LRel ρ l l') (n : Nat) : LRel ρ (l.take n) (l'.take n) := by
  refine ⟨by simp [r.1], fun i a b ha hb => ?_⟩
  rw [List.getElem?_take] at ha hb
  split at ha
  · rename_i h; simp only [h, if_true] at hb; exact r.2 i a b ha hb
  · simp at ha
theorem LRel.drop (r : LRel ρ l l') (n : Nat) : LRel ρ (l.drop n) (l'.drop n) := by
  refine ⟨by simp [r.1], fun i a b ha hb => ?_⟩
  rw [List.getElem?_drop] at ha hb
  exact r.2 _ a b ha hb
theorem LRel.get (r : LRel ρ l l') {i : Nat} (h : l[i]? = some x) : ∃ y, l'[i]? = some y ∧ VRel ρ x y := by
  have hi : i < l.length := by
    rcases Nat.lt_or_ge i l.length with g | g
    · exact g
    · simp [List.getElem?_eq_none g] at h
  have hi' : i < l'.length := r.1 ▸ hi
  exact ⟨l'[i], List.getElem?_eq_getElem hi', r.2 i x _ h (List.getElem?_eq_getElem hi')⟩
theorem LRel.set (r : LRel ρ l l') (i : Nat) (h : VRel ρ x y) : LRel ρ (l.set i x) (l'.set i y) := by
  refine ⟨by simp [r.1], fun j a b ha hb => ?_⟩
  rw [List.getElem?_set] at ha hb
  by_cases hij : i = j
  · subst hij
    simp only [if_true] at ha hb
    split at ha
    · rename_i hl
      rw [if_pos (by rw [← r.1]; exact hl)] at hb
      simp only [Option.some.injEq] at ha hb; subst ha; subst hb; exact h
    · simp at ha
  · simp only [hij, if_false] at ha hb; exact r.2 j a b ha hb
theorem LRel.agg (r : LRel ρ l l') : VRel ρ (.agg ⟨l⟩) (.agg ⟨l'⟩) := .agg l l' r.1 r.2
theorem LRel.tuple (r : LRel ρ l l') : VRel ρ (.tuple ⟨l⟩) (.tuple ⟨l'⟩) := .tuple l l' r.1 r.2
end lists

theorem VRel.agg_inv {ρ : Inj} {cs : Array Value} {v : Value} (h : VRel ρ (.agg cs) v) : ∃ ds : Array Value, v = .agg ds ∧ LRel ρ cs.toList ds.toList := by
  cases h with
  | agg l l' hl h => exact ⟨⟨l'⟩, rfl, hl, h⟩
theorem VRel.cells {ρ : Inj} {v v' : Value} (h : VRel ρ v v') (hu : v ≠ undef) : LRel ρ v.cells.toList v'.cells.toList := by
  cases h with
  | any v => exact absurd rfl hu
  | agg l l' hl h => exact ⟨hl, h⟩
  | tuple l l' hl h => exact LRel.cons (.tuple l l' hl h) LRel.nil
  | skip => exact LRel.cons .skip LRel.nil
  | bool b => exact LRel.cons (.bool b) LRel.nil
  | int k n => exact LRel.cons (.int k n) LRel.nil
  | float k b => exact LRel.cons (.float k b) LRel.nil
  | complex k a b => exact LRel.cons (.complex k a b) LRel.nil
  | string s => exact LRel.cons (.string s) LRel.nil
  | pnil => exact LRel.cons .pnil LRel.nil
  | ptr a a' r => exact LRel.cons (.ptr a a' r) LRel.nil
  | snil n c => exact LRel.cons (.snil n c) LRel.nil
  | slc a a' n c c' r => exact LRel.cons (.slc a a' n c c' r) LRel.nil
  | mnil => exact LRel.cons .mnil LRel.nil
  | map r r' k => exact LRel.cons (.map r r' k) LRel.nil
  | cnil => exact LRel.cons .cnil LRel.nil
  | func fn f f' c c' hf h1 hc h2 => exact LRel.cons (.func fn f f' c c' hf h1 hc h2) LRel.nil
  | nilFunc => exact LRel.cons .nilFunc LRel.nil
  | nilIface => exact LRel.cons .nilIface LRel.nil
  | iface t v v' h => exact LRel.cons (.iface t v v' h) LRel.nil

theorem VRel.plain1 {ρ : Inj} {v v' : Value} (h : VRel ρ v v') (hp : plain1 v = true) : v'.oneCell' = true := by
  cases h <;> first | rfl | simp [AM.plain1] at hp

theorem skip_tuple {ρ : Inj} {v v' : Value} (h : VRel ρ v v') (hs : isSkip v = true) : ∃ a, v' = .tuple a := by
  cases h with
  | any v => simp [isSkip] at hs
  | tuple l l' _ _ => exact ⟨_, rfl⟩
  | skip => exact ⟨_, rfl⟩
  | _ => simp [isSkip] at hs

/-! ### plain values: what holds no address is the same on both sides -/
def flat : Value → Bool
  | .bool _ => true
  | .int _ _ => true
  | .string _ => true
  | _ => false
theorem VRel.flat {ρ : Inj} {v v' : Value} (h : VRel ρ v v') (hf : flat v = true) : v' = v := by
  cases h <;> first | rfl | simp [AM.flat] at hf

/-! ### the worlds -/
def Closed (B : Nat) (v : Value) : Prop := VRel ⟨B, fun _ => none⟩ v v
theorem Closed.rel {ρ : Inj} {v : Value} (h : Closed ρ.base v) : VRel ρ v v :=
  VRel.mono (ρ := ⟨ρ.base, fun _ => none⟩) (ρ' := ρ) ⟨rfl, fun _ _ h => by simp at h⟩ h

def RORel (w0 : World) (b : Nat) : AObj → Prop
  | .ro f => ∀ i v, f i = some v → w0.cell? ⟨b, i, none⟩ = some v ∧ Closed w0.heap.size v
  | .map es cl rw => rw = false ∧ w0.heap[b]? = some (.map es.toArray cl) ∧ ∀ e ∈ es, Closed w0.heap.size e.key ∧ Closed w0.heap.size e.val
  | .dead => True
  | _ => False

structure ERel (ρ : Inj) (es es' : List MapEntry) : Prop where
  len : es.length = es'.length
  at_ : ∀ (i : Nat) (e e' : MapEntry), es[i]? = some e → es'[i]? = some e' → e.born = e'.born ∧ VRel ρ e.key e'.key ∧ VRel ρ e.val e'.val

def ORel (ρ : Inj) (l : Loc) (o : AObj) (obj : Option Obj) : Prop :=
  match o with
  | .cells c fx => fx = l.flex ∧ ∃ C e fr, obj = some (.cells C e fr) ∧ C.size = l.total ∧ l.shift + c.length ≤ l.total ∧
      (∀ i, i < l.total → ¬ (fr.1 ≤ i ∧ i < fr.2)) ∧ ∀ i x, c[i]? = some x → ∃ y, C[l.shift + i]? = some y ∧ VRel ρ x y
  | .map es cl _ => ∃ es', obj = some (.map es' cl) ∧ ERel ρ es es'.toList
  | .siter s pos => l.shift = 0 ∧ obj = some (.stringIter s pos)
  | .miter m since seen last => l.shift = 0 ∧ match m with
    | none => obj = some (.mapIter none since seen.toArray last)
    | some r => ∃ r', BRel ρ r r' ∧ obj = some (.mapIter (some r') since seen.toArray last)
  | .ro _ => False
  | .dead => True

structure R (P : Program) (ρ : Inj) (w0 : World) (H : AH) (w : World) : Prop where
  size : w0.heap.size = ρ.base
  glob : P.globals.size ≤ ρ.base
  nxt : ρ.base ≤ H.next
  below : Below ρ.base w0 w
  ro : ∀ b, b < ρ.base → RORel w0 b (H.get b)
  own : ∀ b l, ρ.loc b = some l → ρ.base ≤ b ∧ b < H.next ∧ ρ.base ≤ l.block ∧ l.block < w.heap.size ∧ ORel ρ l (H.get b) (w.heap[l.block]?)
  inj : ∀ b b' l l', ρ.loc b = some l → ρ.loc b' = some l' → H.get b ≠ .dead → H.get b' ≠ .dead → l.block = l'.block → b = b'

theorem ERel.mono {ρ ρ' : Inj} (h : ρ.le ρ') {es es' : List MapEntry} (r : ERel ρ es es') : ERel ρ' es es' :=
  ⟨r.len, fun i e e' he he' => let ⟨a, b, c⟩ := r.at_ i e e' he he'; ⟨a, b.mono h, c.mono h⟩⟩
theorem ORel.mono {ρ ρ' : Inj} (h : ρ.le ρ') {l : Loc} {o : AObj} {obj : Option Obj} (r : ORel ρ l o obj) : ORel ρ' l o obj := by
  cases o with
  | cells c fx =>
    obtain ⟨h1, C, e, fr, h2, h3, h4, h5, h6⟩ := r
    exact ⟨h1, C, e, fr, h2, h3, h4, h5, fun i x hx => let ⟨y, a, b⟩ := h6 i x hx; ⟨y, a, b.mono h⟩⟩
  | map es cl rw => obtain ⟨es', h1, h2⟩ := r; exact ⟨es', h1, h2.mono h⟩
  | siter s pos => exact r
  | miter m since seen last =>
    cases m with
    | none => exact r
    | some q => obtain ⟨h0, q', h1, h2⟩ := r; exact ⟨h0, q', h1.mono h, h2⟩
  | ro f => exact r.elim
  | dead => trivial

/-- A world whose draws have gone on is the same to the relation. -/
theorem R.drew {P : Program} {ρ : Inj} {w0 w : World} {H : AH} (r : R P ρ w0 H w) : R P ρ w0 H { w with drawn := w.drawn + 1 } :=
  { size := r.size, glob := r.glob, nxt := r.nxt, below := r.below.drew, ro := r.ro, own := r.own, inj := r.inj }

/-- An abstract block that no machine's block stands for yet. -/
theorem R.new {P : Program} {ρ : Inj} {w0 w : World} {H : AH} (r : R P ρ w0 H w) (o : AObj) : R P ρ w0 (H.new o) w where
  size := r.size
  glob := r.glob
  nxt := Nat.le_succ_of_le r.nxt
  below := r.below
  ro b hb := by
    have : b ≠ H.next := by have := r.nxt; omega
    rw [AH.get_new_ne _ _ this]; exact r.ro b hb
  own b l hl := by
    obtain ⟨h1, h2, h3, h4, h5⟩ := r.own b l hl
    refine ⟨h1, Nat.lt_succ_of_lt h2, h3, h4, ?_⟩
    have : b ≠ H.next := by omega
    rw [AH.get_new_ne _ _ this]; exact h5
  inj b b' l l' hl hl' := by
    have h1 : b ≠ H.next := by have := (r.own b l hl).2.1; omega
    have h2 : b' ≠ H.next := by have := (r.own b' l' hl').2.1; omega
    rw [AH.get_new_ne _ _ h1, AH.get_new_ne _ _ h2]; exact r.inj b b' l l' hl hl'

def Inj.put (ρ : Inj) (b : Nat) (l : Loc) : Inj := { base := ρ.base, loc := fun x => if x = b then some l else ρ.loc x }
theorem Inj.le_put {ρ : Inj} {b : Nat} {l : Loc} (h : ρ.loc b = none) : ρ.le (ρ.put b l) :=
  ⟨rfl, fun x k hk => by
    have : x ≠ b := by intro e; subst e; simp [h] at hk
    simp [Inj.put, this, hk]⟩

theorem heap_push {w : World} {o : Obj} {k : Nat} (h : k < w.heap.size) : (w.heap.push o)[k]? = w.heap[k]? := by
  rw [Array.getElem?_push, if_neg (by omega)]

/-- A machine's block is made for an abstract one that has none yet. -/
theorem R.laid {P : Program} {ρ : Inj} {w0 w : World} {H : AH} (r : R P ρ w0 H w) {b : Nat} (hb : ρ.base ≤ b) (hn : b < H.next) (hl : ρ.loc b = none) (l : Loc) (obj : Obj)
    (hlb : l.block = w.heap.size) (ho : ORel ρ l (H.get b) (some obj)) : R P (ρ.put b l) w0 H (w.alloc obj) where
  size := r.size
  glob := r.glob
  nxt := r.nxt
  below := r.below.alloc (show ρ.base ≤ w.heap.size by have := r.below.size; have := r.size; omega) obj
  ro := r.ro
  own b' l' h' := by
    have hle := Inj.le_put (l := l) hl
    have hsz := r.below.size
    by_cases e : b' = b
    · subst e
      simp only [Inj.put, if_true, Option.some.injEq] at h'
      subst h'
      refine ⟨hb, hn, show ρ.base ≤ l.block by have := r.size; omega, by rw [World.size_alloc]; omega, ?_⟩
      have : (w.alloc obj).heap[l.block]? = some obj := by show (w.heap.push obj)[l.block]? = _; rw [hlb]; simp
      rw [this]; exact ho.mono hle
    · simp only [Inj.put, e, if_false] at h'
      obtain ⟨h1, h2, h3, h4, h5⟩ := r.own b' l' h'
      refine ⟨h1, h2, h3, by rw [World.size_alloc]; omega, ?_⟩
      have : (w.alloc obj).heap[l'.block]? = w.heap[l'.block]? := heap_push h4
      rw [this]; exact h5.mono hle
  inj b1 b2 l1 l2 h1 h2 d1 d2 he := by
    by_cases e1 : b1 = b
    · by_cases e2 : b2 = b
      · rw [e1, e2]
      · simp only [Inj.put, e1, if_true, Option.some.injEq] at h1
        simp only [Inj.put, e2, if_false] at h2
        have := (r.own b2 l2 h2).2.2.2.1
        subst h1; omega
    · by_cases e2 : b2 = b
      · simp only [Inj.put, e2, if_true, Option.some.injEq] at h2
        simp only [Inj.put, e1, if_false] at h1
        have := (r.own b1 l1 h1).2.2.2.1
        subst h2; omega
      · simp only [Inj.put, e1, if_false] at h1
        simp only [Inj.put, e2, if_false] at h2
        exact r.inj b1 b2 l1 l2 h1 h2 d1 d2 he

/-- A block is written, on both sides. -/
theorem R.wrote {P : Program} {ρ : Inj} {w0 w : World} {H : AH} (r : R P ρ w0 H w) {b : Nat} {l : Loc} (hl : ρ.loc b = some l) (hd : H.get b ≠ .dead) (o : AObj) (obj : Obj)
    (ho : ORel ρ l o (some obj)) : R P ρ w0 (H.put b o) { w with heap := w.heap.setIfInBounds l.block obj } where
  size := r.size
  glob := r.glob
  nxt := r.nxt
  below := r.below.trans ⟨rfl, rfl, rfl, by simp, fun k hk => by
    have := (r.own b l hl).2.2.1
    rw [Array.getElem?_setIfInBounds_ne (by omega)]⟩
  ro b' hb' := by
    have : b' ≠ b := by have := (r.own b l hl).1; omega
    rw [AH.get_put_ne _ _ this]; exact r.ro b' hb'
  own b' l' h' := by
    obtain ⟨h1, h2, h3, h4, h5⟩ := r.own b' l' h'
    refine ⟨h1, h2, h3, by simpa using h4, ?_⟩
    by_cases e : b' = b
    · subst e
      rw [hl] at h'; simp only [Option.some.injEq] at h'; subst h'
      rw [AH.get_put_self _ _ h2]
      rw [Array.getElem?_setIfInBounds_self_of_lt h4]; exact ho
    · rw [AH.get_put_ne _ _ e]
      by_cases hbl : l'.block = l.block
      · have : H.get b' = .dead := by
          apply Classical.byContradiction
          intro hd'
          exact e (r.inj b' b l' l h' hl hd' hd hbl)
        rw [this]; trivial
      · rw [Array.getElem?_setIfInBounds_ne (fun e => hbl e.symm)]; exact h5
  inj b1 b2 l1 l2 h1 h2 := by
    intro d1 d2 he
    refine r.inj b1 b2 l1 l2 h1 h2 ?_ ?_ he
    · by_cases e : b1 = b
      · rw [e]; exact hd
      · rwa [AH.get_put_ne _ _ e] at d1
    · by_cases e : b2 = b
      · rw [e]; exact hd
      · rwa [AH.get_put_ne _ _ e] at d2

/-- A block is looked at no more. -/
theorem R.killed {P : Program} {ρ : Inj} {w0 w : World} {H : AH} (r : R P ρ w0 H w) {b : Nat} (hb : ρ.base ≤ b) : R P ρ w0 (H.put b .dead) w where
  size := r.size
  glob := r.glob
  nxt := r.nxt
  below := r.below
  ro b' hb' := by
    have : b' ≠ b := by omega
    rw [AH.get_put_ne _ _ this]; exact r.ro b' hb'
  own b' l' h' := by
    obtain ⟨h1, h2, h3, h4, h5⟩ := r.own b' l' h'
    refine ⟨h1, h2, h3, h4, ?_⟩
    by_cases e : b' = b
    · subst e; rw [AH.get_put_self _ _ h2]; trivial
    · rw [AH.get_put_ne _ _ e]; exact h5
  inj b1 b2 l1 l2 h1 h2 := by
    intro d1 d2 he
    by_cases e1 : b1 = b
    · subst e1; rw [AH.get_put_self _ _ (r.own _ _ h1).2.1] at d1; exact absurd rfl d1
    · by_cases e2 : b2 = b
      · subst e2; rw [AH.get_put_self _ _ (r.own _ _ h2).2.1] at d2; exact absurd rfl d2
      · rw [AH.get_put_ne _ _ e1] at d1
        rw [AH.get_put_ne _ _ e2] at d2
        exact r.inj b1 b2 l1 l2 h1 h2 d1 d2 he
end Go.AM
