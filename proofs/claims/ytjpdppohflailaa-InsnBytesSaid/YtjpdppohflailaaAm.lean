/- THE ABSTRACT MACHINE: a weakest-precondition evaluator of the model's code over an abstract heap. Definitions alone; XAmSound*.lean prove that what it says holds of the machine. -/
import Derived.Calls
import Derived.Orders
import Derived.Scope
set_option linter.all false
namespace Go.AM

abbrev Env := Nat → Value
/-- A name that weighs: what mentions it is unfolded by the kernel ahead of 'opt' and its kin. -/
@[reducible] def Hi (α : Type) : Type := α

/-- What stands in a block of the abstract heap. -/
inductive AObj where
  | cells (c : List Value) (flex : Option Nat)
  | ro (f : Nat → Option Value)
  | map (es : List MapEntry) (clock : Nat) (rw : Bool)
  | siter (s : ByteArray) (pos : Nat)
  | miter (m : Option Nat) (since : Nat) (seen : List Nat) (last : Nat)
  | dead

structure AH where
  next : Nat
  raw : Nat → AObj

def AH.get (H : AH) (b : Nat) : AObj := if b < H.next then H.raw b else .dead
def AH.put (H : AH) (b : Nat) (o : AObj) : AH := { next := H.next, raw := fun x => if x = b then o else H.raw x }
def AH.new (H : AH) (o : AObj) : AH := { next := H.next + 1, raw := fun x => if x = H.next then o else H.raw x }

theorem AH.next_put (H : AH) (b : Nat) (o : AObj) : (H.put b o).next = H.next := rfl
theorem AH.next_new (H : AH) (o : AObj) : (H.new o).next = H.next + 1 := rfl
theorem AH.get_put (H : AH) (b : Nat) (o : AObj) (x : Nat) : (H.put b o).get x = if x = b ∧ b < H.next then o else H.get x := by
  simp only [AH.get, AH.put]
  by_cases h : x = b
  · subst h
    by_cases k : x < H.next <;> simp [k]
  · simp [h]
theorem AH.get_put_ne (H : AH) {b : Nat} (o : AObj) {x : Nat} (h : x ≠ b) : (H.put b o).get x = H.get x := by
  rw [AH.get_put, if_neg (fun k => h k.1)]
theorem AH.get_put_self (H : AH) {b : Nat} (o : AObj) (h : b < H.next) : (H.put b o).get b = o := by
  rw [AH.get_put, if_pos ⟨rfl, h⟩]
theorem AH.get_new (H : AH) (o : AObj) (x : Nat) : (H.new o).get x = if x = H.next then o else H.get x := by
  simp only [AH.get, AH.new]
  by_cases h : x = H.next
  · subst h; simp
  · have : x < H.next + 1 ↔ x < H.next := by omega
    simp [h, this]
theorem AH.get_new_self (H : AH) (o : AObj) : (H.new o).get H.next = o := by rw [AH.get_new, if_pos rfl]
theorem AH.get_new_ne (H : AH) (o : AObj) {x : Nat} (h : x ≠ H.next) : (H.new o).get x = H.get x := by rw [AH.get_new, if_neg h]
theorem AH.lt_of_get {H : AH} {b : Nat} (h : H.get b ≠ .dead) : b < H.next := by
  apply Classical.byContradiction
  intro k
  exact h (by simp [AH.get, k])

def rowF (f : Nat → Option Value) : Nat → Nat → Option (List Value)
  | _, 0 => some []
  | i, n + 1 => (f i).bind fun v => (rowF f (i + 1) n).map (v :: ·)

def AObj.row (o : AObj) (i n : Nat) : Option (List Value) :=
  match o with
  | .cells c _ => if i + n ≤ c.length then some ((c.drop i).take n) else none
  | .ro f => rowF f i n
  | _ => none

def AObj.cell (o : AObj) (i : Nat) : Option Value :=
  match o with
  | .cells c _ => c[i]?
  | .ro f => f i
  | _ => none

def splice (c : List Value) (i : Nat) (vs : List Value) : List Value := c.take i ++ vs ++ c.drop (i + vs.length)

def upd (T : Env) (d : Nat) (v : Value) : Env := fun n => if n = d then v else T n

def updO (T : Env) (d : Option Nat) (v : Value) : Env :=
  match d with
  | some d => upd T d v
  | none => T

def ev (T : Env) : Operand → Value
  | .tmp t => T t
  | .const v => v
  | .global g => .pointer (some ⟨g, 0, none⟩)
  | .func f => .func (.func f) #[] #[]

/-! ### operations that touch no memory -/
def pick (c a b : Value) : Option Value := match c with | .bool t => some (if t then a else b) | _ => none
def nilCk (x : Value) : Option Value :=
  match x with
  | .pointer (some a) => some (.pointer (some a))
  | .func (.func f) a b => some (.func (.func f) a b)
  | .iface t v => some (.iface t v)
  | _ => none

def binInt (op : BinOp) (x y : Value) : Option Value :=
  match op, x, y with
  | .shl, .int k a, .int _ b => if b < 0 then none else some (.int k (k.wrap (a * 2 ^ (min b.toNat k.bits))))
  | .shr, .int k a, .int _ b => if b < 0 then none else some (.int k (a.fdiv (2 ^ (min b.toNat k.bits))))
  | op, .int k a, .int k' b =>
    if k ≠ k' then none else
    match op with
    | .add => some (.int k (k.wrap (a + b)))
    | .sub => some (.int k (k.wrap (a - b)))
    | .mul => some (.int k (k.wrap (a * b)))
    | .quo => if b = 0 then none else some (.int k (k.wrap (a.tdiv b)))
    | .rem => if b = 0 then none else some (.int k (a.tmod b))
    | .and => some (.int k (k.wrap (BitVec.ofInt k.bits a &&& BitVec.ofInt k.bits b).toNat))
    | .or => some (.int k (k.wrap (BitVec.ofInt k.bits a ||| BitVec.ofInt k.bits b).toNat))
    | .xor => some (.int k (k.wrap (BitVec.ofInt k.bits a ^^^ BitVec.ofInt k.bits b).toNat))
    | .andNot => some (.int k (k.wrap (BitVec.ofInt k.bits a &&& ~~~(BitVec.ofInt k.bits b)).toNat))
    | .eql => some (.bool (a == b))
    | .neq => some (.bool (a != b))
    | .lss => some (.bool (decide (a < b)))
    | .leq => some (.bool (decide (a ≤ b)))
    | .gtr => some (.bool (decide (a > b)))
    | .geq => some (.bool (decide (a ≥ b)))
    | _ => none
  | _, _, _ => none

def binStr (op : BinOp) (x y : Value) : Option Value :=
  match op, x, y with
  | .add, .string a, .string b => if a.size + b.size < 2 ^ 63 then some (.string (a ++ b)) else none
  | .eql, .string a, .string b => some (.bool (a.toList == b.toList))
  | .neq, .string a, .string b => some (.bool !(a.toList == b.toList))
  | .lss, .string a, .string b => some (.bool (Op.bytesLess a.toList b.toList))
  | .leq, .string a, .string b => some (.bool (Op.bytesLess a.toList b.toList || a.toList == b.toList))
  | .gtr, .string a, .string b => some (.bool !(Op.bytesLess a.toList b.toList || a.toList == b.toList))
  | .geq, .string a, .string b => some (.bool !(Op.bytesLess a.toList b.toList))
  | _, _, _ => none

def eqPtr (x y : Value) : Option Bool :=
  match x, y with
  | .pointer none, .pointer b => some b.isNone
  | .pointer (some _), .pointer none => some false
  | _, _ => none
def eqSlc (x y : Value) : Option Bool :=
  match x, y with
  | .slice none _ _, .slice b _ _ => some b.isNone
  | .slice (some _) _ _, .slice none _ _ => some false
  | _, _ => none
def eqMap (x y : Value) : Option Bool :=
  match x, y with
  | .map none, .map b => some b.isNone
  | .map (some _), .map none => some false
  | _, _ => none
def eqFn (x y : Value) : Option Bool :=
  match x, y with
  | .nilFunc, .nilFunc => some true
  | .nilFunc, .func _ _ _ => some false
  | .func _ _ _, .nilFunc => some false
  | _, _ => none

def binNil (f : Value → Value → Option Bool) (op : BinOp) (x y : Value) : Option Value :=
  match op with
  | .eql => (f x y).map .bool
  | .neq => (f x y).map fun b => .bool !b
  | _ => none

def binBool (op : BinOp) (x y : Value) : Option Value :=
  match op, x, y with
  | .eql, .bool a, .bool b => some (.bool (a == b))
  | .neq, .bool a, .bool b => some (.bool !(a == b))
  | _, _, _ => none

/-- Are two values of one plain kind the same? (0: integers, 1: strings, 2: bools.) -/
def sameCell : Nat → Value → Value → Option Bool
  | 0, .int k a, .int k' b => if k = k' then some (a == b) else none
  | 1, .string a, .string b => some (a == b)
  | 2, .bool a, .bool b => some (a == b)
  | _, _, _ => none

def sameCells : List Nat → List Value → List Value → Option Bool
  | [], [], [] => some true
  | k :: ks, x :: xs, y :: ys => (sameCell k x y).bind fun b => (sameCells ks xs ys).map (b && ·)
  | _, _, _ => none

def binAgg (ks : List Nat) (op : BinOp) (x y : Value) : Option Value :=
  match op, x, y with
  | .eql, .agg a, .agg b => (sameCells ks a.toList b.toList).map .bool
  | .neq, .agg a, .agg b => (sameCells ks a.toList b.toList).map fun t => .bool !t
  | _, _, _ => none

def un (op : UnOp) (x : Value) : Option Value :=
  match op, x with
  | .neg, .int k n => some (.int k (k.wrap (0 - n)))
  | .xor, .int k n => some (.int k (k.wrap (BitVec.ofInt k.bits (if k.signed then -1 else k.max) ^^^ BitVec.ofInt k.bits n).toNat))
  | .not, .bool b => some (.bool !b)
  | _, _ => none

def convInt (k : IntKind) (x : Value) : Option Value := match x with | .int _ n => some (.int k (k.wrap n)) | _ => none
def convStr (x : Value) : Option Value := match x with | .string s => some (.string s) | _ => none
def convRune (x : Value) : Option Value := match x with | .int _ n => some (.string (Utf8.encode n)) | _ => none

def addOff (x : Value) (n : Nat) : Option Value := match x with | .pointer (some a) => some (.pointer (some (a.add n))) | _ => none

def ixArr (len size : Nat) (x i : Value) : Option Value :=
  match x, i with
  | .pointer (some a), .int _ i => if 0 ≤ i ∧ i < len then some (.pointer (some (a.add (i.toNat * size)))) else none
  | _, _ => none
def ixSlc (size : Nat) (x i : Value) : Option Value :=
  match x, i with
  | .slice (some a) n _, .int _ i => if 0 ≤ i ∧ i < n then some (.pointer (some (a.add (i.toNat * size)))) else none
  | _, _ => none

/-- A part of a struct's or an array's cells: one cell, or a run of them. -/
def part1 (x : Value) (i : Nat) : Option Value := match x with | .agg cs => cs[i]? | _ => none
def partN (x : Value) (i n : Nat) : Option Value := match x with | .agg cs => some (.agg (cs.extract i (i + n))) | _ => none
def ixAgg1 (len size : Nat) (x i : Value) : Option Value :=
  match i with
  | .int _ i => if 0 ≤ i ∧ i < len then part1 x (i.toNat * size) else none
  | _ => none
def ixAggN (len size : Nat) (x i : Value) : Option Value :=
  match i with
  | .int _ i => if 0 ≤ i ∧ i < len then partN x (i.toNat * size) size else none
  | _ => none
def ixStr (x i : Value) : Option Value :=
  match x, i with
  | .string s, .int _ i => if 0 ≤ i then (s[i.toNat]?).map fun b => .int .u8 b.toNat else none
  | _, _ => none

/-- What stands in the place of an operation that its guard has kept away (the machine has 'undef' there). -/
def skipV : Value := .tuple #[.tuple #[]]
def isSkip : Value → Bool
  | .tuple a => match a.toList with
    | [.tuple b] => b.isEmpty
    | _ => false
  | _ => false
def ext (x : Value) (i : Nat) : Option Value := match isSkip x with
  | true => none
  | false => match x with | .tuple vs => vs[i]? | _ => none

def bnd (x : Option Value) (d hi : Nat) : Option Nat :=
  match x with
  | none => some d
  | some (.int _ i) => if 0 ≤ i ∧ i ≤ hi then some i.toNat else none
  | some _ => none

def slStr (x : Value) (lo hi : Option Value) : Option Value :=
  match x with
  | .string s => (bnd hi s.size s.size).bind fun h => (bnd lo 0 h).bind fun l => some (.string (s.extract l h))
  | _ => none
def slArr (n size : Nat) (x : Value) (lo hi mx : Option Value) : Option Value :=
  match x with
  | .pointer (some a) => if mx.isSome && hi.isNone then none else (bnd mx n n).bind fun m => (bnd hi n m).bind fun h => (bnd lo 0 h).bind fun l =>
      some (.slice (some (if m = l then a else a.add (l * size))) (h - l) (m - l))
  | _ => none
def arrPtr (n : Nat) (x : Value) : Option Value :=
  match x with
  | .slice (some a) len _ => if 0 < n ∧ n ≤ len then some (.pointer (some a)) else none
  | _ => none

def lenStr (x : Value) : Option Value := match x with | .string s => some (.int .i64 s.size) | _ => none
def lenSlc (x : Value) : Option Value := match x with | .slice _ n _ => some (.int .i64 n) | _ => none
def min2 (x y : Value) : Option Value := match x, y with | .int k a, .int k' b => if k = k' then some (.int k (if b < a then b else a)) else none | _, _ => none
def max2 (x y : Value) : Option Value := match x, y with | .int k a, .int k' b => if k = k' then some (.int k (if b > a then b else a)) else none | _, _ => none

/-- A value that is one: no tuple. -/
def defd : Value → Bool
  | .tuple _ => false
  | _ => true
def buildV (places : List (Nat × Nat)) (zero : Array Value) (parts : List (Nat × Value)) : Option Value :=
  if parts.all (fun p => defd p.2) then (Instr.fill (places[·]?) zero parts).map .agg else none
def buildA (size : Nat) (zero : Array Value) (parts : List (Nat × Value)) : Option Value :=
  if parts.all (fun p => defd p.2) then (Instr.fill (fun i => some (i * size, size)) zero parts).map .agg else none

/-! ### operations that look into memory -/
def load1 (p : Value) (H : AH) : Option Value :=
  match p with
  | .pointer (some a) => if a.spot.isSome then none else (H.get a.block).cell a.off
  | _ => none
def loadN (n : Nat) (p : Value) (H : AH) : Option Value :=
  match p with
  | .pointer (some a) => if a.spot.isSome then none else ((H.get a.block).row a.off n).map fun l => .agg l.toArray
  | _ => none
/-- May a slice of elements of this size be cut in this block? -/
def fits (size : Nat) : AObj → Bool
  | .cells _ (some e) => e == size
  | .cells _ none => true
  | .ro _ => true
  | _ => false
def slSlc (size : Nat) (x : Value) (lo hi mx : Option Value) (H : AH) : Option Value :=
  match x with
  | .slice none n c => if mx.isSome && hi.isNone then none else (bnd mx c c).bind fun m => (bnd hi n m).bind fun h => (bnd lo 0 h).bind fun l => some (.slice none (h - l) (m - l))
  | .slice (some a) n c => if mx.isSome && hi.isNone || !(c == 0 || fits size (H.get a.block)) then none else
      (bnd mx c c).bind fun m => (bnd hi n m).bind fun h => (bnd lo 0 h).bind fun l =>
        if h ≤ m then some (.slice (some (if m = l then a else a.add (l * size))) (h - l) (m - l)) else none
  | _ => none
def lenMap (m : Value) (H : AH) : Option Value :=
  match m with
  | .map none => some (.int .i64 0)
  | .map (some r) => match H.get r with | .map es _ _ => some (.int .i64 es.length) | _ => none
  | _ => none
/-- Where a key stands among a map's entries; none: a key of another kind stands there. -/
def findE (kd : Nat) (k : Value) : List MapEntry → Option (Option (Nat × Value))
  | [] => some none
  | e :: es => (sameCell kd k e.key).bind fun
      | true => some (some (0, e.val))
      | false => (findE kd k es).map fun r => r.map fun p => (p.1 + 1, p.2)
def entriesOf (m : Value) (H : AH) : Option (List MapEntry) :=
  match m with
  | .map none => some []
  | .map (some r) => match H.get r with | .map es _ _ => some es | _ => none
  | _ => none
def look (kd : Nat) (zero : Value) (ok : Bool) (m k : Value) (H : AH) : Option Value :=
  (entriesOf m H).bind fun es => (findE kd k es).map fun
    | some (_, v) => if ok then .tuple #[v, .bool true] else v
    | none => if ok then .tuple #[zero, .bool false] else zero
def byteOfV : Value → Option UInt8
  | .int .u8 n => some (UInt8.ofNat n.toNat)
  | _ => none
def strOf (x : Value) (H : AH) : Option Value :=
  match x with
  | .slice none _ _ => some (.string .empty)
  | .slice (some a) n _ => if n = 0 then some (.string .empty) else if a.spot.isSome then none else ((H.get a.block).row a.off n).bind fun l => (l.mapM byteOfV).map fun bs => .string ⟨bs.toArray⟩
  | _ => none

/-! ### operations that make memory: what is made; the value, of the block's number -/
def repl (n : Nat) (zero : Array Value) : List Value := ((Array.range n).map (zero[· % zero.size]!)).toList
def mkPtr (b : Nat) : Value := .pointer (some ⟨b, 0, none⟩)
def mkSlc (n c b : Nat) : Value := .slice (some ⟨b, 0, none⟩) n c
def buildS (len size : Nat) (zero : Array Value) (parts : List (Nat × Value)) : Option (AObj × (Nat → Value)) :=
  if parts.all (fun p => defd p.2) then (Instr.fill (fun i => some (i * size, size)) (repl (len * size) zero).toArray parts).map fun cs => (.cells cs.toList none, mkSlc len len) else none
def boxO (v : Value) : Option (AObj × (Nat → Value)) := if defd v then some (.cells v.cells.toList none, mkPtr) else none
def makeS (size bytes : Nat) (zero : Array Value) (l c : Value) : Option (AObj × (Nat → Value)) :=
  match l, c with
  | .int .i64 l, .int .i64 c => if 0 ≤ l ∧ l ≤ c ∧ c * bytes ≤ 2 ^ 47 ∧ c < 2 ^ 62 then some (.cells (repl (c.toNat * size) zero) none, mkSlc l.toNat c.toNat) else none
  | _, _ => none
def rangeS (x : Value) : Option (AObj × (Nat → Value)) :=
  match x with
  | .string s => some (.siter s 0, mkPtr)
  | _ => none
def rangeM (x : Value) (H : AH) : Option (AObj × (Nat → Value)) :=
  match x with
  | .map none => some (.miter none 0 [] 0, mkPtr)
  | .map (some m) => match H.get m with | .map _ clock _ => some (.miter (some m) clock [] clock, mkPtr) | _ => none
  | _ => none
def bytesO (x : Value) : Option (AObj × (Nat → Value)) :=
  match x with
  | .string s => if s.size < 2 ^ 62 then some (.cells (s.data.toList.map fun b => .int .u8 b.toNat) (some 1), mkSlc s.size s.size) else none
  | _ => none

/-! ### operations that change memory -/
def plain1 : Value → Bool
  | .agg _ => false
  | .tuple _ => false
  | _ => true
def store1 (p v : Value) (H : AH) : Option AH :=
  match p with
  | .pointer (some a) => if a.spot.isSome || !plain1 v then none else match H.get a.block with
      | .cells c fx => if a.off < c.length then some (H.put a.block (.cells (c.set a.off v) fx)) else none
      | _ => none
  | _ => none
def storeN (n : Nat) (p v : Value) (H : AH) : Option AH :=
  match p, v with
  | .pointer (some a), .agg cs => if a.spot.isSome then none else match H.get a.block with
      | .cells c fx => if cs.size = n ∧ a.off + n ≤ c.length ∧ cs.toList.all plain1 then some (H.put a.block (.cells (splice c a.off cs.toList) fx)) else none
      | _ => none
  | _, _ => none
def setMap (kd : Nat) (m k v : Value) (H : AH) : Option AH :=
  match m with
  | .map (some r) => match H.get r with
      | .map es clock true => (findE kd k es).map fun
          | some (i, _) => H.put r (.map (es.modify i fun e => { e with key := k, val := v }) clock true)
          | none => H.put r (.map (es ++ [{ key := k, val := v, born := clock }]) (clock + 1) true)
      | _ => none
  | _ => none
def entryM (kd : Nat) (zero : Value) (m k : Value) (H : AH) : Option (Value × AH) :=
  match m with
  | .map (some r) => match H.get r with
      | .map es clock true => (findE kd k es).map fun
          | some (i, v) => (.tuple #[v, .int .i64 (((es[i]?).map (·.born)).getD 0)], H.put r (.map (es.modify i fun e => { e with key := k }) clock true))
          | none => (.tuple #[zero, .int .i64 clock], H.put r (.map (es ++ [{ key := k, val := zero, born := clock }]) (clock + 1) true))
      | _ => none
  | _ => none
def entrySt (m s v : Value) (H : AH) : Option AH :=
  match m, s with
  | .map (some r), .int _ born => match H.get r with
      | .map es clock true => (es.findIdx? (fun e => (e.born : Int) == born)).map fun i => H.put r (.map (es.modify i fun e => { e with val := v }) clock true)
      | _ => none
  | _, _ => none
def delMap (kd : Nat) (m k : Value) (H : AH) : Option AH :=
  match m with
  | .map none => some H
  | .map (some r) => match H.get r with
      | .map es clock true => (findE kd k es).map fun
          | some (i, _) => H.put r (.map (es.eraseIdx i) clock true)
          | none => H
      | _ => none
  | _ => none

/-- The first so many elements' cells, of a slice or a string. -/
def firstRow (size n : Nat) (x : Value) (H : AH) : Option (List Value) :=
  match x with
  | .slice none _ _ => if n = 0 then some [] else none
  | .slice (some a) _ _ => if a.spot.isSome then none else (H.get a.block).row a.off (n * size)
  | .string s => if size = 1 then some ((s.extract 0 n).data.toList.map fun b => .int .u8 b.toNat) else none
  | _ => none
/-- The same, of what is only read: of none, an empty slice's place is not asked for. -/
def srcRow (size n : Nat) (x : Value) (H : AH) : Option (List Value) :=
  match n, x with
  | 0, .slice (some _) _ _ => some []
  | n, x => firstRow size n x H
def lenO : Value → Option Nat
  | .slice _ n _ => some n
  | .string s => some s.size
  | _ => none

/-- 'append(s, x...)': within what is known of the capacity: in place; else a new block, whose spare room is not known: and the old one, if its spare room wasn't known either, is looked at no more. -/
def app (size bytes : Nat) (s x : Value) (H : AH) : Option (Value × AH) :=
  match s with
  | .slice base n c =>
    (lenO x).bind fun m => (srcRow size m x H).bind fun new =>
    if !(new.all plain1) then none else
    if n + m ≤ c then
      match base with
      | none => if new = [] then some (.slice base (n + m) c, H) else none
      | some a => if a.spot.isSome then none else match H.get a.block with
        | .cells cs fx => if a.off + n * size + new.length ≤ cs.length then some (.slice base (n + m) c, H.put a.block (.cells (splice cs (a.off + n * size) new) fx)) else none
        | .ro _ => if new = [] then some (.slice base (n + m) c, H) else none
        | _ => none
    else
      if 2 ^ 46 < (n + m) * bytes ∨ 2 ^ 62 ≤ n + m ∨ size = 0 ∨ bytes = 0 then none else
      (firstRow size n s H).bind fun old =>
      if !(old.all plain1) then none else
      match base with
      | none => some (mkSlc (n + m) (n + m) H.next, H.new (.cells (old ++ new) (some size)))
      | some a => match H.get a.block with
        | .cells _ none => some (mkSlc (n + m) (n + m) H.next, H.new (.cells (old ++ new) (some size)))
        | .ro _ => some (mkSlc (n + m) (n + m) H.next, H.new (.cells (old ++ new) (some size)))
        | .cells _ (some e) => if e = size then some (mkSlc (n + m) (n + m) H.next, (H.put a.block .dead).new (.cells (old ++ new) (some size))) else none
        | _ => none
  | _ => none

def copyM (size : Nat) (d x : Value) (H : AH) : Option (Value × AH) :=
  match d with
  | .slice base n _ => (lenO x).bind fun m => (srcRow size (Nat.min m n) x H).bind fun new =>
    if !(new.all plain1) then none else
    match base with
    | none => some (.int .i64 (Nat.min m n : Nat), H)
    | some a => if a.spot.isSome then none else match H.get a.block with
        | .cells cs fx => if a.off + new.length ≤ cs.length then some (.int .i64 (Nat.min m n : Nat), H.put a.block (.cells (splice cs a.off new) fx)) else none
        | .ro _ => if new = [] then some (.int .i64 (Nat.min m n : Nat), H) else none
        | _ => none
  | _ => none

/-! ### iterators -/
def nextS (it : Value) (H : AH) : Option (Value × AH) :=
  match it with
  | .pointer (some ⟨r, 0, none⟩) => match H.get r with
      | .siter s pos =>
        if pos < s.size then some (.tuple #[.bool true, .int .i64 pos, .int .i32 (Utf8.decode s pos).1], H.put r (.siter s (pos + (Utf8.decode s pos).2)))
        else some (.tuple #[.bool false], H)
      | _ => none
  | _ => none
def nextM (it : Value) (H : AH) (K : Value → AH → Prop) : Prop :=
  match it with
  | .pointer (some ⟨r, 0, none⟩) => match H.get r with
      | .miter none _ _ _ => K (.tuple #[.bool false]) H
      | .miter (some m) since seen last => match H.get m with
        | .map es clock _ =>
          ¬ (seen ≠ [] ∧ es ≠ [] ∧ es.all (fun e => decide (e.born ≥ last)) = true) ∧
          (∀ e ∈ es, e.born ∉ seen → K (.tuple #[.bool true, e.key, e.val]) (H.put r (.miter (some m) since (seen ++ [e.born]) clock))) ∧
          ((∀ e ∈ es, e.born < since → e.born ∈ seen) → K (.tuple #[.bool false]) H)
        | _ => False
      | _ => False
  | _ => False

/-! ### the evaluator -/
inductive AExit where
  | normal
  | exit (id : Nat)
  | goto (l : Nat)
  | ret

def opt {α : Type} (o : Option α) (K : α → Prop) : Prop :=
  match o with
  | some a => K a
  | none => False

def opt2 {α β : Type} (o : Option (α × β)) (K : α → β → Prop) : Prop :=
  match o with
  | some p => K p.1 p.2
  | none => False

def mk (o : Option (AObj × (Nat → Value))) (H : AH) (K : Value → AH → Prop) : Prop :=
  match o with
  | some p => K (p.2 H.next) (H.new p.1)
  | none => False

def ifB (v : Value) (A B : Prop) : Prop :=
  match v with
  | .bool true => A
  | .bool false => B
  | _ => False

/-- A guarded operation: carried out only where the guard says so. -/
def gd (g : Value) (want : Bool) (m : (Value → AH → Prop) → Prop) (H : AH) (K : Value → AH → Prop) : Prop :=
  match isSkip g with
  | true => K skipV H
  | false => match want with
    | true => ifB g (m K) (K skipV H)
    | false => ifB g (K skipV H) (m K)

/-- What a look that may come late must still say. -/
def gdC (g : Value) (want : Bool) (c : Prop) : Prop :=
  match isSkip g with
  | true => True
  | false => match want with
    | true => ifB g c True
    | false => ifB g True c

def allocW (cs : List Value) (H : AH) (K : Value → AH → Prop) : Prop := K (mkPtr H.next) (H.new (.cells cs none))
def mapW (H : AH) (K : Value → AH → Prop) : Prop := K (.map (some H.next)) (H.new (.map [] 0 true))

def aggO (P : Program) (t : TypeId) : Option Bool :=
  match P.underlying t with
  | some (.struct _) => some true
  | some (.array _ _) => some true
  | some _ => some false
  | none => none
def sizeO (P : Program) (t : TypeId) : Option Nat := (P.info? t).map (·.size)
def bytesO' (P : Program) (t : TypeId) : Option Nat := (P.info? t).map (·.bytes)

def kindO (P : Program) (t : TypeId) : Option Nat :=
  match P.underlying t with
  | some (.int _) => some 0
  | some .string => some 1
  | some .bool => some 2
  | _ => none
/-- The kinds of a type's cells, where all that it holds are integers, bools and strings, one behind the other. -/
def flatFs (f : TypeId → Option (List Nat)) : List Field → List Nat → Option (List Nat)
  | [], n => some n
  | x :: l, n => if x.name ≠ "_" ∧ x.offset = n.length then (f x.type).bind fun m => flatFs f l (n ++ m) else none
def flatN (P : Program) : Nat → TypeId → Option (List Nat)
  | 0, _ => none
  | d + 1, t =>
    match P.underlying t with
    | some (.int _) => match sizeO P t with | some 1 => some [0] | _ => none
    | some .string => match sizeO P t with | some 1 => some [1] | _ => none
    | some .bool => match sizeO P t with | some 1 => some [2] | _ => none
    | some (.struct fs) => match P.stoodInHeld t, sizeO P t, flatFs (flatN P d) fs.toList [] with
      | false, some s, some n => match s == n.length with | true => some n | false => none
      | _, _, _ => none
    | some (.array k e) => match sizeO P t, flatN P d e with
      | some q, some n => match q == k * n.length with | true => some (List.replicate k n).flatten | false => none
      | _, _ => none
    | _ => none

def zeroOf (P : Program) (t : TypeId) : Option Value := (P.info? t).bind (·.zero)

def foldGo (f : Value → Value → Option Value) (x : Value) : List Value → Option Value
  | [] => some x
  | y :: l => (f x y).bind fun z => foldGo f z l
def fold2 (f : Value → Value → Option Value) : List Value → Option Value
  | [] => none
  | x :: l => foldGo f x l

def evCallP (P : Program) (T : Env) (c : Call) : Option Value :=
  match c.callee with
  | .builtin .len =>
    match (c.argTypes[0]?).bind P.underlying, c.args[0]? with
    | some .string, some x => lenStr (ev T x)
    | some (.slice _), some x => lenSlc (ev T x)
    | some (.array n _), some _ => some (.int .i64 n)
    | _, _ => none
  | .builtin .min => fold2 min2 (c.args.toList.map (ev T))
  | .builtin .max => fold2 max2 (c.args.toList.map (ev T))
  | _ => none

def evP (P : Program) (T : Env) : Op → Option Value
  | .pick c a b => pick (ev T c) (ev T a) (ev T b)
  | .nilCheck x => nilCk (ev T x)
  | .binOp op t x y _ =>
    match P.underlying t with
    | some (.int _) => binInt op (ev T x) (ev T y)
    | some .string => binStr op (ev T x) (ev T y)
    | some .bool => binBool op (ev T x) (ev T y)
    | some (.pointer _) => binNil eqPtr op (ev T x) (ev T y)
    | some (.slice _) => binNil eqSlc op (ev T x) (ev T y)
    | some (.map _ _) => binNil eqMap op (ev T x) (ev T y)
    | some (.func _ _ _) => binNil eqFn op (ev T x) (ev T y)
    | some (.struct _) => match flatN P 20 t, P.eqGuardType P.depth t with
      | some n, false => binAgg n op (ev T x) (ev T y)
      | _, _ => none
    | some (.array _ _) => match flatN P 20 t, P.eqGuardType P.depth t with
      | some n, false => binAgg n op (ev T x) (ev T y)
      | _, _ => none
    | _ => none
  | .unOp op _ x => un op (ev T x)
  | .convert s d x =>
    match P.underlying s, P.underlying d with
    | some (.int _), some (.int k) => convInt k (ev T x)
    | some (.int _), some .string => convRune (ev T x)
    | some .string, some .string => convStr (ev T x)
    | _, _ => none
  | .fieldAddr s x f =>
    match P.underlying s with
    | some (.struct fs) => match fs[f]? with
      | some fd => match sizeO P fd.type with
        | some (_ + 1) => addOff (ev T x) fd.offset
        | _ => none
      | none => none
    | _ => none
  | .field t x f =>
    match P.underlying t with
    | some (.struct fs) => match fs[f]? with
      | some fd => match aggO P fd.type, sizeO P fd.type with
        | some true, some n => partN (ev T x) fd.offset n
        | some false, some _ => part1 (ev T x) fd.offset
        | _, _ => none
      | none => none
    | _ => none
  | .indexAddr t x i =>
    match P.underlying t with
    | some (.array n e) => match sizeO P e with
      | some s => ixArr n s (ev T x) (ev T i)
      | none => none
    | some (.slice e) => match sizeO P e with
      | some s => ixSlc s (ev T x) (ev T i)
      | none => none
    | _ => none
  | .index t x i =>
    match P.underlying t with
    | some (.array n e) => match aggO P e, sizeO P e with
      | some true, some s => ixAggN n s (ev T x) (ev T i)
      | some false, some s => ixAgg1 n s (ev T x) (ev T i)
      | _, _ => none
    | some .string => ixStr (ev T x) (ev T i)
    | _ => none
  | .extract t i => ext (ev T t) i
  | .slice t x lo hi mx =>
    match P.underlying t with
    | some .string => match mx with
      | none => slStr (ev T x) (lo.map (ev T)) (hi.map (ev T))
      | some _ => none
    | some (.array n e) => match sizeO P e with
      | some s => slArr n s (ev T x) (lo.map (ev T)) (hi.map (ev T)) (mx.map (ev T))
      | none => none
    | _ => none
  | .sliceToArrayPointer d x =>
    match P.underlying d with
    | some (.array n _) => arrPtr n (ev T x)
    | _ => none
  | .makeInterface t x =>
    match P.underlying t with
    | some (.interface _) => none
    | some _ => some (.iface t (ev T x))
    | none => none
  | .makeFunc (.func g) f c => some (.func (.func g) (f.toList.map (ev T)).toArray (c.toList.map (ev T)).toArray)
  | .build t parts =>
    match P.underlying t, zeroOf P t with
    | some (.struct fs), some z => match fs.toList.mapM (fun f => (sizeO P f.type).map fun s => (f.offset, s)) with
      | some places => buildV places z.cells (parts.toList.map fun p => (p.1, ev T p.2))
      | none => none
    | some (.array _ e), some z => match sizeO P e with
      | some s => buildA s z.cells (parts.toList.map fun p => (p.1, ev T p.2))
      | none => none
    | _, _ => none
  | .call c => evCallP P T c
  | _ => none

def evR (P : Program) (T : Env) (op : Op) (H : AH) : Option Value :=
  match op with
  | .load t a =>
    match aggO P t, sizeO P t with
    | some true, some n => loadN n (ev T a) H
    | some false, some _ => load1 (ev T a) H
    | _, _ => none
  | .lookup t m k ok =>
    match P.underlying t with
    | some (.map kt e) => match zeroOf P e, kindO P kt with
      | some z, some kd => look kd z ok (ev T m) (ev T k) H
      | _, _ => none
    | _ => none
  | .convert s d x =>
    match P.underlying s, P.underlying d with
    | some (.slice e), some .string => match P.underlying e with
      | some (.int .u8) => strOf (ev T x) H
      | _ => none
    | _, _ => none
  | .slice t x lo hi mx =>
    match P.underlying t with
    | some (.slice e) => match sizeO P e with
      | some s => slSlc s (ev T x) (lo.map (ev T)) (hi.map (ev T)) (mx.map (ev T)) H
      | none => none
    | _ => none
  | .call c => match c.callee, (c.argTypes[0]?).bind P.underlying, c.args[0]? with
    | .builtin .len, some (.map _ _), some x => lenMap (ev T x) H
    | _, _, _ => none
  | _ => none

def evA (P : Program) (T : Env) (op : Op) : Option (AObj × (Nat → Value)) :=
  match op with
  | .alloc t => match zeroOf P t with
    | some z => some (.cells z.cells.toList none, mkPtr)
    | none => none
  | .box _ x => boxO (ev T x)
  | .buildSlice t len parts =>
    match P.underlying t with
    | some (.slice e) => match zeroOf P e, sizeO P e with
      | some z, some s => match decide (len * s ≤ 2 ^ 24) with
        | true => buildS len s z.cells (parts.toList.map fun p => (p.1, ev T p.2))
        | false => none
      | _, _ => none
    | _ => none
  | .makeMap t none => match P.underlying t with
    | some (.map _ _) => some (.map [] 0 true, fun b => .map (some b))
    | _ => none
  | .makeMap t (some x) => match P.underlying t, ev T x with
    | some (.map _ _), .int _ _ => some (.map [] 0 true, fun b => .map (some b))
    | _, _ => none
  | .makeSlice t l c =>
    match P.underlying t with
    | some (.slice e) => match zeroOf P e, sizeO P e, bytesO' P e with
      | some z, some s, some b => makeS s b z.cells (ev T l) (ev T c)
      | _, _, _ => none
    | _ => none
  | .convert s d x => match P.underlying s, P.underlying d with
    | some .string, some (.slice e) => match P.underlying e with
      | some (.int .u8) => bytesO (ev T x)
      | _ => none
    | _, _ => none
  | _ => none

/-- What the printed functions are over: who answers calls; the numbers that functions and types have. -/
abbrev CallT := FuncId → List Value → AH → (Value → AH → Prop) → Prop

def callV (call : CallT) (f : Value) (args : List Value) (H : AH) (K : Value → AH → Prop) : Prop :=
  match f with
  | .func (.func g) first cap => call g (first.toList ++ args ++ cap.toList) H K
  | _ => False

def evCallM (P : Program) (call : CallT) (T : Env) (c : Call) (H : AH) (K : Value → AH → Prop) : Prop :=
  match c.callee with
  | .value (.func g) => call g (c.args.toList.map (ev T)) H K
  | .value f => callV call (ev T f) (c.args.toList.map (ev T)) H K
  | .builtin .append =>
    match c.args[0]?, c.args[1]?, (c.argTypes[0]?).bind P.underlying, (c.argTypes[1]?).bind P.underlying with
    | some s, some x, some (.slice e), some (.slice _) => match sizeO P e, bytesO' P e, zeroOf P e with
      | some z, some b, some zv => match zv.cells.size == z with
        | true => opt2 (app z b (ev T s) (ev T x) H) K
        | false => False
      | _, _, _ => False
    | some s, some x, some (.slice e), some .string => match sizeO P e, bytesO' P e, zeroOf P e with
      | some z, some b, some zv => match zv.cells.size == z with
        | true => opt2 (app z b (ev T s) (ev T x) H) K
        | false => False
      | _, _, _ => False
    | _, _, _, _ => False
  | .builtin .copy =>
    match c.args[0]?, c.args[1]?, (c.argTypes[0]?).bind P.underlying with
    | some d, some x, some (.slice e) => match sizeO P e with
      | some z => opt2 (copyM z (ev T d) (ev T x) H) K
      | none => False
    | _, _, _ => False
  | .builtin .delete =>
    match c.args[0]?, c.args[1]?, (c.argTypes[0]?).bind P.underlying with
    | some m, some k, some (.map kt _) => match kindO P kt with
      | some kd => opt (delMap kd (ev T m) (ev T k) H) (fun H' => K (.tuple #[]) H')
      | none => False
    | _, _, _ => False
  | _ => False

def evM (P : Program) (call : CallT) (T : Env) (op : Op) (H : AH) (K : Value → AH → Prop) : Prop :=
  match op with
  | .store t a v =>
    match aggO P t, sizeO P t with
    | some true, some n => opt (storeN n (ev T a) (ev T v) H) (K undef)
    | some false, some 1 => opt (store1 (ev T a) (ev T v) H) (K undef)
    | _, _ => False
  | .mapUpdate t m k v => match P.underlying t with
    | some (.map kt _) => match kindO P kt with
      | some kd => opt (setMap kd (ev T m) (ev T k) (ev T v) H) (K undef)
      | none => False
    | _ => False
  | .insert t m k v => match P.underlying t with
    | some (.map kt _) => match kindO P kt with
      | some kd => opt (setMap kd (ev T m) (ev T k) (ev T v) H) (K undef)
      | none => False
    | _ => False
  | .mapEntry t m k => match P.underlying t with
    | some (.map kt e) => match kindO P kt, zeroOf P e with
      | some kd, some z => opt2 (entryM kd z (ev T m) (ev T k) H) K
      | _, _ => False
    | _ => False
  | .entryStore _ m s v => opt (entrySt (ev T m) (ev T s) (ev T v) H) (K undef)
  | .range t x => match P.underlying t with
    | some .string => mk (rangeS (ev T x)) H K
    | _ => False
  | .next it true => opt2 (nextS (ev T it) H) K
  | .call c => evCallM P call T c H K
  | _ => False

inductive Cls where
  | P | R | A | M
  deriving DecidableEq

def cls (P : Program) : Op → Cls
  | .load _ _ => .R
  | .lookup _ _ _ _ => .R
  | .entry _ => .R
  | .slice t _ _ _ _ => match P.underlying t with
    | some (.slice _) => .R
    | _ => .P
  | .alloc _ => .A
  | .box _ _ => .A
  | .buildSlice _ _ _ => .A
  | .makeMap _ _ => .A
  | .makeSlice _ _ _ => .A
  | .range _ _ => .M
  | .convert s d _ =>
    match P.underlying s, P.underlying d with
    | some (.slice _), some .string => .R
    | some .string, some (.slice _) => .A
    | _, _ => .P
  | .store _ _ _ => .M
  | .mapUpdate _ _ _ _ => .M
  | .insert _ _ _ _ => .M
  | .mapEntry _ _ _ => .M
  | .entryStore _ _ _ _ => .M
  | .next _ _ => .M
  | .panic _ => .M
  | .call c =>
    match c.callee with
    | .builtin .len => match (c.argTypes[0]?).bind P.underlying with
      | some (.map _ _) => .R
      | _ => .P
    | .builtin .min => .P
    | .builtin .max => .P
    | _ => .M
  | _ => .P

def moved (T : Env) : Op → Option Value
  | .move x => some (ev T x)
  | .assign x => some (ev T x)
  | _ => none
def runOp (P : Program) (call : CallT) (T : Env) (op : Op) (H : AH) (K : Value → AH → Prop) : Prop :=
  match moved T op with
  | some v => K v H
  | none => match cls P op with
    | .P => opt (evP P T op) (fun v => K v H)
    | .R => opt (evR P T op H) (fun v => K v H)
    | .A => mk (evA P T op) H K
    | .M => evM P call T op H K

/-- What a guard says that keeps an operation away. -/
def skips (g : Value) (want : Bool) : Prop := g = .bool (!want) ∨ isSkip g = true
def gval (ops : List Oper) (T : Env) (j : Nat) : Value :=
  match ops[j]? with
  | some o => match o.dst with
    | some d => T d
    | none => undef
  | none => undef

def stepW (P : Program) (call : CallT) (ops : List Oper) (o : Oper) (T : Env) (H : AH) (K : Env → AH → Prop) : Prop :=
  match o.guard with
  | none => runOp P call T o.op H (fun v H' => K (updO T o.dst v) H')
  | some (j, want) => gd (gval ops T j) want (runOp P call T o.op H) H (fun v H' => K (updO T o.dst v) H')

def evOps (P : Program) (call : CallT) (ops : List Oper) : List Oper → Env → AH → (Env → AH → Prop) → Prop
  | [], T, H, K => K T H
  | o :: l, T, H, K => stepW P call ops o T H (fun T' H' => evOps P call ops l T' H' K)

/-! ### a region that draws its order: carried out in one order, with what must hold so that any other order comes to the same -/
def isM (P : Program) (o : Oper) : Bool := match cls P o.op with | .M => true | _ => false

def optSlot : Operand → List Nat
  | .tmp t => [t]
  | _ => []
def reads (ops : List Oper) (o : Oper) : List Nat :=
  o.op.operands.toList.flatMap optSlot ++ (match o.guard with | some (j, _) => ((ops[j]?).bind (·.dst)).toList | none => [])
def depsOf (o : Oper) : List Nat := (o.after.toList.filter (Region.binds .any ·)).map (·.on)
def maskOf (l : List (Nat × Nat)) (i : Nat) : Nat :=
  match l with
  | [] => 0
  | p :: l => match p.1 == i with | true => p.2 | false => maskOf l i

/-- What has been carried out: its number, its place, what it reads. -/
structure Done where
  ix : Nat
  dst : Option Nat
  rd : List Nat

def sameDst : Option Nat → Option Nat → Bool
  | some a, some b => a == b
  | _, _ => false
def inRd : Option Nat → List Nat → Bool
  | some a, l => l.contains a
  | none, _ => false

/-- What is asked of the order in which a region is carried out ('l': each operation with all that must come ahead of it): it is one of those that may be; one that is no mutator stands behind a mutator only if it must; mutators stand in a row; each writes a place of its own; who reads what another one writes stands in order with it. -/
def drawGo (P : Program) (ops : List Oper) (l0 : List (Nat × Nat)) : List (Nat × Nat) → List Done → Nat → Nat → Bool
  | [], d, done, _ => d.length == ops.length && (List.range ops.length).all (done.testBit ·)
  | (i, B) :: l, d, done, muts =>
    match ops[i]? with
    | none => false
    | some o =>
      !done.testBit i &&
      (depsOf o).all (done.testBit ·) &&
      B == (depsOf o).foldl (fun s e => s ||| 2 ^ e ||| maskOf l0 e) 0 &&
      (muts &&& B) == muts &&
      d.all (fun x => (!sameDst x.dst o.dst) && (B.testBit x.ix || !(inRd x.dst (reads ops o) || inRd o.dst x.rd))) &&
      (match o.op with | .select _ _ => false | _ => true) &&
      drawGo P ops l0 l ({ ix := i, dst := o.dst, rd := reads ops o } :: d) (done ||| 2 ^ i) (match isM P o with | true => muts ||| 2 ^ i | false => muts)
def drawOk (P : Program) (ops : List Oper) (l : List (Nat × Nat)) : Bool := drawGo P ops l l [] 0 0

def pendAll (B : Hi Nat) (H : AH) (R : Prop) : List (Nat × (AH → Prop)) → Prop
  | [] => R
  | (j, c) :: ps => match B.testBit j with
    | true => pendAll B H R ps
    | false => c H ∧ pendAll B H R ps

def gdO (ops : List Oper) (T : Env) (o : Oper) (c : Prop) : Prop :=
  match o.guard with
  | none => c
  | some (j, want) => gdC (gval ops T j) want c

def evDraw (P : Program) (call : CallT) (ops : List Oper) : List (Nat × Nat) → List (Nat × (AH → Prop)) → Env → AH → (Env → AH → Prop) → Prop
  | [], _, T, H, K => K T H
  | (i, B) :: l, ps, T, H, K =>
    match ops[i]? with
    | none => False
    | some o => match cls P o.op with
      | .P => stepW P call ops o T H (fun T' H' => evDraw P call ops l ps T' H' K)
      | .R => stepW P call ops o T H (fun T' H' => evDraw P call ops l ((i, fun Hx => gdO ops T o (evR P T o.op Hx = evR P T o.op H)) :: ps) T' H' K)
      | .A => stepW P call ops o T H (fun T' H' => evDraw P call ops l ((i, fun Hx => gdO ops T o (Hx.get H.next = H'.get H.next)) :: ps) T' H' K)
      | .M => stepW P call ops o T H (fun T' H' => pendAll B H' (evDraw P call ops l ps T' H' K) ps)

/-! ### code -/
def seqK (r : Env → AH → Prop) (K : Hi (AExit → Env → AH → Prop)) : AExit → Env → AH → Prop
  | .normal, T, H => r T H
  | e, T, H => K e T H
def blkK (id : Nat) (K : Hi (AExit → Env → AH → Prop)) : AExit → Env → AH → Prop
  | .exit id', T, H => match id' == id with | true => K .normal T H | false => K (.exit id') T H
  | e, T, H => K e T H
def scopeK (K : Hi (AExit → Env → AH → Prop)) : AExit → Env → AH → Prop
  | .goto _, _, _ => False
  | e, T, H => K e T H

/-- An environment written out. -/
def envL : List (Nat × Value) → Env
  | [] => fun _ => undef
  | p :: l => fun n => if n = p.1 then p.2 else envL l n
/-- What of an environment is kept. -/
def restr (keep : List Nat) (T : Env) : Env := envL (keep.map fun s => (s, T s))

/-- A loop: the least there is. -/
def LoopW (keep : List Nat) (B : Env → AH → (AExit → Env → AH → Prop) → Prop) (T : Env) (H : AH) (K : AExit → Env → AH → Prop) : Prop :=
  ∀ X : Env → AH → Prop, (∀ T H, B T H (seqK (fun T' H' => X (restr keep T') H') K) → X T H) → X (restr keep T) H

def firstReg : Code → Nat
  | .region id _ _ => id
  | .seq a _ => firstReg a
  | .block _ c => firstReg c
  | .scope c => firstReg c
  | _ => 0

/-- Beside the code: what is kept at the head of each region; the order in which a region that draws is carried out. -/
structure Keep where
  keep : Nat → List Nat
  order : Nat → List (Nat × Nat)

def evCode (P : Program) (call : CallT) (kp : Keep) : Code → Env → AH → (AExit → Env → AH → Prop) → Prop
  | .skip, T, H, K => K .normal T H
  | .label _, T, H, K => K .normal T H
  | .exit id, T, H, K => K (.exit id) T H
  | .goto l, T, H, K => K (.goto l) T H
  | .ret, T, H, K => K .ret T H
  | .seq a b, T, H, K => ∃ J : Env → AH → Prop, (∀ T' H', J T' H' → evCode P call kp b T' H' K) ∧ evCode P call kp a T H (seqK J K)
  | .cond c a b, T, H, K => ifB (ev T c) (evCode P call kp a T H K) (evCode P call kp b T H K)
  | .block id c, T, H, K => evCode P call kp c T H (blkK id K)
  | .loop c, T, H, K => LoopW (kp.keep (firstReg c)) (fun T H K => evCode P call kp c T H K) T H K
  | .scope c, T, H, K => evCode P call kp c T H (scopeK K)
  | .region id ops false, T, H, K => evOps P call ops.toList ops.toList (restr (kp.keep id) T) H (fun T' H' => K .normal T' H')
  | .region id ops true, T, H, K =>
    match drawOk P ops.toList (kp.order id) with
    | true => evDraw P call ops.toList (kp.order id) [] (restr (kp.keep id) T) H (fun T' H' => K .normal T' H')
    | false => False
  | _, _, _, _ => False

def resV (P : Program) (T : Env) (H : AH) : ResultVar → Option Value
  | .tmp t => some (T t)
  | .cell a t => match aggO P t, sizeO P t with
    | some true, some n => loadN n (T a) H
    | some false, some _ => load1 (T a) H
    | _, _ => none

def resAll (P : Program) (T : Env) (H : AH) : List ResultVar → (List Value → Prop) → Prop
  | [], K => K []
  | r :: rs, K => opt (resV P T H r) (fun v => resAll P T H rs (fun vs => K (v :: vs)))

def one (vs : List Value) : Value := match vs with | [v] => v | vs => .tuple vs.toArray

def argEnv (args : List Value) : Env := fun n => args.getD n undef

def results (P : Program) (rs : List ResultVar) (T : Env) (H : AH) (Q : Value → AH → Prop) : Prop := resAll P T H rs (fun vs => Q (one vs) H)

def bodyK (P : Program) (rs : List ResultVar) (Q : Value → AH → Prop) : AExit → Env → AH → Prop
  | .normal, T, H => results P rs T H Q
  | .ret, T, H => results P rs T H Q
  | _, _, _ => False

def evBody (P : Program) (call : CallT) (kp : Keep) (fn : Func) (args : List Value) (H : AH) (Q : Value → AH → Prop) : Prop :=
  match fn.body with
  | some c => evCode P call kp c (argEnv args) H (bodyK P fn.results.toList Q)
  | none => False

/-! ### how a printed function is held against the code, piece by piece -/
def cs : List Nat → Code → Code
  | [], c => c
  | i :: p, .seq a b => cs p (if i = 0 then a else b)
  | i :: p, .cond _ a b => cs p (if i = 0 then a else b)
  | _ :: p, .block _ c => cs p c
  | _ :: p, .loop c => cs p c
  | _ :: p, .scope c => cs p c
  | _ :: _, c => c
def bodyOf (f : Func) : Code := f.body.getD .skip

section
variable {P : Program} {call : CallT} {kp : Keep} {T : Env} {H : AH} {K : AExit → Env → AH → Prop} {code : Code}
theorem seq_intro (a b : Code) (hc : code = .seq a b) (J : Env → AH → Prop) (hb : ∀ T' H', J T' H' → evCode P call kp b T' H' K)
    (ha : evCode P call kp a T H (seqK J K)) : evCode P call kp code T H K := by
  subst hc; exact ⟨J, hb, ha⟩
theorem cond_intro (c : Operand) (a b : Code) (hc : code = .cond c a b) {A B : Prop} (h : ifB (ev T c) A B) (ha : A → evCode P call kp a T H K) (hb : B → evCode P call kp b T H K) :
    evCode P call kp code T H K := by
  subst hc
  show ifB _ _ _
  revert h
  unfold ifB
  split
  · exact ha
  · exact hb
  · exact id
theorem block_intro (id : Nat) (c : Code) (hc : code = .block id c) (h : evCode P call kp c T H (blkK id K)) : evCode P call kp code T H K := by
  subst hc; exact h
theorem scope_intro (c : Code) (hc : code = .scope c) (h : evCode P call kp c T H (scopeK K)) : evCode P call kp code T H K := by
  subst hc; exact h
theorem loop_intro (c : Code) (keep : List Nat) (hc : code = .loop c) (hk : kp.keep (firstReg c) = keep) (B : Env → AH → (AExit → Env → AH → Prop) → Prop)
    (hB : ∀ T H K, B T H K → evCode P call kp c T H K) (h : LoopW keep B T H K) : evCode P call kp code T H K := by
  subst hc; subst hk
  intro X hX
  exact h X fun T H hb => hX T H (hB _ _ _ hb)
end

structure Sy where
  call : CallT
  fid : Nat → FuncId
  tid : Nat → TypeId
end Go.AM
