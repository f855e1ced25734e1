/- THE ABSTRACT MACHINE: words with which contracts are proved on the printed functions. -/
import Derived.Test.YtjpdppohflailaaAmLink
set_option linter.all false
namespace Go.AM
section
variable {B : List Value → AH → (List Value → AH → Prop) → Prop} {l : List Value} {H : AH}
/-- A loop: an invariant that falls. -/
theorem LoopL.ind (I : Nat → List Value → AH → Prop)
    (h : ∀ n l H (X : List Value → AH → Prop), (∀ m, m < n → ∀ l' H', I m l' H' → X l' H') → I n l H → B l H X)
    (n : Nat) (h0 : I n l H) : LoopL B l H := by
  intro X hX
  have key : ∀ n l H, I n l H → X l H := by
    intro n
    induction n using Nat.strongRecOn with
    | _ n ih =>
      intro l H hI
      exact hX l H (h n l H X (fun m hm l' H' hI' => ih m hm _ _ hI') hI)
  exact key n _ _ h0
/-- A loop that counts up to n. -/
theorem LoopL.count (n : Nat) (I : Nat → List Value → AH → Prop)
    (h : ∀ i l H (X : List Value → AH → Prop), i ≤ n → (i < n → ∀ l' H', I (i + 1) l' H' → X l' H') → I i l H → B l H X)
    (h0 : I 0 l H) : LoopL B l H := by
  refine LoopL.ind (fun m l H => ∃ i, i ≤ n ∧ m = n - i ∧ I i l H) ?_ n ⟨0, by omega, by omega, h0⟩
  rintro m l H X hX ⟨i, hi, rfl, hI⟩
  exact h i l H X hi (fun hlt l' H' hI' => hX (n - (i + 1)) (by omega) l' H' ⟨i + 1, by omega, rfl, hI'⟩) hI
theorem LoopL.step (h : ∀ X : List Value → AH → Prop, (∀ l H, LoopL B l H → X l H) → B l H X) : LoopL B l H := by
  intro X hX
  exact hX _ _ (h X fun l H hl => hl X hX)
end

/-! Only the head of a step is simplified; what follows is left till it is reached. -/
@[congr] theorem ifB_congr {v v' : Value} {A B : Prop} (h : v = v') : ifB v A B = ifB v' A B := by rw [h]
@[congr] theorem opt_congr {α : Type} {o o' : Option α} {K : α → Prop} (h : o = o') : opt o K = opt o' K := by rw [h]
@[congr] theorem opt2_congr {α β : Type} {o o' : Option (α × β)} {K : α → β → Prop} (h : o = o') : opt2 o K = opt2 o' K := by rw [h]
@[congr] theorem mk_congr {o o' : Option (AObj × (Nat → Value))} {H : AH} {K : Value → AH → Prop} (h : o = o') : AM.mk o H K = AM.mk o' H K := by rw [h]
@[congr] theorem call_congr {E : Sy} {f f' : FuncId} {a a' : List Value} {H H' : AH} {K : Value → AH → Prop} (h1 : f = f') (h2 : a = a') (h3 : H = H') : E.call f a H K = E.call f' a' H' K := by rw [h1, h2, h3]
@[congr] theorem callV_congr {c : CallT} {f f' : Value} {a a' : List Value} {H H' : AH} {K : Value → AH → Prop} (h1 : f = f') (h2 : a = a') (h3 : H = H') : callV c f a H K = callV c f' a' H' K := by rw [h1, h2, h3]
@[congr] theorem gd_congr {v v' : Value} {b : Bool} {m : (Value → AH → Prop) → Prop} {H : AH} {K : Value → AH → Prop} (h : v = v') : gd v b m H K = gd v' b m H K := by rw [h]

/-- So many cells of one kind. -/
def zs (n : Nat) (v : Value) : List Value := List.replicate n v
@[simp] theorem zs_length (n : Nat) (v : Value) : (zs n v).length = n := List.length_replicate
@[simp] theorem zs_drop (n i : Nat) (v : Value) : (zs n v).drop i = zs (n - i) v := List.drop_replicate
@[simp] theorem zs_zero (v : Value) : zs 0 v = [] := rfl
@[simp] theorem zs_plain (n : Nat) (v : Value) (h : plain1 v = true) : (zs n v).all plain1 = true := by
  simp only [zs, List.all_replicate, h]; split <;> rfl
abbrev ptr (b off : Nat) : Value := .pointer (some ⟨b, off, none⟩)
abbrev slc (b off n c : Nat) : Value := .slice (some ⟨b, off, none⟩) n c
abbrev vi (n : Int) : Value := .int .i64 n
abbrev vb (b : Bool) : Value := .bool b
abbrev vs (s : ByteArray) : Value := .string s
abbrev nilS : Value := .slice none 0 0
def u8 (x : BitVec 8) : Value := .int .u8 (x.toNat : Int)
def u16 (x : BitVec 16) : Value := .int .u16 (x.toNat : Int)
def u32 (x : BitVec 32) : Value := .int .u32 (x.toNat : Int)
def u64 (x : BitVec 64) : Value := .int .u64 (x.toNat : Int)

@[simp] theorem nth_0 (v : Value) (l : List Value) : nth (v :: l) 0 = v := rfl
@[simp] theorem nth_s (v : Value) (l : List Value) (n : Nat) : nth (v :: l) (n + 1) = nth l n := rfl
@[simp] theorem nth_1 (a b : Value) (l : List Value) : nth (a :: b :: l) 1 = b := rfl
@[simp] theorem nth_2 (a b c : Value) (l : List Value) : nth (a :: b :: c :: l) 2 = c := rfl
@[simp] theorem nth_3 (a b c d : Value) (l : List Value) : nth (a :: b :: c :: d :: l) 3 = d := rfl
@[simp] theorem nth_4 (a b c d e : Value) (l : List Value) : nth (a :: b :: c :: d :: e :: l) 4 = e := rfl
@[simp] theorem nth_5 (a b c d e f : Value) (l : List Value) : nth (a :: b :: c :: d :: e :: f :: l) 5 = f := rfl
@[simp] theorem nth_6 (a b c d e f g : Value) (l : List Value) : nth (a :: b :: c :: d :: e :: f :: g :: l) 6 = g := rfl
@[simp] theorem nth_7 (a b c d e f g h : Value) (l : List Value) : nth (a :: b :: c :: d :: e :: f :: g :: h :: l) 7 = h := rfl
@[simp] theorem nth_8 (a b c d e f g h i : Value) (l : List Value) : nth (a :: b :: c :: d :: e :: f :: g :: h :: i :: l) 8 = i := rfl
@[simp] theorem nth_9 (a b c d e f g h i j : Value) (l : List Value) : nth (a :: b :: c :: d :: e :: f :: g :: h :: i :: j :: l) 9 = j := rfl
@[simp] theorem nth_10 (a b c d e f g h i j k : Value) (l : List Value) : nth (a :: b :: c :: d :: e :: f :: g :: h :: i :: j :: k :: l) 10 = k := rfl
@[simp] theorem nth_11 (a b c d e f g h i j k m : Value) (l : List Value) : nth (a :: b :: c :: d :: e :: f :: g :: h :: i :: j :: k :: m :: l) 11 = m := rfl
@[simp] theorem nth_12 (a b c d e f g h i j k m n : Value) (l : List Value) : nth (a :: b :: c :: d :: e :: f :: g :: h :: i :: j :: k :: m :: n :: l) 12 = n := rfl
@[simp] theorem nth_13 (a b c d e f g h i j k m n o : Value) (l : List Value) : nth (a :: b :: c :: d :: e :: f :: g :: h :: i :: j :: k :: m :: n :: o :: l) 13 = o := rfl
@[simp] theorem nth_14 (a b c d e f g h i j k m n o p : Value) (l : List Value) : nth (a :: b :: c :: d :: e :: f :: g :: h :: i :: j :: k :: m :: n :: o :: p :: l) 14 = p := rfl
@[simp] theorem nth_15 (a b c d e f g h i j k m n o p q : Value) (l : List Value) : nth (a :: b :: c :: d :: e :: f :: g :: h :: i :: j :: k :: m :: n :: o :: p :: q :: l) 15 = q := rfl
@[simp] theorem nth_16 (a b c d e f g h i j k m n o p q r : Value) (l : List Value) : nth (a :: b :: c :: d :: e :: f :: g :: h :: i :: j :: k :: m :: n :: o :: p :: q :: r :: l) 16 = r := rfl
@[simp] theorem nth_17 (a b c d e f g h i j k m n o p q r s : Value) (l : List Value) : nth (a :: b :: c :: d :: e :: f :: g :: h :: i :: j :: k :: m :: n :: o :: p :: q :: r :: s :: l) 17 = s := rfl
@[simp] theorem nth_18 (a b c d e f g h i j k m n o p q r s t : Value) (l : List Value) : nth (a :: b :: c :: d :: e :: f :: g :: h :: i :: j :: k :: m :: n :: o :: p :: q :: r :: s :: t :: l) 18 = t := rfl
@[simp] theorem nth_19 (a b c d e f g h i j k m n o p q r s t u : Value) (l : List Value) : nth (a :: b :: c :: d :: e :: f :: g :: h :: i :: j :: k :: m :: n :: o :: p :: q :: r :: s :: t :: u :: l) 19 = u := rfl
@[simp] theorem nth_n (a : Value) (l : List Value) (n : Nat) : nth (a :: l) (OfNat.ofNat (n + 1)) = nth l n := rfl

/-- Not told to be by reduction: the kernel would compare what follows, too. -/
theorem nrfl {a b : Prop} (h : a = b) : a = b := Eq.trans h rfl
@[simp] theorem opt_some {α : Type} (x : α) (K : α → Prop) : opt (some x) K = K x := nrfl rfl
@[simp] theorem opt2_some {α β : Type} (x : α) (y : β) (K : α → β → Prop) : opt2 (some (x, y)) K = K x y := nrfl rfl
@[simp] theorem mk_some (o : AObj) (m : Nat → Value) (H : AH) (K : Value → AH → Prop) : AM.mk (some (o, m)) H K = K (m H.next) (H.new o) := nrfl rfl
theorem ifB_bool (b : Bool) (A B : Prop) : ifB (.bool b) A B = if b = true then A else B := by cases b <;> rfl
theorem ifB_dec {p : Prop} [Decidable p] (A B : Prop) : ifB (.bool (decide p)) A B = if p then A else B := by by_cases h : p <;> simp [h, ifB]
theorem ifB_split {p : Prop} [Decidable p] {A B : Prop} (h1 : p → A) (h2 : ¬p → B) : ifB (.bool (decide p)) A B := by rw [ifB_dec]; split <;> simp_all
@[simp] theorem ifB_true (A B : Prop) : ifB (.bool true) A B = A := nrfl rfl
@[simp] theorem ifB_false (A B : Prop) : ifB (.bool false) A B = B := nrfl rfl
@[simp] theorem gd_tt (m : (Value → AH → Prop) → Prop) (H : AH) (K : Value → AH → Prop) : gd (.bool true) true m H K = m K := nrfl rfl
@[simp] theorem gd_tf (m : (Value → AH → Prop) → Prop) (H : AH) (K : Value → AH → Prop) : gd (.bool true) false m H K = K skipV H := nrfl rfl
@[simp] theorem gd_ft (m : (Value → AH → Prop) → Prop) (H : AH) (K : Value → AH → Prop) : gd (.bool false) true m H K = K skipV H := nrfl rfl
@[simp] theorem gd_ff (m : (Value → AH → Prop) → Prop) (H : AH) (K : Value → AH → Prop) : gd (.bool false) false m H K = m K := nrfl rfl
@[simp] theorem gdC_bool (b want : Bool) (c : Prop) : gdC (.bool b) want c = (b = want → c) := by
  cases b <;> cases want <;> simp [gdC, ifB, isSkip]
@[simp] theorem allocW_eq (cs : List Value) (H : AH) (K : Value → AH → Prop) : allocW cs H K = K (ptr H.next 0) (H.new (.cells cs none)) := nrfl rfl
@[simp] theorem mapW_eq (H : AH) (K : Value → AH → Prop) : mapW H K = K (.map (some H.next)) (H.new (.map [] 0 true)) := nrfl rfl
@[simp] theorem mkPtr_eq (b : Nat) : mkPtr b = ptr b 0 := rfl
@[simp] theorem mkSlc_eq (n c b : Nat) : mkSlc n c b = slc b 0 n c := rfl

attribute [simp] AH.next_put AH.next_new AH.get_new_self
@[simp] theorem AH.get_new_lt (H : AH) (o : AObj) {x : Nat} (h : x < H.next) : (H.new o).get x = H.get x := AH.get_new_ne H o (Nat.ne_of_lt h)
@[simp] theorem AH.get_put_s (H : AH) {b : Nat} (o : AObj) (h : b < H.next) : (H.put b o).get b = o := AH.get_put_self H o h

@[simp] theorem addOff_ptr (b o n : Nat) : addOff (ptr b o) n = some (ptr b (o + n)) := by
  simp only [addOff, ptr, Addr.add]
  by_cases h : n = 0
  · subst h; simp
  · simp [h]
@[simp] theorem load1_ptr (b o : Nat) (H : AH) : load1 (ptr b o) H = (H.get b).cell o := by simp [load1]
@[simp] theorem loadN_ptr (n b o : Nat) (H : AH) : loadN n (ptr b o) H = ((H.get b).row o n).map fun l => .agg l.toArray := by simp [loadN]
@[simp] theorem cell_cells (c : List Value) (f : Option Nat) (i : Nat) : (AObj.cells c f).cell i = c[i]? := rfl
@[simp] theorem row_cells (c : List Value) (f : Option Nat) (i n : Nat) : (AObj.cells c f).row i n = if i + n ≤ c.length then some ((c.drop i).take n) else none := rfl
@[simp] theorem boxO_agg (a : Array Value) : boxO (.agg a) = some (.cells a.toList none, mkPtr) := rfl
@[simp] theorem store1_ptr (b o : Nat) (v : Value) (H : AH) : store1 (ptr b o) v H = if plain1 v = true then (match H.get b with
      | .cells c fx => if o < c.length then some (H.put b (.cells (c.set o v) fx)) else none
      | _ => none) else none := by
  simp only [store1, Option.isSome_none, Bool.false_or]
  cases h : plain1 v <;> simp
  cases H.get b <;> rfl
@[simp] theorem storeN_ptr (n b o : Nat) (a : Array Value) (H : AH) : storeN n (ptr b o) (.agg a) H = (match H.get b with
      | .cells c fx => if a.size = n ∧ o + n ≤ c.length ∧ a.toList.all plain1 then some (H.put b (.cells (splice c o a.toList) fx)) else none
      | _ => none) := by
  simp only [storeN, Option.isSome_none, Bool.false_eq_true, if_false]
  cases H.get b <;> rfl
theorem AH.ext' {H H' : AH} (h1 : H.next = H'.next) (h2 : H.raw = H'.raw) : H = H' := by cases H; cases H'; simp_all
@[simp] theorem AH.new_put (H : AH) (o o' : AObj) : (H.new o).put H.next o' = H.new o' := by
  refine AH.ext' (Eq.refl (H.next + 1)) ?_
  funext x
  simp only [AH.put, AH.new]
  split <;> rfl
theorem AH.new_put_eq (H : AH) (o o' : AObj) {b : Nat} (h : b = H.next) : (H.new o).put b o' = H.new o' := by subst h; exact AH.new_put H o o'
theorem AH.new_put_ne (H : AH) (o o' : AObj) {b : Nat} (h : b ≠ H.next) : (H.new o).put b o' = (H.put b o').new o := by
  refine AH.ext' (Eq.refl (H.next + 1)) ?_
  funext x
  simp only [AH.put, AH.new]
  by_cases h1 : x = b
  · subst h1; simp [h]
  · simp [h1]
@[simp] theorem AH.new_put_if (H : AH) (o o' : AObj) (b : Nat) : (H.new o).put b o' = if b = H.next then H.new o' else (H.put b o').new o := by
  by_cases h : b = H.next
  · rw [if_pos h]; exact AH.new_put_eq _ _ _ h
  · rw [if_neg h]; exact AH.new_put_ne _ _ _ h
@[simp] theorem AH.put_put (H : AH) (o o' : AObj) (b : Nat) : (H.put b o).put b o' = H.put b o' := by
  refine AH.ext' (Eq.refl H.next) ?_
  funext x
  simp only [AH.put]
  split <;> rfl
theorem AH.put_get (H : AH) {b : Nat} (h : b < H.next) : H.put b (H.get b) = H := by
  refine AH.ext' (Eq.refl H.next) ?_
  funext x
  simp only [AH.put, AH.get, if_pos h]
  split
  · rename_i e; rw [e]
  · rfl
@[simp] theorem lenSlc_slc (o : Option Addr) (n c : Nat) : lenSlc (.slice o n c) = some (.int .i64 n) := rfl
@[simp] theorem lenStr_str (s : ByteArray) : lenStr (.string s) = some (.int .i64 s.size) := rfl
@[simp] theorem ixSlc_slc (sz b o n c : Nat) (i : Nat) (h : i < n) : ixSlc sz (slc b o n c) (vi i) = some (ptr b (o + i * sz)) := by
  simp only [ixSlc]
  have : (0 : Int) ≤ i ∧ (i : Int) < n := by omega
  rw [if_pos this]
  simp only [Int.toNat_natCast, Addr.add]
  by_cases hz : i * sz = 0
  · simp [hz]
  · simp [hz]
theorem ixSlc_lit (sz b o n c i : Nat) (j : Int) (hj : j = (i : Int)) (h : i < n) : ixSlc sz (slc b o n c) (vi j) = some (ptr b (o + i * sz)) := by
  subst hj; exact ixSlc_slc sz b o n c i h
theorem ixArr_ptr (len sz b o i : Nat) (j : Int) (hj : j = (i : Int)) (h : i < len) : ixArr len sz (ptr b o) (vi j) = some (ptr b (o + i * sz)) := by
  subst hj
  simp only [ixArr]
  have : (0 : Int) ≤ i ∧ (i : Int) < len := by omega
  rw [if_pos this]
  simp only [Int.toNat_natCast, Addr.add]
  by_cases hz : i * sz = 0
  · simp [hz]
  · simp [hz]
@[simp] theorem ixArr_nat (len sz b o i : Nat) (h : i < len) : ixArr len sz (ptr b o) (vi (i : Int)) = some (ptr b (o + i * sz)) := ixArr_ptr len sz b o i _ rfl h
@[simp] theorem ixArr_num (len sz b o i : Nat) (h : i < len) : ixArr len sz (ptr b o) (vi (no_index (OfNat.ofNat i))) = some (ptr b (o + i * sz)) := ixArr_ptr len sz b o i _ rfl h
@[simp] theorem ixSlc_num (sz b o n c i : Nat) (h : i < n) : ixSlc sz (slc b o n c) (vi (no_index (OfNat.ofNat i))) = some (ptr b (o + i * sz)) := ixSlc_slc sz b o n c i h
@[simp] theorem part1_agg (a : Array Value) (i : Nat) : part1 (.agg a) i = a[i]? := rfl
@[simp] theorem partN_agg (a : Array Value) (i n : Nat) : partN (.agg a) i n = some (.agg (a.extract i (i + n))) := rfl
@[simp] theorem ext_tuple (a b : Value) (l : List Value) (i : Nat) : ext (.tuple (a :: b :: l).toArray) i = (a :: b :: l)[i]? := by
  have : isSkip (.tuple (a :: b :: l).toArray) = false := by cases a <;> rfl
  simp [ext, this]
@[simp] theorem ext_bool (b : Bool) (i : Nat) : ext (.tuple #[.bool b]) i = [Value.bool b][i]? := by
  have : isSkip (.tuple #[.bool b]) = false := rfl
  simp [ext, this]
@[simp] theorem gd_skip (want : Bool) (m : (Value → AH → Prop) → Prop) (H : AH) (K : Value → AH → Prop) : gd skipV want m H K = K skipV H := nrfl rfl
@[simp] theorem gdC_skip (want : Bool) (c : Prop) : gdC skipV want c = True := rfl
@[simp] theorem un_not (b : Bool) : un .not (.bool b) = some (.bool !b) := rfl
@[simp] theorem pick_true (x y : Value) : pick (.bool true) x y = some x := rfl
@[simp] theorem pick_false (x y : Value) : pick (.bool false) x y = some y := rfl
@[simp] theorem binBool_eql (a b : Bool) : binBool .eql (.bool a) (.bool b) = some (.bool (a == b)) := rfl
@[simp] theorem binBool_neq (a b : Bool) : binBool .neq (.bool a) (.bool b) = some (.bool !(a == b)) := rfl
theorem convInt_int (k j : IntKind) (n : Int) : convInt k (.int j n) = some (.int k (k.wrap n)) := rfl

section ints
variable (k : IntKind) (a b : Int)
theorem binInt_add : binInt .add (.int k a) (.int k b) = some (.int k (k.wrap (a + b))) := by simp [binInt]
theorem binInt_sub : binInt .sub (.int k a) (.int k b) = some (.int k (k.wrap (a - b))) := by simp [binInt]
theorem binInt_mul : binInt .mul (.int k a) (.int k b) = some (.int k (k.wrap (a * b))) := by simp [binInt]
theorem binInt_and : binInt .and (.int k a) (.int k b) = some (.int k (k.wrap (BitVec.ofInt k.bits a &&& BitVec.ofInt k.bits b).toNat)) := by simp [binInt]
theorem binInt_or : binInt .or (.int k a) (.int k b) = some (.int k (k.wrap (BitVec.ofInt k.bits a ||| BitVec.ofInt k.bits b).toNat)) := by simp [binInt]
theorem binInt_xor : binInt .xor (.int k a) (.int k b) = some (.int k (k.wrap (BitVec.ofInt k.bits a ^^^ BitVec.ofInt k.bits b).toNat)) := by simp [binInt]
theorem binInt_andNot : binInt .andNot (.int k a) (.int k b) = some (.int k (k.wrap (BitVec.ofInt k.bits a &&& ~~~(BitVec.ofInt k.bits b)).toNat)) := by simp [binInt]
theorem binInt_quo (h : b ≠ 0) : binInt .quo (.int k a) (.int k b) = some (.int k (k.wrap (a.tdiv b))) := by simp [binInt, h]
theorem binInt_rem (h : b ≠ 0) : binInt .rem (.int k a) (.int k b) = some (.int k (a.tmod b)) := by simp [binInt, h]
theorem binInt_eql : binInt .eql (.int k a) (.int k b) = some (.bool (decide (a = b))) := by simp [binInt]; rfl
theorem binInt_neq : binInt .neq (.int k a) (.int k b) = some (.bool (decide (a ≠ b))) := by
  simp [binInt]
  by_cases h : a = b <;> simp [h]
theorem binInt_lss : binInt .lss (.int k a) (.int k b) = some (.bool (decide (a < b))) := by simp [binInt]
theorem binInt_leq : binInt .leq (.int k a) (.int k b) = some (.bool (decide (a ≤ b))) := by simp [binInt]
theorem binInt_gtr : binInt .gtr (.int k a) (.int k b) = some (.bool (decide (b < a))) := by simp [binInt]
theorem binInt_geq : binInt .geq (.int k a) (.int k b) = some (.bool (decide (b ≤ a))) := by simp [binInt]
end ints

/-! ### numbers -/
theorem wrap_i64 {n : Int} (h : -9223372036854775808 ≤ n) (h' : n < 9223372036854775808) : IntKind.i64.wrap n = n := by
  simp only [IntKind.wrap, IntKind.bits, IntKind.signed, Bool.true_and]
  split <;> simp at * <;> omega
theorem wrap_u8 (n : Int) : IntKind.u8.wrap n = n % 256 := by simp [IntKind.wrap, IntKind.bits, IntKind.signed]
theorem wrap_u16 (n : Int) : IntKind.u16.wrap n = n % 65536 := by simp [IntKind.wrap, IntKind.bits, IntKind.signed]
theorem wrap_u32 (n : Int) : IntKind.u32.wrap n = n % 4294967296 := by simp [IntKind.wrap, IntKind.bits, IntKind.signed]
theorem wrap_u64 (n : Int) : IntKind.u64.wrap n = n % 18446744073709551616 := by simp [IntKind.wrap, IntKind.bits, IntKind.signed]
theorem i64_add {a b : Int} (h : -9223372036854775808 ≤ a + b) (h' : a + b < 9223372036854775808) : binInt .add (vi a) (vi b) = some (vi (a + b)) := by rw [binInt_add, wrap_i64 h h']
theorem i64_sub {a b : Int} (h : -9223372036854775808 ≤ a - b) (h' : a - b < 9223372036854775808) : binInt .sub (vi a) (vi b) = some (vi (a - b)) := by rw [binInt_sub, wrap_i64 h h']
theorem i64_mul {a b : Int} (h : -9223372036854775808 ≤ a * b) (h' : a * b < 9223372036854775808) : binInt .mul (vi a) (vi b) = some (vi (a * b)) := by rw [binInt_mul, wrap_i64 h h']
/-- One more, counted. -/
theorem i64_inc {i : Nat} (h : i < 2 ^ 62) : binInt .add (vi i) (vi 1) = some (vi ((i + 1 : Nat) : Int)) := by
  rw [i64_add (by omega) (by omega)]; simp

section unsigned
variable {w : Nat}
theorem wrap_bv (k : IntKind) (hk : k.signed = false) (x : BitVec k.bits) : k.wrap (x.toNat : Int) = (x.toNat : Int) := by
  simp only [IntKind.wrap, hk, Bool.false_and, Bool.false_eq_true, if_false]
  have := x.isLt
  apply Int.emod_eq_of_lt
  · omega
  · exact_mod_cast this
theorem wrap_ofInt (k : IntKind) (hk : k.signed = false) (z : Int) : k.wrap z = ((BitVec.ofInt k.bits z).toNat : Int) := by
  simp only [IntKind.wrap, hk, Bool.false_and, Bool.false_eq_true, if_false]
  have hp : ((2 ^ k.bits : Nat) : Int) ≠ 0 := by
    have := Nat.two_pow_pos k.bits
    omega
  rw [BitVec.toNat_ofInt, Int.toNat_of_nonneg (Int.emod_nonneg _ hp)]
  simp
end unsigned
end Go.AM
