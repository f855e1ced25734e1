/- THE ABSTRACT MACHINE: texts XAmLink, XAmSpec, XAmWords, XAmBuild, XAmRows, XAmStr. -/
import Derived.Test.YtakplbkhbalfoaaAmB
import Derived.Laws.Strings
import Derived.Laws.RangeAny
import Derived.Sort.AssemblyPlain
set_option linter.all false
section
/- THE ABSTRACT MACHINE: code evaluated straight on, with names laid for joins and loops: how a printed function is held against the code, whole. -/
namespace Go.AM

abbrev Cont := AExit → Env → AH → Prop
/-- What each loop that stands around goes on with: the innermost at 0. -/
abbrev Stk := Nat → List Value → AH → Prop
def Stk.shift (S : Stk) : Stk := fun n => S (n + 1)
def Stk.cons (X : List Value → AH → Prop) (S : Stk) : Stk
  | 0 => X
  | n + 1 => S n

def nth : List Value → Nat → Value
  | l, 0 => l.headD undef
  | l, n + 1 => nth l.tail n
def envP : List Nat → List Value → Env
  | [], _ => fun _ => undef
  | k :: ks, l => fun n => if n = k then l.headD undef else envP ks l.tail n

/-- A loop over the values that it keeps: the least there is. -/
def LoopL (B : List Value → AH → (List Value → AH → Prop) → Prop) (l : List Value) (H : AH) : Prop :=
  ∀ X : List Value → AH → Prop, (∀ l H, B l H X → X l H) → X l H

abbrev Plan := List (Nat × (Stk → Env → AH → Prop))
def Plan.get : Plan → Nat → Option (Stk → Env → AH → Prop)
  | [], _ => none
  | a :: l, p => match a.1 == p with | true => some a.2 | false => Plan.get l p

section
variable (P : Program) (call : CallT) (kp : Keep) (pl : Plan)

def evD : Code → Stk → Nat → Env → AH → Cont → Prop
  | .skip, _, _, T, H, K => K .normal T H
  | .label _, _, _, T, H, K => K .normal T H
  | .exit id, _, _, T, H, K => K (.exit id) T H
  | .goto l, _, _, T, H, K => K (.goto l) T H
  | .ret, _, _, T, H, K => K .ret T H
  | .seq a b, S, p, T, H, K => evD a S (2 * p) T H (seqK (match pl.get (2 * p + 1) with | some J => J S | none => fun T' H' => evD b S (2 * p + 1) T' H' K) K)
  | .cond c a b, S, p, T, H, K => ifB (ev T c) (evD a S (2 * p) T H K) (evD b S (2 * p + 1) T H K)
  | .block id c, S, p, T, H, K => evD c S (2 * p) T H (blkK id K)
  | .loop c, S, p, T, H, _ => match pl.get p with
    | some B => LoopL (fun l H X => B (S.cons X) (envP (kp.keep (firstReg c)) l) H) ((kp.keep (firstReg c)).map T) H
    | none => False
  | .scope c, S, p, T, H, K => evD c S (2 * p) T H (scopeK K)
  | .region id ops false, _, _, T, H, K => evOps P call ops.toList ops.toList (restr (kp.keep id) T) H (fun T' H' => K .normal T' H')
  | .region id ops true, _, _, T, H, K =>
    match drawOk P ops.toList (kp.order id) with
    | true => evDraw P call ops.toList (kp.order id) [] (restr (kp.keep id) T) H (fun T' H' => K .normal T' H')
    | false => False
  | _, _, _, _, _, _ => False

def joinK (b : Code) (p : Nat) (Kf : Stk → Cont) : Stk → Cont := fun S => seqK (match pl.get (2 * p + 1) with | some J => J S | none => fun T' H' => evD P call kp pl b S (2 * p + 1) T' H' (Kf S)) (Kf S)
def loopK (ks : List Nat) (Kf : Stk → Cont) : Stk → Cont := fun S => seqK (fun T' H' => S 0 (ks.map T') H') (Kf S.shift)

def obls : Code → Nat → (Stk → Cont) → List ((Stk → Env → AH → Prop) × (Stk → Env → AH → Prop))
  | .seq a b, p, Kf => (match pl.get (2 * p + 1) with | some J => [(J, fun S T H => evD P call kp pl b S (2 * p + 1) T H (Kf S))] | none => []) ++
      (obls a (2 * p) (joinK P call kp pl b p Kf) ++ obls b (2 * p + 1) Kf)
  | .cond _ a b, p, Kf => obls a (2 * p) Kf ++ obls b (2 * p + 1) Kf
  | .block id c, p, Kf => obls c (2 * p) (fun S => blkK id (Kf S))
  | .scope c, p, Kf => obls c (2 * p) (fun S => scopeK (Kf S))
  | .loop c, p, Kf => (match pl.get p with | some B => [(B, fun S T H => evD P call kp pl c S (2 * p) T H (loopK (kp.keep (firstReg c)) Kf S))] | none => []) ++
      obls c (2 * p) (loopK (kp.keep (firstReg c)) Kf)
  | _, _, _ => []
end

section
variable {P : Program} {call : CallT} {kp : Keep} {pl : Plan}

theorem envP_map (T : Env) : ∀ ks : List Nat, envP ks (ks.map T) = restr ks T
  | [] => rfl
  | k :: ks => by
    funext n
    have := congrFun (envP_map T ks) n
    simp only [envP, List.map_cons, List.headD_cons, List.tail_cons, restr, envL] at this ⊢
    by_cases h : n = k
    · subst h; simp
    · simp only [h, if_false]; exact this

theorem evD_sound : ∀ (code : Code) (p : Nat) (Kf : Stk → Cont), (∀ pr ∈ obls P call kp pl code p Kf, pr.1 = pr.2) → ∀ S T H, evD P call kp pl code S p T H (Kf S) → evCode P call kp code T H (Kf S) := by
  intro code
  induction code with
  | seq a b iha ihb =>
    intro p Kf ho S T H h
    simp only [obls, List.mem_append] at ho
    simp only [evCode]
    refine ⟨match pl.get (2 * p + 1) with | some J => J S | none => fun T' H' => evD P call kp pl b S (2 * p + 1) T' H' (Kf S), fun T' H' hj => ?_, ?_⟩
    · apply ihb (2 * p + 1) Kf (fun pr hp => ho pr (.inr (.inr hp)))
      cases hg : pl.get (2 * p + 1) with
      | none => rw [hg] at hj; exact hj
      | some J =>
        rw [hg] at hj
        have := ho (J, fun S T H => evD P call kp pl b S (2 * p + 1) T H (Kf S)) (.inl (by rw [hg]; simp))
        have e := congrFun (congrFun (congrFun this S) T') H'
        simp only at e
        rw [← e]; exact hj
    · exact iha (2 * p) (joinK P call kp pl b p Kf) (fun pr hp => ho pr (.inr (.inl hp))) S T H h
  | cond c a b iha ihb =>
    intro p Kf ho S T H h
    simp only [obls, List.mem_append] at ho
    simp only [evCode]
    simp only [evD] at h
    exact ifB_mono (iha _ _ (fun pr hp => ho pr (.inl hp)) S T H) (ihb _ _ (fun pr hp => ho pr (.inr hp)) S T H) h
  | block id c ih =>
    intro p Kf ho S T H h
    exact ih (2 * p) (fun S => blkK id (Kf S)) ho S T H h
  | scope c ih =>
    intro p Kf ho S T H h
    exact ih (2 * p) (fun S => scopeK (Kf S)) ho S T H h
  | loop c ih =>
    intro p Kf ho S T H h
    simp only [obls, List.mem_append] at ho
    simp only [evD] at h
    simp only [evCode]
    cases hg : pl.get p with
    | none => rw [hg] at h; exact h.elim
    | some B =>
      rw [hg] at h
      simp only at h
      intro X hX
      have hB := ho (B, fun S T H => evD P call kp pl c S (2 * p) T H (loopK (kp.keep (firstReg c)) Kf S)) (.inl (by rw [hg]; simp))
      have := h (fun l H => X (envP (kp.keep (firstReg c)) l) H) (fun l H hb => by
        apply hX
        have e := congrFun (congrFun (congrFun hB (S.cons fun l H => X (envP (kp.keep (firstReg c)) l) H)) (envP (kp.keep (firstReg c)) l)) H
        have := ih (2 * p) (loopK (kp.keep (firstReg c)) Kf) (fun pr hp => ho pr (.inr hp)) _ _ _ (Eq.mp e hb)
        have k : loopK (kp.keep (firstReg c)) Kf (S.cons fun l H => X (envP (kp.keep (firstReg c)) l) H) = seqK (fun T' H' => X (restr (kp.keep (firstReg c)) T') H') (Kf S) := by
          unfold loopK
          have : (fun (T' : Env) (H' : AH) => S.cons (fun l H => X (envP (kp.keep (firstReg c)) l) H) 0 (List.map T' (kp.keep (firstReg c))) H') = fun T' H' => X (restr (kp.keep (firstReg c)) T') H' := by
            funext T' H'; simp only [Stk.cons, envP_map]
          rw [this]; rfl
        rw [k] at this
        exact this)
      rw [envP_map] at this
      exact this
  | region id ops d =>
    intro p Kf ho S T H h
    cases d <;> exact h
  | _ => intro p Kf ho S T H h; exact h

theorem all_of_maps {α : Type} : ∀ {l : List (α × α)}, l.map (·.1) = l.map (·.2) → ∀ p ∈ l, p.1 = p.2
  | [], _ => by simp
  | a :: l, h => by
    simp only [List.map_cons, List.cons.injEq] at h
    intro p hp
    rcases List.mem_cons.1 hp with rfl | hp
    · exact h.1
    · exact all_of_maps h.2 p hp

def nostk : Stk := fun _ _ _ => False

/-- A printed function does what the code does. -/
theorem evBody_of (fn : Func) (args : List Value) (H : AH) (Q : Value → AH → Prop) (code : Code) (hc : fn.body = some code) {G : Prop}
    (ho : (obls P call kp pl code 1 (fun _ => bodyK P fn.results.toList Q)).map (·.1) = (obls P call kp pl code 1 (fun _ => bodyK P fn.results.toList Q)).map (·.2))
    (hg : G = evD P call kp pl code nostk 1 (argEnv args) H (bodyK P fn.results.toList Q)) (h : G) : evBody P call kp fn args H Q := by
  unfold evBody
  rw [hc]
  exact evD_sound code 1 (fun _ => bodyK P fn.results.toList Q) (all_of_maps ho) nostk _ _ (hg ▸ h)
end
end Go.AM
end
section
/- THE ABSTRACT MACHINE: words with which contracts are proved on the printed functions. -/
namespace Go.AM
section
variable {B : List Value → AH → (List Value → AH → Prop) → Prop} {l : List Value} {H : AH}
/-- A loop: an invariant that falls. -/
theorem LoopL.ind (I : Nat → List Value → AH → Prop)
    (h : ∀ n l H (X : List Value → AH → Prop), (∀ m, m < n → ∀ l' H', I m l' H' → X l' H') → I n l H → B l H X)
    (n : Nat) (h0 : I n l H) : LoopL B l H := by
  intro X hX
  have key : ∀ n l H, I n l H → X l H := by
    intro n
    induction n using Nat.strongRecOn with
    | _ n ih =>
      intro l H hI
      exact hX l H (h n l H X (fun m hm l' H' hI' => ih m hm _ _ hI') hI)
  exact key n _ _ h0
/-- A loop that counts up to n. -/
theorem LoopL.count (n : Nat) (I : Nat → List Value → AH → Prop)
    (h : ∀ i l H (X : List Value → AH → Prop), i ≤ n → (i < n → ∀ l' H', I (i + 1) l' H' → X l' H') → I i l H → B l H X)
    (h0 : I 0 l H) : LoopL B l H := by
  refine LoopL.ind (fun m l H => ∃ i, i ≤ n ∧ m = n - i ∧ I i l H) ?_ n ⟨0, by omega, by omega, h0⟩
  rintro m l H X hX ⟨i, hi, rfl, hI⟩
  exact h i l H X hi (fun hlt l' H' hI' => hX (n - (i + 1)) (by omega) l' H' ⟨i + 1, by omega, rfl, hI'⟩) hI
theorem LoopL.step (h : ∀ X : List Value → AH → Prop, (∀ l H, LoopL B l H → X l H) → B l H X) : LoopL B l H := by
  intro X hX
  exact hX _ _ (h X fun l H hl => hl X hX)
end

/-! Only the head of a step is simplified; what follows is left till it is reached. -/
@[congr] theorem ifB_congr {v v' : Value} {A B : Prop} (h : v = v') : ifB v A B = ifB v' A B := by rw [h]
@[congr] theorem opt_congr {α : Type} {o o' : Option α} {K : α → Prop} (h : o = o') : opt o K = opt o' K := by rw [h]
@[congr] theorem opt2_congr {α β : Type} {o o' : Option (α × β)} {K : α → β → Prop} (h : o = o') : opt2 o K = opt2 o' K := by rw [h]
@[congr] theorem mk_congr {o o' : Option (AObj × (Nat → Value))} {H : AH} {K : Value → AH → Prop} (h : o = o') : AM.mk o H K = AM.mk o' H K := by rw [h]
@[congr] theorem call_congr {E : Sy} {f f' : FuncId} {a a' : List Value} {H H' : AH} {K : Value → AH → Prop} (h1 : f = f') (h2 : a = a') (h3 : H = H') : E.call f a H K = E.call f' a' H' K := by rw [h1, h2, h3]
@[congr] theorem callV_congr {c : CallT} {f f' : Value} {a a' : List Value} {H H' : AH} {K : Value → AH → Prop} (h1 : f = f') (h2 : a = a') (h3 : H = H') : callV c f a H K = callV c f' a' H' K := by rw [h1, h2, h3]
@[congr] theorem gd_congr {v v' : Value} {b : Bool} {m : (Value → AH → Prop) → Prop} {H : AH} {K : Value → AH → Prop} (h : v = v') : gd v b m H K = gd v' b m H K := by rw [h]

/-- So many cells of one kind. -/
def zs (n : Nat) (v : Value) : List Value := List.replicate n v
@[simp] theorem zs_length (n : Nat) (v : Value) : (zs n v).length = n := List.length_replicate
@[simp] theorem zs_drop (n i : Nat) (v : Value) : (zs n v).drop i = zs (n - i) v := List.drop_replicate
@[simp] theorem zs_zero (v : Value) : zs 0 v = [] := rfl
@[simp] theorem zs_plain (n : Nat) (v : Value) (h : plain1 v = true) : (zs n v).all plain1 = true := by
  simp only [zs, List.all_replicate, h]; split <;> rfl
abbrev ptr (b off : Nat) : Value := .pointer (some ⟨b, off, none⟩)
abbrev slc (b off n c : Nat) : Value := .slice (some ⟨b, off, none⟩) n c
abbrev vi (n : Int) : Value := .int .i64 n
abbrev vb (b : Bool) : Value := .bool b
abbrev vs (s : ByteArray) : Value := .string s
abbrev nilS : Value := .slice none 0 0
def u8 (x : BitVec 8) : Value := .int .u8 (x.toNat : Int)
def u16 (x : BitVec 16) : Value := .int .u16 (x.toNat : Int)
def u32 (x : BitVec 32) : Value := .int .u32 (x.toNat : Int)
def u64 (x : BitVec 64) : Value := .int .u64 (x.toNat : Int)

@[simp] theorem nth_0 (v : Value) (l : List Value) : nth (v :: l) 0 = v := rfl
@[simp] theorem nth_s (v : Value) (l : List Value) (n : Nat) : nth (v :: l) (n + 1) = nth l n := rfl
@[simp] theorem nth_1 (a b : Value) (l : List Value) : nth (a :: b :: l) 1 = b := rfl
@[simp] theorem nth_2 (a b c : Value) (l : List Value) : nth (a :: b :: c :: l) 2 = c := rfl
@[simp] theorem nth_3 (a b c d : Value) (l : List Value) : nth (a :: b :: c :: d :: l) 3 = d := rfl
@[simp] theorem nth_4 (a b c d e : Value) (l : List Value) : nth (a :: b :: c :: d :: e :: l) 4 = e := rfl
@[simp] theorem nth_5 (a b c d e f : Value) (l : List Value) : nth (a :: b :: c :: d :: e :: f :: l) 5 = f := rfl
@[simp] theorem nth_6 (a b c d e f g : Value) (l : List Value) : nth (a :: b :: c :: d :: e :: f :: g :: l) 6 = g := rfl
@[simp] theorem nth_7 (a b c d e f g h : Value) (l : List Value) : nth (a :: b :: c :: d :: e :: f :: g :: h :: l) 7 = h := rfl
@[simp] theorem nth_8 (a b c d e f g h i : Value) (l : List Value) : nth (a :: b :: c :: d :: e :: f :: g :: h :: i :: l) 8 = i := rfl
@[simp] theorem nth_9 (a b c d e f g h i j : Value) (l : List Value) : nth (a :: b :: c :: d :: e :: f :: g :: h :: i :: j :: l) 9 = j := rfl
@[simp] theorem nth_10 (a b c d e f g h i j k : Value) (l : List Value) : nth (a :: b :: c :: d :: e :: f :: g :: h :: i :: j :: k :: l) 10 = k := rfl
@[simp] theorem nth_11 (a b c d e f g h i j k m : Value) (l : List Value) : nth (a :: b :: c :: d :: e :: f :: g :: h :: i :: j :: k :: m :: l) 11 = m := rfl
@[simp] theorem nth_12 (a b c d e f g h i j k m n : Value) (l : List Value) : nth (a :: b :: c :: d :: e :: f :: g :: h :: i :: j :: k :: m :: n :: l) 12 = n := rfl
@[simp] theorem nth_13 (a b c d e f g h i j k m n o : Value) (l : List Value) : nth (a :: b :: c :: d :: e :: f :: g :: h :: i :: j :: k :: m :: n :: o :: l) 13 = o := rfl
@[simp] theorem nth_14 (a b c d e f g h i j k m n o p : Value) (l : List Value) : nth (a :: b :: c :: d :: e :: f :: g :: h :: i :: j :: k :: m :: n :: o :: p :: l) 14 = p := rfl
@[simp] theorem nth_15 (a b c d e f g h i j k m n o p q : Value) (l : List Value) : nth (a :: b :: c :: d :: e :: f :: g :: h :: i :: j :: k :: m :: n :: o :: p :: q :: l) 15 = q := rfl
@[simp] theorem nth_16 (a b c d e f g h i j k m n o p q r : Value) (l : List Value) : nth (a :: b :: c :: d :: e :: f :: g :: h :: i :: j :: k :: m :: n :: o :: p :: q :: r :: l) 16 = r := rfl
@[simp] theorem nth_17 (a b c d e f g h i j k m n o p q r s : Value) (l : List Value) : nth (a :: b :: c :: d :: e :: f :: g :: h :: i :: j :: k :: m :: n :: o :: p :: q :: r :: s :: l) 17 = s := rfl
@[simp] theorem nth_18 (a b c d e f g h i j k m n o p q r s t : Value) (l : List Value) : nth (a :: b :: c :: d :: e :: f :: g :: h :: i :: j :: k :: m :: n :: o :: p :: q :: r :: s :: t :: l) 18 = t := rfl
@[simp] theorem nth_19 (a b c d e f g h i j k m n o p q r s t u : Value) (l : List Value) : nth (a :: b :: c :: d :: e :: f :: g :: h :: i :: j :: k :: m :: n :: o :: p :: q :: r :: s :: t :: u :: l) 19 = u := rfl
@[simp] theorem nth_n (a : Value) (l : List Value) (n : Nat) : nth (a :: l) (OfNat.ofNat (n + 1)) = nth l n := rfl

/-- Not told to be by reduction: the kernel would compare what follows, too. -/
theorem nrfl {a b : Prop} (h : a = b) : a = b := Eq.trans h rfl
@[simp] theorem opt_some {α : Type} (x : α) (K : α → Prop) : opt (some x) K = K x := nrfl rfl
@[simp] theorem opt2_some {α β : Type} (x : α) (y : β) (K : α → β → Prop) : opt2 (some (x, y)) K = K x y := nrfl rfl
@[simp] theorem mk_some (o : AObj) (m : Nat → Value) (H : AH) (K : Value → AH → Prop) : AM.mk (some (o, m)) H K = K (m H.next) (H.new o) := nrfl rfl
theorem ifB_bool (b : Bool) (A B : Prop) : ifB (.bool b) A B = if b = true then A else B := by cases b <;> rfl
theorem ifB_dec {p : Prop} [Decidable p] (A B : Prop) : ifB (.bool (decide p)) A B = if p then A else B := by by_cases h : p <;> simp [h, ifB]
theorem ifB_split {p : Prop} [Decidable p] {A B : Prop} (h1 : p → A) (h2 : ¬p → B) : ifB (.bool (decide p)) A B := by rw [ifB_dec]; split <;> simp_all
@[simp] theorem ifB_true (A B : Prop) : ifB (.bool true) A B = A := nrfl rfl
@[simp] theorem ifB_false (A B : Prop) : ifB (.bool false) A B = B := nrfl rfl
@[simp] theorem gd_tt (m : (Value → AH → Prop) → Prop) (H : AH) (K : Value → AH → Prop) : gd (.bool true) true m H K = m K := nrfl rfl
@[simp] theorem gd_tf (m : (Value → AH → Prop) → Prop) (H : AH) (K : Value → AH → Prop) : gd (.bool true) false m H K = K skipV H := nrfl rfl
@[simp] theorem gd_ft (m : (Value → AH → Prop) → Prop) (H : AH) (K : Value → AH → Prop) : gd (.bool false) true m H K = K skipV H := nrfl rfl
@[simp] theorem gd_ff (m : (Value → AH → Prop) → Prop) (H : AH) (K : Value → AH → Prop) : gd (.bool false) false m H K = m K := nrfl rfl
@[simp] theorem gdC_bool (b want : Bool) (c : Prop) : gdC (.bool b) want c = (b = want → c) := by
  cases b <;> cases want <;> simp [gdC, ifB, isSkip]
@[simp] theorem allocW_eq (cs : List Value) (H : AH) (K : Value → AH → Prop) : allocW cs H K = K (ptr H.next 0) (H.new (.cells cs none)) := nrfl rfl
@[simp] theorem mapW_eq (H : AH) (K : Value → AH → Prop) : mapW H K = K (.map (some H.next)) (H.new (.map [] 0 true)) := nrfl rfl
@[simp] theorem mkPtr_eq (b : Nat) : mkPtr b = ptr b 0 := rfl
@[simp] theorem mkSlc_eq (n c b : Nat) : mkSlc n c b = slc b 0 n c := rfl

attribute [simp] AH.next_put AH.next_new AH.get_new_self
@[simp] theorem AH.get_new_lt (H : AH) (o : AObj) {x : Nat} (h : x < H.next) : (H.new o).get x = H.get x := AH.get_new_ne H o (Nat.ne_of_lt h)
@[simp] theorem AH.get_put_s (H : AH) {b : Nat} (o : AObj) (h : b < H.next) : (H.put b o).get b = o := AH.get_put_self H o h

@[simp] theorem addOff_ptr (b o n : Nat) : addOff (ptr b o) n = some (ptr b (o + n)) := by
  simp only [addOff, ptr, Addr.add]
  by_cases h : n = 0
  · subst h; simp
  · simp [h]
@[simp] theorem load1_ptr (b o : Nat) (H : AH) : load1 (ptr b o) H = (H.get b).cell o := by simp [load1]
@[simp] theorem loadN_ptr (n b o : Nat) (H : AH) : loadN n (ptr b o) H = ((H.get b).row o n).map fun l => .agg l.toArray := by simp [loadN]
@[simp] theorem cell_cells (c : List Value) (f : Option Nat) (i : Nat) : (AObj.cells c f).cell i = c[i]? := rfl
@[simp] theorem row_cells (c : List Value) (f : Option Nat) (i n : Nat) : (AObj.cells c f).row i n = if i + n ≤ c.length then some ((c.drop i).take n) else none := rfl
@[simp] theorem boxO_agg (a : Array Value) : boxO (.agg a) = some (.cells a.toList none, mkPtr) := rfl
@[simp] theorem store1_ptr (b o : Nat) (v : Value) (H : AH) : store1 (ptr b o) v H = if plain1 v = true then (match H.get b with
      | .cells c fx => if o < c.length then some (H.put b (.cells (c.set o v) fx)) else none
      | _ => none) else none := by
  simp only [store1, Option.isSome_none, Bool.false_or]
  cases h : plain1 v <;> simp
  cases H.get b <;> rfl
@[simp] theorem storeN_ptr (n b o : Nat) (a : Array Value) (H : AH) : storeN n (ptr b o) (.agg a) H = (match H.get b with
      | .cells c fx => if a.size = n ∧ o + n ≤ c.length ∧ a.toList.all plain1 then some (H.put b (.cells (splice c o a.toList) fx)) else none
      | _ => none) := by
  simp only [storeN, Option.isSome_none, Bool.false_eq_true, if_false]
  cases H.get b <;> rfl
theorem AH.ext' {H H' : AH} (h1 : H.next = H'.next) (h2 : H.raw = H'.raw) : H = H' := by cases H; cases H'; simp_all
@[simp] theorem AH.new_put (H : AH) (o o' : AObj) : (H.new o).put H.next o' = H.new o' := by
  refine AH.ext' (Eq.refl (H.next + 1)) ?_
  funext x
  simp only [AH.put, AH.new]
  split <;> rfl
theorem AH.new_put_eq (H : AH) (o o' : AObj) {b : Nat} (h : b = H.next) : (H.new o).put b o' = H.new o' := by subst h; exact AH.new_put H o o'
theorem AH.new_put_ne (H : AH) (o o' : AObj) {b : Nat} (h : b ≠ H.next) : (H.new o).put b o' = (H.put b o').new o := by
  refine AH.ext' (Eq.refl (H.next + 1)) ?_
  funext x
  simp only [AH.put, AH.new]
  by_cases h1 : x = b
  · subst h1; simp [h]
  · simp [h1]
@[simp] theorem AH.new_put_if (H : AH) (o o' : AObj) (b : Nat) : (H.new o).put b o' = if b = H.next then H.new o' else (H.put b o').new o := by
  by_cases h : b = H.next
  · rw [if_pos h]; exact AH.new_put_eq _ _ _ h
  · rw [if_neg h]; exact AH.new_put_ne _ _ _ h
@[simp] theorem AH.put_put (H : AH) (o o' : AObj) (b : Nat) : (H.put b o).put b o' = H.put b o' := by
  refine AH.ext' (Eq.refl H.next) ?_
  funext x
  simp only [AH.put]
  split <;> rfl
theorem AH.put_get (H : AH) {b : Nat} (h : b < H.next) : H.put b (H.get b) = H := by
  refine AH.ext' (Eq.refl H.next) ?_
  funext x
  simp only [AH.put, AH.get, if_pos h]
  split
  · rename_i e; rw [e]
  · rfl
@[simp] theorem lenSlc_slc (o : Option Addr) (n c : Nat) : lenSlc (.slice o n c) = some (.int .i64 n) := rfl
@[simp] theorem lenStr_str (s : ByteArray) : lenStr (.string s) = some (.int .i64 s.size) := rfl
@[simp] theorem ixSlc_slc (sz b o n c : Nat) (i : Nat) (h : i < n) : ixSlc sz (slc b o n c) (vi i) = some (ptr b (o + i * sz)) := by
  simp only [ixSlc]
  have : (0 : Int) ≤ i ∧ (i : Int) < n := by omega
  rw [if_pos this]
  simp only [Int.toNat_natCast, Addr.add]
  by_cases hz : i * sz = 0
  · simp [hz]
  · simp [hz]
theorem ixSlc_lit (sz b o n c i : Nat) (j : Int) (hj : j = (i : Int)) (h : i < n) : ixSlc sz (slc b o n c) (vi j) = some (ptr b (o + i * sz)) := by
  subst hj; exact ixSlc_slc sz b o n c i h
theorem ixArr_ptr (len sz b o i : Nat) (j : Int) (hj : j = (i : Int)) (h : i < len) : ixArr len sz (ptr b o) (vi j) = some (ptr b (o + i * sz)) := by
  subst hj
  simp only [ixArr]
  have : (0 : Int) ≤ i ∧ (i : Int) < len := by omega
  rw [if_pos this]
  simp only [Int.toNat_natCast, Addr.add]
  by_cases hz : i * sz = 0
  · simp [hz]
  · simp [hz]
@[simp] theorem ixArr_nat (len sz b o i : Nat) (h : i < len) : ixArr len sz (ptr b o) (vi (i : Int)) = some (ptr b (o + i * sz)) := ixArr_ptr len sz b o i _ rfl h
@[simp] theorem ixArr_num (len sz b o i : Nat) (h : i < len) : ixArr len sz (ptr b o) (vi (no_index (OfNat.ofNat i))) = some (ptr b (o + i * sz)) := ixArr_ptr len sz b o i _ rfl h
@[simp] theorem ixSlc_num (sz b o n c i : Nat) (h : i < n) : ixSlc sz (slc b o n c) (vi (no_index (OfNat.ofNat i))) = some (ptr b (o + i * sz)) := ixSlc_slc sz b o n c i h
@[simp] theorem part1_agg (a : Array Value) (i : Nat) : part1 (.agg a) i = a[i]? := rfl
@[simp] theorem partN_agg (a : Array Value) (i n : Nat) : partN (.agg a) i n = some (.agg (a.extract i (i + n))) := rfl
@[simp] theorem ext_tuple (a b : Value) (l : List Value) (i : Nat) : ext (.tuple (a :: b :: l).toArray) i = (a :: b :: l)[i]? := by
  have : isSkip (.tuple (a :: b :: l).toArray) = false := by cases a <;> rfl
  simp [ext, this]
@[simp] theorem ext_bool (b : Bool) (i : Nat) : ext (.tuple #[.bool b]) i = [Value.bool b][i]? := by
  have : isSkip (.tuple #[.bool b]) = false := rfl
  simp [ext, this]
@[simp] theorem gd_skip (want : Bool) (m : (Value → AH → Prop) → Prop) (H : AH) (K : Value → AH → Prop) : gd skipV want m H K = K skipV H := nrfl rfl
@[simp] theorem gdC_skip (want : Bool) (c : Prop) : gdC skipV want c = True := rfl
@[simp] theorem un_not (b : Bool) : un .not (.bool b) = some (.bool !b) := rfl
@[simp] theorem pick_true (x y : Value) : pick (.bool true) x y = some x := rfl
@[simp] theorem pick_false (x y : Value) : pick (.bool false) x y = some y := rfl
@[simp] theorem binBool_eql (a b : Bool) : binBool .eql (.bool a) (.bool b) = some (.bool (a == b)) := rfl
@[simp] theorem binBool_neq (a b : Bool) : binBool .neq (.bool a) (.bool b) = some (.bool !(a == b)) := rfl
theorem convInt_int (k j : IntKind) (n : Int) : convInt k (.int j n) = some (.int k (k.wrap n)) := rfl

section ints
variable (k : IntKind) (a b : Int)
theorem binInt_add : binInt .add (.int k a) (.int k b) = some (.int k (k.wrap (a + b))) := by simp [binInt]
theorem binInt_sub : binInt .sub (.int k a) (.int k b) = some (.int k (k.wrap (a - b))) := by simp [binInt]
theorem binInt_mul : binInt .mul (.int k a) (.int k b) = some (.int k (k.wrap (a * b))) := by simp [binInt]
theorem binInt_and : binInt .and (.int k a) (.int k b) = some (.int k (k.wrap (BitVec.ofInt k.bits a &&& BitVec.ofInt k.bits b).toNat)) := by simp [binInt]
theorem binInt_or : binInt .or (.int k a) (.int k b) = some (.int k (k.wrap (BitVec.ofInt k.bits a ||| BitVec.ofInt k.bits b).toNat)) := by simp [binInt]
theorem binInt_xor : binInt .xor (.int k a) (.int k b) = some (.int k (k.wrap (BitVec.ofInt k.bits a ^^^ BitVec.ofInt k.bits b).toNat)) := by simp [binInt]
theorem binInt_andNot : binInt .andNot (.int k a) (.int k b) = some (.int k (k.wrap (BitVec.ofInt k.bits a &&& ~~~(BitVec.ofInt k.bits b)).toNat)) := by simp [binInt]
theorem binInt_quo (h : b ≠ 0) : binInt .quo (.int k a) (.int k b) = some (.int k (k.wrap (a.tdiv b))) := by simp [binInt, h]
theorem binInt_rem (h : b ≠ 0) : binInt .rem (.int k a) (.int k b) = some (.int k (a.tmod b)) := by simp [binInt, h]
theorem binInt_eql : binInt .eql (.int k a) (.int k b) = some (.bool (decide (a = b))) := by simp [binInt]; rfl
theorem binInt_neq : binInt .neq (.int k a) (.int k b) = some (.bool (decide (a ≠ b))) := by
  simp [binInt]
  by_cases h : a = b <;> simp [h]
theorem binInt_lss : binInt .lss (.int k a) (.int k b) = some (.bool (decide (a < b))) := by simp [binInt]
theorem binInt_leq : binInt .leq (.int k a) (.int k b) = some (.bool (decide (a ≤ b))) := by simp [binInt]
theorem binInt_gtr : binInt .gtr (.int k a) (.int k b) = some (.bool (decide (b < a))) := by simp [binInt]
theorem binInt_geq : binInt .geq (.int k a) (.int k b) = some (.bool (decide (b ≤ a))) := by simp [binInt]
end ints

/-! ### numbers -/
theorem wrap_i64 {n : Int} (h : -9223372036854775808 ≤ n) (h' : n < 9223372036854775808) : IntKind.i64.wrap n = n := by
  simp only [IntKind.wrap, IntKind.bits, IntKind.signed, Bool.true_and]
  split <;> simp at * <;> omega
theorem wrap_u8 (n : Int) : IntKind.u8.wrap n = n % 256 := by simp [IntKind.wrap, IntKind.bits, IntKind.signed]
theorem wrap_u16 (n : Int) : IntKind.u16.wrap n = n % 65536 := by simp [IntKind.wrap, IntKind.bits, IntKind.signed]
theorem wrap_u32 (n : Int) : IntKind.u32.wrap n = n % 4294967296 := by simp [IntKind.wrap, IntKind.bits, IntKind.signed]
theorem wrap_u64 (n : Int) : IntKind.u64.wrap n = n % 18446744073709551616 := by simp [IntKind.wrap, IntKind.bits, IntKind.signed]
theorem i64_add {a b : Int} (h : -9223372036854775808 ≤ a + b) (h' : a + b < 9223372036854775808) : binInt .add (vi a) (vi b) = some (vi (a + b)) := by rw [binInt_add, wrap_i64 h h']
theorem i64_sub {a b : Int} (h : -9223372036854775808 ≤ a - b) (h' : a - b < 9223372036854775808) : binInt .sub (vi a) (vi b) = some (vi (a - b)) := by rw [binInt_sub, wrap_i64 h h']
theorem i64_mul {a b : Int} (h : -9223372036854775808 ≤ a * b) (h' : a * b < 9223372036854775808) : binInt .mul (vi a) (vi b) = some (vi (a * b)) := by rw [binInt_mul, wrap_i64 h h']
/-- One more, counted. -/
theorem i64_inc {i : Nat} (h : i < 9223372036854775807) : binInt .add (vi i) (vi 1) = some (vi ((i + 1 : Nat) : Int)) := by
  rw [i64_add (by omega) (by omega)]; simp

section unsigned
variable {w : Nat}
theorem wrap_bv (k : IntKind) (hk : k.signed = false) (x : BitVec k.bits) : k.wrap (x.toNat : Int) = (x.toNat : Int) := by
  simp only [IntKind.wrap, hk, Bool.false_and, Bool.false_eq_true, if_false]
  have := x.isLt
  apply Int.emod_eq_of_lt
  · omega
  · exact_mod_cast this
theorem wrap_ofInt (k : IntKind) (hk : k.signed = false) (z : Int) : k.wrap z = ((BitVec.ofInt k.bits z).toNat : Int) := by
  simp only [IntKind.wrap, hk, Bool.false_and, Bool.false_eq_true, if_false]
  have hp : ((2 ^ k.bits : Nat) : Int) ≠ 0 := by
    have := Nat.two_pow_pos k.bits
    omega
  rw [BitVec.toNat_ofInt, Int.toNat_of_nonneg (Int.emod_nonneg _ hp)]
  simp
end unsigned
end Go.AM
end
section
/- THE ABSTRACT MACHINE: unsigned numbers as bit vectors: written by program (words.py). -/
namespace Go.AM
theorem bv_ofInt_nat {w : Nat} (x : BitVec w) : BitVec.ofInt w (x.toNat : Int) = x := by
  rw [BitVec.ofInt_natCast, BitVec.ofNat_toNat, BitVec.setWidth_eq]
theorem bv_ofInt_lit (w n : Nat) : BitVec.ofInt w (OfNat.ofNat n : Int) = BitVec.ofNat w n := BitVec.ofInt_natCast w n
theorem bv_ofInt_sub (w : Nat) (a b : Int) : BitVec.ofInt w (a - b) = BitVec.ofInt w a - BitVec.ofInt w b := by
  apply BitVec.eq_of_toInt_eq
  simp [BitVec.toInt_ofInt, BitVec.toInt_sub]
theorem bv_inj {w : Nat} (x y : BitVec w) : ((x.toNat : Int) = (y.toNat : Int)) ↔ x = y := by
  rw [Int.natCast_inj, BitVec.toNat_inj]
theorem bv_lit {w n : Nat} (x : BitVec w) (h : n < 2 ^ w) : ((x.toNat : Int) = (OfNat.ofNat n : Int)) ↔ x = BitVec.ofNat w n := by
  rw [show (OfNat.ofNat n : Int) = ((n : Nat) : Int) from rfl, Int.natCast_inj, ← BitVec.toNat_inj, BitVec.toNat_ofNat, Nat.mod_eq_of_lt h]
theorem bv_shr {w : Nat} (x : BitVec w) (n : Nat) : ((x.toNat : Int).fdiv (2 ^ (min n w) : Int)) = ((x >>> n).toNat : Int) := by
  rw [BitVec.toNat_ushiftRight, Nat.shiftRight_eq_div_pow]
  have : (2 ^ (min n w) : Int) = ((2 ^ (min n w) : Nat) : Int) := by simp
  rw [this, Int.fdiv_eq_ediv_of_nonneg _ (Int.natCast_nonneg _), ← Int.natCast_ediv]
  congr 1
  by_cases h : n ≤ w
  · rw [Nat.min_eq_left h]
  · have h1 := x.isLt
    rw [Nat.min_eq_right (by omega), Nat.div_eq_of_lt h1, Nat.div_eq_of_lt]
    exact Nat.lt_of_lt_of_le h1 (Nat.pow_le_pow_right (by omega) (by omega))
theorem bv_shl {w : Nat} (x : BitVec w) (n : Nat) : BitVec.ofInt w ((x.toNat : Int) * (2 ^ (min n w) : Int)) = x <<< n := by
  have : (x.toNat : Int) * (2 ^ (min n w) : Int) = ((x.toNat * 2 ^ (min n w) : Nat) : Int) := by simp
  rw [this, BitVec.ofInt_natCast]
  apply BitVec.eq_of_toNat_eq
  rw [BitVec.toNat_ofNat, BitVec.toNat_shiftLeft, Nat.shiftLeft_eq]
  by_cases h : n ≤ w
  · rw [Nat.min_eq_left h]
  · rw [Nat.min_eq_right (by omega)]
    rw [Nat.mul_mod_left, Nat.mod_eq_zero_of_dvd]
    exact Nat.dvd_trans (Nat.pow_dvd_pow 2 (by omega : w ≤ n)) (Nat.dvd_mul_left _ _)
@[simp] theorem i64_eql (a b : Int) : binInt .eql (vi a) (vi b) = some (.bool (decide (a = b))) := binInt_eql ..
@[simp] theorem i64_neq (a b : Int) : binInt .neq (vi a) (vi b) = some (.bool (decide (a ≠ b))) := binInt_neq ..
@[simp] theorem i64_lss (a b : Int) : binInt .lss (vi a) (vi b) = some (.bool (decide (a < b))) := binInt_lss ..
@[simp] theorem i64_leq (a b : Int) : binInt .leq (vi a) (vi b) = some (.bool (decide (a ≤ b))) := binInt_leq ..
@[simp] theorem i64_gtr (a b : Int) : binInt .gtr (vi a) (vi b) = some (.bool (decide (b < a))) := binInt_gtr ..
@[simp] theorem i64_geq (a b : Int) : binInt .geq (vi a) (vi b) = some (.bool (decide (b ≤ a))) := binInt_geq ..
@[simp] theorem i64_max (a b : Int) : fold2 max2 [vi a, vi b] = some (vi (if b > a then b else a)) := rfl
@[simp] theorem i64_min (a b : Int) : fold2 min2 [vi a, vi b] = some (vi (if b < a then b else a)) := rfl

theorem u8_def (x : BitVec 8) : u8 x = .int .u8 (x.toNat : Int) := rfl
theorem u16_def (x : BitVec 16) : u16 x = .int .u16 (x.toNat : Int) := rfl
theorem u32_def (x : BitVec 32) : u32 x = .int .u32 (x.toNat : Int) := rfl
theorem u64_def (x : BitVec 64) : u64 x = .int .u64 (x.toNat : Int) := rfl
@[simp] theorem u8_lit (n : Nat) (h : n < 2 ^ 8) : (.int .u8 (no_index (OfNat.ofNat n)) : Value) = u8 (BitVec.ofNat 8 n) := by
  rw [u8_def, BitVec.toNat_ofNat, Nat.mod_eq_of_lt h]; rfl
@[simp] theorem u8_lit0 : (.int .u8 0 : Value) = u8 0#8 := rfl
@[simp] theorem u8_lit1 : (.int .u8 1 : Value) = u8 1#8 := rfl
@[simp] theorem defd_u8 (x : BitVec 8) : defd (u8 x) = true := rfl
@[simp] theorem plain1_u8 (x : BitVec 8) : plain1 (u8 x) = true := rfl
@[simp] theorem cells_u8 (x : BitVec 8) : (u8 x).cells = #[u8 x] := rfl
@[simp] theorem u8_inj (x y : BitVec 8) : u8 x = u8 y ↔ x = y := by
  simp only [u8_def, Value.int.injEq, true_and, bv_inj]
@[simp] theorem same_u8 (x y : BitVec 8) : sameCell 0 (u8 x) (u8 y) = some (decide (x = y)) := by
  simp only [u8_def, sameCell, if_true]; congr 1; rw [Bool.eq_iff_iff]; simp [bv_inj, BitVec.toNat_inj]
@[simp] theorem ixSlc_u8 (sz : Nat) (v : Value) (x : BitVec 8) : ixSlc sz v (u8 x) = ixSlc sz v (vi (x.toNat : Int)) := by
  simp only [u8_def]; cases v <;> first | rfl | (rename_i a; cases a <;> rfl) | (rename_i a n c; cases a <;> rfl)
@[simp] theorem ixArr_u8 (len sz : Nat) (v : Value) (x : BitVec 8) : ixArr len sz v (u8 x) = ixArr len sz v (vi (x.toNat : Int)) := by
  simp only [u8_def]; cases v <;> first | rfl | (rename_i a; cases a <;> rfl) | (rename_i a n c; cases a <;> rfl)
@[simp] theorem ixStr_u8 (v : Value) (x : BitVec 8) : ixStr v (u8 x) = ixStr v (vi (x.toNat : Int)) := by
  simp only [u8_def]; cases v <;> first | rfl | (rename_i a; cases a <;> rfl) | (rename_i a n c; cases a <;> rfl)
@[simp] theorem u8_add (x y : BitVec 8) : binInt .add (u8 x) (u8 y) = some (u8 (x + y)) := by
  simp only [u8_def]; rw [binInt_add, wrap_ofInt .u8 rfl]; simp only [IntKind.bits, BitVec.ofInt_add, bv_ofInt_nat]
@[simp] theorem u8_sub (x y : BitVec 8) : binInt .sub (u8 x) (u8 y) = some (u8 (x - y)) := by
  simp only [u8_def]; rw [binInt_sub, wrap_ofInt .u8 rfl]; simp only [IntKind.bits, bv_ofInt_sub, bv_ofInt_nat]
@[simp] theorem u8_mul (x y : BitVec 8) : binInt .mul (u8 x) (u8 y) = some (u8 (x * y)) := by
  simp only [u8_def]; rw [binInt_mul, wrap_ofInt .u8 rfl]; simp only [IntKind.bits, BitVec.ofInt_mul, bv_ofInt_nat]
@[simp] theorem u8_and (x y : BitVec 8) : binInt .and (u8 x) (u8 y) = some (u8 (x &&& y)) := by
  simp only [u8_def]; rw [binInt_and]; simp only [IntKind.bits, bv_ofInt_nat]; exact congrArg (fun z => some (Value.int .u8 z)) (wrap_bv .u8 rfl _)
@[simp] theorem u8_or (x y : BitVec 8) : binInt .or (u8 x) (u8 y) = some (u8 (x ||| y)) := by
  simp only [u8_def]; rw [binInt_or]; simp only [IntKind.bits, bv_ofInt_nat]; exact congrArg (fun z => some (Value.int .u8 z)) (wrap_bv .u8 rfl _)
@[simp] theorem u8_xor (x y : BitVec 8) : binInt .xor (u8 x) (u8 y) = some (u8 (x ^^^ y)) := by
  simp only [u8_def]; rw [binInt_xor]; simp only [IntKind.bits, bv_ofInt_nat]; exact congrArg (fun z => some (Value.int .u8 z)) (wrap_bv .u8 rfl _)
@[simp] theorem u8_andNot (x y : BitVec 8) : binInt .andNot (u8 x) (u8 y) = some (u8 (x &&& ~~~y)) := by
  simp only [u8_def]; rw [binInt_andNot]; simp only [IntKind.bits, bv_ofInt_nat]; exact congrArg (fun z => some (Value.int .u8 z)) (wrap_bv .u8 rfl _)
@[simp] theorem u8_shr (x : BitVec 8) (k : IntKind) (n : Nat) : binInt .shr (u8 x) (.int k (n : Int)) = some (u8 (x >>> n)) := by
  have h : ¬ ((n : Int) < 0) := by omega
  simp only [u8_def, binInt, h, if_false, Int.toNat_natCast, IntKind.bits, bv_shr]
@[simp] theorem u8_shl (x : BitVec 8) (k : IntKind) (n : Nat) : binInt .shl (u8 x) (.int k (n : Int)) = some (u8 (x <<< n)) := by
  have h : ¬ ((n : Int) < 0) := by omega
  simp only [u8_def, binInt, h, if_false, Int.toNat_natCast]; rw [wrap_ofInt .u8 rfl]; simp only [IntKind.bits, bv_shl]
@[simp] theorem u8_shr_lit (x : BitVec 8) (k : IntKind) (n : Nat) : binInt .shr (u8 x) (.int k (no_index (OfNat.ofNat n))) = some (u8 (x >>> n)) := u8_shr x k n
@[simp] theorem u8_shr_u8 (x : BitVec 8) (y : BitVec 8) : binInt .shr (u8 x) (u8 y) = some (u8 (x >>> y.toNat)) := u8_shr x .u8 y.toNat
@[simp] theorem u8_shr_u16 (x : BitVec 8) (y : BitVec 16) : binInt .shr (u8 x) (u16 y) = some (u8 (x >>> y.toNat)) := u8_shr x .u16 y.toNat
@[simp] theorem u8_shr_u32 (x : BitVec 8) (y : BitVec 32) : binInt .shr (u8 x) (u32 y) = some (u8 (x >>> y.toNat)) := u8_shr x .u32 y.toNat
@[simp] theorem u8_shr_u64 (x : BitVec 8) (y : BitVec 64) : binInt .shr (u8 x) (u64 y) = some (u8 (x >>> y.toNat)) := u8_shr x .u64 y.toNat
@[simp] theorem u8_shl_lit (x : BitVec 8) (k : IntKind) (n : Nat) : binInt .shl (u8 x) (.int k (no_index (OfNat.ofNat n))) = some (u8 (x <<< n)) := u8_shl x k n
@[simp] theorem u8_shl_u8 (x : BitVec 8) (y : BitVec 8) : binInt .shl (u8 x) (u8 y) = some (u8 (x <<< y.toNat)) := u8_shl x .u8 y.toNat
@[simp] theorem u8_shl_u16 (x : BitVec 8) (y : BitVec 16) : binInt .shl (u8 x) (u16 y) = some (u8 (x <<< y.toNat)) := u8_shl x .u16 y.toNat
@[simp] theorem u8_shl_u32 (x : BitVec 8) (y : BitVec 32) : binInt .shl (u8 x) (u32 y) = some (u8 (x <<< y.toNat)) := u8_shl x .u32 y.toNat
@[simp] theorem u8_shl_u64 (x : BitVec 8) (y : BitVec 64) : binInt .shl (u8 x) (u64 y) = some (u8 (x <<< y.toNat)) := u8_shl x .u64 y.toNat
@[simp] theorem u8_eql (x y : BitVec 8) : binInt .eql (u8 x) (u8 y) = some (.bool (decide (x = y))) := by
  simp only [u8_def]; rw [binInt_eql]; simp only [bv_inj]
@[simp] theorem u8_neq (x y : BitVec 8) : binInt .neq (u8 x) (u8 y) = some (.bool (decide (x ≠ y))) := by
  simp only [u8_def]; rw [binInt_neq]; simp only [bv_inj, ne_eq]
@[simp] theorem u8_lss (x y : BitVec 8) : binInt .lss (u8 x) (u8 y) = some (.bool (decide (x.toNat < y.toNat))) := by
  simp only [u8_def]; rw [binInt_lss]; simp only [Int.ofNat_lt]
@[simp] theorem u8_leq (x y : BitVec 8) : binInt .leq (u8 x) (u8 y) = some (.bool (decide (x.toNat ≤ y.toNat))) := by
  simp only [u8_def]; rw [binInt_leq]; simp only [Int.ofNat_le]
@[simp] theorem u8_gtr (x y : BitVec 8) : binInt .gtr (u8 x) (u8 y) = some (.bool (decide (y.toNat < x.toNat))) := by
  simp only [u8_def]; rw [binInt_gtr]; simp only [Int.ofNat_lt]
@[simp] theorem u8_geq (x y : BitVec 8) : binInt .geq (u8 x) (u8 y) = some (.bool (decide (y.toNat ≤ x.toNat))) := by
  simp only [u8_def]; rw [binInt_geq]; simp only [Int.ofNat_le]
@[simp] theorem u8_quo (x y : BitVec 8) (h : y ≠ 0#8) : binInt .quo (u8 x) (u8 y) = some (u8 (x / y)) := by
  simp only [u8_def]; rw [binInt_quo _ _ _ (fun k => h (BitVec.eq_of_toNat_eq (by have : y.toNat = 0 := (by exact_mod_cast k); simpa using this))), ← Int.ofNat_tdiv, ← BitVec.toNat_udiv]
  exact congrArg (fun z => some (Value.int .u8 z)) (wrap_bv .u8 rfl _)
@[simp] theorem u8_rem (x y : BitVec 8) (h : y ≠ 0#8) : binInt .rem (u8 x) (u8 y) = some (u8 (x % y)) := by
  simp only [u8_def]; rw [binInt_rem _ _ _ (fun k => h (BitVec.eq_of_toNat_eq (by have : y.toNat = 0 := (by exact_mod_cast k); simpa using this))), ← Int.ofNat_tmod, ← BitVec.toNat_umod]
@[simp] theorem u8_to_u8 (x : BitVec 8) : convInt .u8 (u8 x) = some (u8 (x.setWidth 8)) := by
  simp only [u8_def, u16_def, u32_def, u64_def]; rw [convInt_int, wrap_ofInt .u8 rfl]; simp only [IntKind.bits, BitVec.ofInt_natCast, BitVec.ofNat_toNat]
@[simp] theorem u8_to_u16 (x : BitVec 8) : convInt .u16 (u8 x) = some (u16 (x.setWidth 16)) := by
  simp only [u8_def, u16_def, u32_def, u64_def]; rw [convInt_int, wrap_ofInt .u16 rfl]; simp only [IntKind.bits, BitVec.ofInt_natCast, BitVec.ofNat_toNat]
@[simp] theorem u8_to_u32 (x : BitVec 8) : convInt .u32 (u8 x) = some (u32 (x.setWidth 32)) := by
  simp only [u8_def, u16_def, u32_def, u64_def]; rw [convInt_int, wrap_ofInt .u32 rfl]; simp only [IntKind.bits, BitVec.ofInt_natCast, BitVec.ofNat_toNat]
@[simp] theorem u8_to_u64 (x : BitVec 8) : convInt .u64 (u8 x) = some (u64 (x.setWidth 64)) := by
  simp only [u8_def, u16_def, u32_def, u64_def]; rw [convInt_int, wrap_ofInt .u64 rfl]; simp only [IntKind.bits, BitVec.ofInt_natCast, BitVec.ofNat_toNat]
@[simp] theorem u8_to_i64 (x : BitVec 8) : convInt .i64 (u8 x) = some (vi (x.toNat : Int)) := by
  have := x.isLt
  simp only [u8_def]; rw [convInt_int, wrap_i64 (by omega) (by omega)]
@[simp] theorem i64_to_u8 (n : Int) : convInt .u8 (vi n) = some (u8 (BitVec.ofInt 8 n)) := by
  simp only [u8_def]; rw [convInt_int, wrap_ofInt .u8 rfl]; simp only [IntKind.bits]
@[simp] theorem u16_lit (n : Nat) (h : n < 2 ^ 16) : (.int .u16 (no_index (OfNat.ofNat n)) : Value) = u16 (BitVec.ofNat 16 n) := by
  rw [u16_def, BitVec.toNat_ofNat, Nat.mod_eq_of_lt h]; rfl
@[simp] theorem u16_lit0 : (.int .u16 0 : Value) = u16 0#16 := rfl
@[simp] theorem u16_lit1 : (.int .u16 1 : Value) = u16 1#16 := rfl
@[simp] theorem defd_u16 (x : BitVec 16) : defd (u16 x) = true := rfl
@[simp] theorem plain1_u16 (x : BitVec 16) : plain1 (u16 x) = true := rfl
@[simp] theorem cells_u16 (x : BitVec 16) : (u16 x).cells = #[u16 x] := rfl
@[simp] theorem u16_inj (x y : BitVec 16) : u16 x = u16 y ↔ x = y := by
  simp only [u16_def, Value.int.injEq, true_and, bv_inj]
@[simp] theorem same_u16 (x y : BitVec 16) : sameCell 0 (u16 x) (u16 y) = some (decide (x = y)) := by
  simp only [u16_def, sameCell, if_true]; congr 1; rw [Bool.eq_iff_iff]; simp [bv_inj, BitVec.toNat_inj]
@[simp] theorem ixSlc_u16 (sz : Nat) (v : Value) (x : BitVec 16) : ixSlc sz v (u16 x) = ixSlc sz v (vi (x.toNat : Int)) := by
  simp only [u16_def]; cases v <;> first | rfl | (rename_i a; cases a <;> rfl) | (rename_i a n c; cases a <;> rfl)
@[simp] theorem ixArr_u16 (len sz : Nat) (v : Value) (x : BitVec 16) : ixArr len sz v (u16 x) = ixArr len sz v (vi (x.toNat : Int)) := by
  simp only [u16_def]; cases v <;> first | rfl | (rename_i a; cases a <;> rfl) | (rename_i a n c; cases a <;> rfl)
@[simp] theorem ixStr_u16 (v : Value) (x : BitVec 16) : ixStr v (u16 x) = ixStr v (vi (x.toNat : Int)) := by
  simp only [u16_def]; cases v <;> first | rfl | (rename_i a; cases a <;> rfl) | (rename_i a n c; cases a <;> rfl)
@[simp] theorem u16_add (x y : BitVec 16) : binInt .add (u16 x) (u16 y) = some (u16 (x + y)) := by
  simp only [u16_def]; rw [binInt_add, wrap_ofInt .u16 rfl]; simp only [IntKind.bits, BitVec.ofInt_add, bv_ofInt_nat]
@[simp] theorem u16_sub (x y : BitVec 16) : binInt .sub (u16 x) (u16 y) = some (u16 (x - y)) := by
  simp only [u16_def]; rw [binInt_sub, wrap_ofInt .u16 rfl]; simp only [IntKind.bits, bv_ofInt_sub, bv_ofInt_nat]
@[simp] theorem u16_mul (x y : BitVec 16) : binInt .mul (u16 x) (u16 y) = some (u16 (x * y)) := by
  simp only [u16_def]; rw [binInt_mul, wrap_ofInt .u16 rfl]; simp only [IntKind.bits, BitVec.ofInt_mul, bv_ofInt_nat]
@[simp] theorem u16_and (x y : BitVec 16) : binInt .and (u16 x) (u16 y) = some (u16 (x &&& y)) := by
  simp only [u16_def]; rw [binInt_and]; simp only [IntKind.bits, bv_ofInt_nat]; exact congrArg (fun z => some (Value.int .u16 z)) (wrap_bv .u16 rfl _)
@[simp] theorem u16_or (x y : BitVec 16) : binInt .or (u16 x) (u16 y) = some (u16 (x ||| y)) := by
  simp only [u16_def]; rw [binInt_or]; simp only [IntKind.bits, bv_ofInt_nat]; exact congrArg (fun z => some (Value.int .u16 z)) (wrap_bv .u16 rfl _)
@[simp] theorem u16_xor (x y : BitVec 16) : binInt .xor (u16 x) (u16 y) = some (u16 (x ^^^ y)) := by
  simp only [u16_def]; rw [binInt_xor]; simp only [IntKind.bits, bv_ofInt_nat]; exact congrArg (fun z => some (Value.int .u16 z)) (wrap_bv .u16 rfl _)
@[simp] theorem u16_andNot (x y : BitVec 16) : binInt .andNot (u16 x) (u16 y) = some (u16 (x &&& ~~~y)) := by
  simp only [u16_def]; rw [binInt_andNot]; simp only [IntKind.bits, bv_ofInt_nat]; exact congrArg (fun z => some (Value.int .u16 z)) (wrap_bv .u16 rfl _)
@[simp] theorem u16_shr (x : BitVec 16) (k : IntKind) (n : Nat) : binInt .shr (u16 x) (.int k (n : Int)) = some (u16 (x >>> n)) := by
  have h : ¬ ((n : Int) < 0) := by omega
  simp only [u16_def, binInt, h, if_false, Int.toNat_natCast, IntKind.bits, bv_shr]
@[simp] theorem u16_shl (x : BitVec 16) (k : IntKind) (n : Nat) : binInt .shl (u16 x) (.int k (n : Int)) = some (u16 (x <<< n)) := by
  have h : ¬ ((n : Int) < 0) := by omega
  simp only [u16_def, binInt, h, if_false, Int.toNat_natCast]; rw [wrap_ofInt .u16 rfl]; simp only [IntKind.bits, bv_shl]
@[simp] theorem u16_shr_lit (x : BitVec 16) (k : IntKind) (n : Nat) : binInt .shr (u16 x) (.int k (no_index (OfNat.ofNat n))) = some (u16 (x >>> n)) := u16_shr x k n
@[simp] theorem u16_shr_u8 (x : BitVec 16) (y : BitVec 8) : binInt .shr (u16 x) (u8 y) = some (u16 (x >>> y.toNat)) := u16_shr x .u8 y.toNat
@[simp] theorem u16_shr_u16 (x : BitVec 16) (y : BitVec 16) : binInt .shr (u16 x) (u16 y) = some (u16 (x >>> y.toNat)) := u16_shr x .u16 y.toNat
@[simp] theorem u16_shr_u32 (x : BitVec 16) (y : BitVec 32) : binInt .shr (u16 x) (u32 y) = some (u16 (x >>> y.toNat)) := u16_shr x .u32 y.toNat
@[simp] theorem u16_shr_u64 (x : BitVec 16) (y : BitVec 64) : binInt .shr (u16 x) (u64 y) = some (u16 (x >>> y.toNat)) := u16_shr x .u64 y.toNat
@[simp] theorem u16_shl_lit (x : BitVec 16) (k : IntKind) (n : Nat) : binInt .shl (u16 x) (.int k (no_index (OfNat.ofNat n))) = some (u16 (x <<< n)) := u16_shl x k n
@[simp] theorem u16_shl_u8 (x : BitVec 16) (y : BitVec 8) : binInt .shl (u16 x) (u8 y) = some (u16 (x <<< y.toNat)) := u16_shl x .u8 y.toNat
@[simp] theorem u16_shl_u16 (x : BitVec 16) (y : BitVec 16) : binInt .shl (u16 x) (u16 y) = some (u16 (x <<< y.toNat)) := u16_shl x .u16 y.toNat
@[simp] theorem u16_shl_u32 (x : BitVec 16) (y : BitVec 32) : binInt .shl (u16 x) (u32 y) = some (u16 (x <<< y.toNat)) := u16_shl x .u32 y.toNat
@[simp] theorem u16_shl_u64 (x : BitVec 16) (y : BitVec 64) : binInt .shl (u16 x) (u64 y) = some (u16 (x <<< y.toNat)) := u16_shl x .u64 y.toNat
@[simp] theorem u16_eql (x y : BitVec 16) : binInt .eql (u16 x) (u16 y) = some (.bool (decide (x = y))) := by
  simp only [u16_def]; rw [binInt_eql]; simp only [bv_inj]
@[simp] theorem u16_neq (x y : BitVec 16) : binInt .neq (u16 x) (u16 y) = some (.bool (decide (x ≠ y))) := by
  simp only [u16_def]; rw [binInt_neq]; simp only [bv_inj, ne_eq]
@[simp] theorem u16_lss (x y : BitVec 16) : binInt .lss (u16 x) (u16 y) = some (.bool (decide (x.toNat < y.toNat))) := by
  simp only [u16_def]; rw [binInt_lss]; simp only [Int.ofNat_lt]
@[simp] theorem u16_leq (x y : BitVec 16) : binInt .leq (u16 x) (u16 y) = some (.bool (decide (x.toNat ≤ y.toNat))) := by
  simp only [u16_def]; rw [binInt_leq]; simp only [Int.ofNat_le]
@[simp] theorem u16_gtr (x y : BitVec 16) : binInt .gtr (u16 x) (u16 y) = some (.bool (decide (y.toNat < x.toNat))) := by
  simp only [u16_def]; rw [binInt_gtr]; simp only [Int.ofNat_lt]
@[simp] theorem u16_geq (x y : BitVec 16) : binInt .geq (u16 x) (u16 y) = some (.bool (decide (y.toNat ≤ x.toNat))) := by
  simp only [u16_def]; rw [binInt_geq]; simp only [Int.ofNat_le]
@[simp] theorem u16_quo (x y : BitVec 16) (h : y ≠ 0#16) : binInt .quo (u16 x) (u16 y) = some (u16 (x / y)) := by
  simp only [u16_def]; rw [binInt_quo _ _ _ (fun k => h (BitVec.eq_of_toNat_eq (by have : y.toNat = 0 := (by exact_mod_cast k); simpa using this))), ← Int.ofNat_tdiv, ← BitVec.toNat_udiv]
  exact congrArg (fun z => some (Value.int .u16 z)) (wrap_bv .u16 rfl _)
@[simp] theorem u16_rem (x y : BitVec 16) (h : y ≠ 0#16) : binInt .rem (u16 x) (u16 y) = some (u16 (x % y)) := by
  simp only [u16_def]; rw [binInt_rem _ _ _ (fun k => h (BitVec.eq_of_toNat_eq (by have : y.toNat = 0 := (by exact_mod_cast k); simpa using this))), ← Int.ofNat_tmod, ← BitVec.toNat_umod]
@[simp] theorem u16_to_u8 (x : BitVec 16) : convInt .u8 (u16 x) = some (u8 (x.setWidth 8)) := by
  simp only [u8_def, u16_def, u32_def, u64_def]; rw [convInt_int, wrap_ofInt .u8 rfl]; simp only [IntKind.bits, BitVec.ofInt_natCast, BitVec.ofNat_toNat]
@[simp] theorem u16_to_u16 (x : BitVec 16) : convInt .u16 (u16 x) = some (u16 (x.setWidth 16)) := by
  simp only [u8_def, u16_def, u32_def, u64_def]; rw [convInt_int, wrap_ofInt .u16 rfl]; simp only [IntKind.bits, BitVec.ofInt_natCast, BitVec.ofNat_toNat]
@[simp] theorem u16_to_u32 (x : BitVec 16) : convInt .u32 (u16 x) = some (u32 (x.setWidth 32)) := by
  simp only [u8_def, u16_def, u32_def, u64_def]; rw [convInt_int, wrap_ofInt .u32 rfl]; simp only [IntKind.bits, BitVec.ofInt_natCast, BitVec.ofNat_toNat]
@[simp] theorem u16_to_u64 (x : BitVec 16) : convInt .u64 (u16 x) = some (u64 (x.setWidth 64)) := by
  simp only [u8_def, u16_def, u32_def, u64_def]; rw [convInt_int, wrap_ofInt .u64 rfl]; simp only [IntKind.bits, BitVec.ofInt_natCast, BitVec.ofNat_toNat]
@[simp] theorem u16_to_i64 (x : BitVec 16) : convInt .i64 (u16 x) = some (vi (x.toNat : Int)) := by
  have := x.isLt
  simp only [u16_def]; rw [convInt_int, wrap_i64 (by omega) (by omega)]
@[simp] theorem i64_to_u16 (n : Int) : convInt .u16 (vi n) = some (u16 (BitVec.ofInt 16 n)) := by
  simp only [u16_def]; rw [convInt_int, wrap_ofInt .u16 rfl]; simp only [IntKind.bits]
@[simp] theorem u32_lit (n : Nat) (h : n < 2 ^ 32) : (.int .u32 (no_index (OfNat.ofNat n)) : Value) = u32 (BitVec.ofNat 32 n) := by
  rw [u32_def, BitVec.toNat_ofNat, Nat.mod_eq_of_lt h]; rfl
@[simp] theorem u32_lit0 : (.int .u32 0 : Value) = u32 0#32 := rfl
@[simp] theorem u32_lit1 : (.int .u32 1 : Value) = u32 1#32 := rfl
@[simp] theorem defd_u32 (x : BitVec 32) : defd (u32 x) = true := rfl
@[simp] theorem plain1_u32 (x : BitVec 32) : plain1 (u32 x) = true := rfl
@[simp] theorem cells_u32 (x : BitVec 32) : (u32 x).cells = #[u32 x] := rfl
@[simp] theorem u32_inj (x y : BitVec 32) : u32 x = u32 y ↔ x = y := by
  simp only [u32_def, Value.int.injEq, true_and, bv_inj]
@[simp] theorem same_u32 (x y : BitVec 32) : sameCell 0 (u32 x) (u32 y) = some (decide (x = y)) := by
  simp only [u32_def, sameCell, if_true]; congr 1; rw [Bool.eq_iff_iff]; simp [bv_inj, BitVec.toNat_inj]
@[simp] theorem ixSlc_u32 (sz : Nat) (v : Value) (x : BitVec 32) : ixSlc sz v (u32 x) = ixSlc sz v (vi (x.toNat : Int)) := by
  simp only [u32_def]; cases v <;> first | rfl | (rename_i a; cases a <;> rfl) | (rename_i a n c; cases a <;> rfl)
@[simp] theorem ixArr_u32 (len sz : Nat) (v : Value) (x : BitVec 32) : ixArr len sz v (u32 x) = ixArr len sz v (vi (x.toNat : Int)) := by
  simp only [u32_def]; cases v <;> first | rfl | (rename_i a; cases a <;> rfl) | (rename_i a n c; cases a <;> rfl)
@[simp] theorem ixStr_u32 (v : Value) (x : BitVec 32) : ixStr v (u32 x) = ixStr v (vi (x.toNat : Int)) := by
  simp only [u32_def]; cases v <;> first | rfl | (rename_i a; cases a <;> rfl) | (rename_i a n c; cases a <;> rfl)
@[simp] theorem u32_add (x y : BitVec 32) : binInt .add (u32 x) (u32 y) = some (u32 (x + y)) := by
  simp only [u32_def]; rw [binInt_add, wrap_ofInt .u32 rfl]; simp only [IntKind.bits, BitVec.ofInt_add, bv_ofInt_nat]
@[simp] theorem u32_sub (x y : BitVec 32) : binInt .sub (u32 x) (u32 y) = some (u32 (x - y)) := by
  simp only [u32_def]; rw [binInt_sub, wrap_ofInt .u32 rfl]; simp only [IntKind.bits, bv_ofInt_sub, bv_ofInt_nat]
@[simp] theorem u32_mul (x y : BitVec 32) : binInt .mul (u32 x) (u32 y) = some (u32 (x * y)) := by
  simp only [u32_def]; rw [binInt_mul, wrap_ofInt .u32 rfl]; simp only [IntKind.bits, BitVec.ofInt_mul, bv_ofInt_nat]
@[simp] theorem u32_and (x y : BitVec 32) : binInt .and (u32 x) (u32 y) = some (u32 (x &&& y)) := by
  simp only [u32_def]; rw [binInt_and]; simp only [IntKind.bits, bv_ofInt_nat]; exact congrArg (fun z => some (Value.int .u32 z)) (wrap_bv .u32 rfl _)
@[simp] theorem u32_or (x y : BitVec 32) : binInt .or (u32 x) (u32 y) = some (u32 (x ||| y)) := by
  simp only [u32_def]; rw [binInt_or]; simp only [IntKind.bits, bv_ofInt_nat]; exact congrArg (fun z => some (Value.int .u32 z)) (wrap_bv .u32 rfl _)
@[simp] theorem u32_xor (x y : BitVec 32) : binInt .xor (u32 x) (u32 y) = some (u32 (x ^^^ y)) := by
  simp only [u32_def]; rw [binInt_xor]; simp only [IntKind.bits, bv_ofInt_nat]; exact congrArg (fun z => some (Value.int .u32 z)) (wrap_bv .u32 rfl _)
@[simp] theorem u32_andNot (x y : BitVec 32) : binInt .andNot (u32 x) (u32 y) = some (u32 (x &&& ~~~y)) := by
  simp only [u32_def]; rw [binInt_andNot]; simp only [IntKind.bits, bv_ofInt_nat]; exact congrArg (fun z => some (Value.int .u32 z)) (wrap_bv .u32 rfl _)
@[simp] theorem u32_shr (x : BitVec 32) (k : IntKind) (n : Nat) : binInt .shr (u32 x) (.int k (n : Int)) = some (u32 (x >>> n)) := by
  have h : ¬ ((n : Int) < 0) := by omega
  simp only [u32_def, binInt, h, if_false, Int.toNat_natCast, IntKind.bits, bv_shr]
@[simp] theorem u32_shl (x : BitVec 32) (k : IntKind) (n : Nat) : binInt .shl (u32 x) (.int k (n : Int)) = some (u32 (x <<< n)) := by
  have h : ¬ ((n : Int) < 0) := by omega
  simp only [u32_def, binInt, h, if_false, Int.toNat_natCast]; rw [wrap_ofInt .u32 rfl]; simp only [IntKind.bits, bv_shl]
@[simp] theorem u32_shr_lit (x : BitVec 32) (k : IntKind) (n : Nat) : binInt .shr (u32 x) (.int k (no_index (OfNat.ofNat n))) = some (u32 (x >>> n)) := u32_shr x k n
@[simp] theorem u32_shr_u8 (x : BitVec 32) (y : BitVec 8) : binInt .shr (u32 x) (u8 y) = some (u32 (x >>> y.toNat)) := u32_shr x .u8 y.toNat
@[simp] theorem u32_shr_u16 (x : BitVec 32) (y : BitVec 16) : binInt .shr (u32 x) (u16 y) = some (u32 (x >>> y.toNat)) := u32_shr x .u16 y.toNat
@[simp] theorem u32_shr_u32 (x : BitVec 32) (y : BitVec 32) : binInt .shr (u32 x) (u32 y) = some (u32 (x >>> y.toNat)) := u32_shr x .u32 y.toNat
@[simp] theorem u32_shr_u64 (x : BitVec 32) (y : BitVec 64) : binInt .shr (u32 x) (u64 y) = some (u32 (x >>> y.toNat)) := u32_shr x .u64 y.toNat
@[simp] theorem u32_shl_lit (x : BitVec 32) (k : IntKind) (n : Nat) : binInt .shl (u32 x) (.int k (no_index (OfNat.ofNat n))) = some (u32 (x <<< n)) := u32_shl x k n
@[simp] theorem u32_shl_u8 (x : BitVec 32) (y : BitVec 8) : binInt .shl (u32 x) (u8 y) = some (u32 (x <<< y.toNat)) := u32_shl x .u8 y.toNat
@[simp] theorem u32_shl_u16 (x : BitVec 32) (y : BitVec 16) : binInt .shl (u32 x) (u16 y) = some (u32 (x <<< y.toNat)) := u32_shl x .u16 y.toNat
@[simp] theorem u32_shl_u32 (x : BitVec 32) (y : BitVec 32) : binInt .shl (u32 x) (u32 y) = some (u32 (x <<< y.toNat)) := u32_shl x .u32 y.toNat
@[simp] theorem u32_shl_u64 (x : BitVec 32) (y : BitVec 64) : binInt .shl (u32 x) (u64 y) = some (u32 (x <<< y.toNat)) := u32_shl x .u64 y.toNat
@[simp] theorem u32_eql (x y : BitVec 32) : binInt .eql (u32 x) (u32 y) = some (.bool (decide (x = y))) := by
  simp only [u32_def]; rw [binInt_eql]; simp only [bv_inj]
@[simp] theorem u32_neq (x y : BitVec 32) : binInt .neq (u32 x) (u32 y) = some (.bool (decide (x ≠ y))) := by
  simp only [u32_def]; rw [binInt_neq]; simp only [bv_inj, ne_eq]
@[simp] theorem u32_lss (x y : BitVec 32) : binInt .lss (u32 x) (u32 y) = some (.bool (decide (x.toNat < y.toNat))) := by
  simp only [u32_def]; rw [binInt_lss]; simp only [Int.ofNat_lt]
@[simp] theorem u32_leq (x y : BitVec 32) : binInt .leq (u32 x) (u32 y) = some (.bool (decide (x.toNat ≤ y.toNat))) := by
  simp only [u32_def]; rw [binInt_leq]; simp only [Int.ofNat_le]
@[simp] theorem u32_gtr (x y : BitVec 32) : binInt .gtr (u32 x) (u32 y) = some (.bool (decide (y.toNat < x.toNat))) := by
  simp only [u32_def]; rw [binInt_gtr]; simp only [Int.ofNat_lt]
@[simp] theorem u32_geq (x y : BitVec 32) : binInt .geq (u32 x) (u32 y) = some (.bool (decide (y.toNat ≤ x.toNat))) := by
  simp only [u32_def]; rw [binInt_geq]; simp only [Int.ofNat_le]
@[simp] theorem u32_quo (x y : BitVec 32) (h : y ≠ 0#32) : binInt .quo (u32 x) (u32 y) = some (u32 (x / y)) := by
  simp only [u32_def]; rw [binInt_quo _ _ _ (fun k => h (BitVec.eq_of_toNat_eq (by have : y.toNat = 0 := (by exact_mod_cast k); simpa using this))), ← Int.ofNat_tdiv, ← BitVec.toNat_udiv]
  exact congrArg (fun z => some (Value.int .u32 z)) (wrap_bv .u32 rfl _)
@[simp] theorem u32_rem (x y : BitVec 32) (h : y ≠ 0#32) : binInt .rem (u32 x) (u32 y) = some (u32 (x % y)) := by
  simp only [u32_def]; rw [binInt_rem _ _ _ (fun k => h (BitVec.eq_of_toNat_eq (by have : y.toNat = 0 := (by exact_mod_cast k); simpa using this))), ← Int.ofNat_tmod, ← BitVec.toNat_umod]
@[simp] theorem u32_to_u8 (x : BitVec 32) : convInt .u8 (u32 x) = some (u8 (x.setWidth 8)) := by
  simp only [u8_def, u16_def, u32_def, u64_def]; rw [convInt_int, wrap_ofInt .u8 rfl]; simp only [IntKind.bits, BitVec.ofInt_natCast, BitVec.ofNat_toNat]
@[simp] theorem u32_to_u16 (x : BitVec 32) : convInt .u16 (u32 x) = some (u16 (x.setWidth 16)) := by
  simp only [u8_def, u16_def, u32_def, u64_def]; rw [convInt_int, wrap_ofInt .u16 rfl]; simp only [IntKind.bits, BitVec.ofInt_natCast, BitVec.ofNat_toNat]
@[simp] theorem u32_to_u32 (x : BitVec 32) : convInt .u32 (u32 x) = some (u32 (x.setWidth 32)) := by
  simp only [u8_def, u16_def, u32_def, u64_def]; rw [convInt_int, wrap_ofInt .u32 rfl]; simp only [IntKind.bits, BitVec.ofInt_natCast, BitVec.ofNat_toNat]
@[simp] theorem u32_to_u64 (x : BitVec 32) : convInt .u64 (u32 x) = some (u64 (x.setWidth 64)) := by
  simp only [u8_def, u16_def, u32_def, u64_def]; rw [convInt_int, wrap_ofInt .u64 rfl]; simp only [IntKind.bits, BitVec.ofInt_natCast, BitVec.ofNat_toNat]
@[simp] theorem u32_to_i64 (x : BitVec 32) : convInt .i64 (u32 x) = some (vi (x.toNat : Int)) := by
  have := x.isLt
  simp only [u32_def]; rw [convInt_int, wrap_i64 (by omega) (by omega)]
@[simp] theorem i64_to_u32 (n : Int) : convInt .u32 (vi n) = some (u32 (BitVec.ofInt 32 n)) := by
  simp only [u32_def]; rw [convInt_int, wrap_ofInt .u32 rfl]; simp only [IntKind.bits]
@[simp] theorem u64_lit (n : Nat) (h : n < 2 ^ 64) : (.int .u64 (no_index (OfNat.ofNat n)) : Value) = u64 (BitVec.ofNat 64 n) := by
  rw [u64_def, BitVec.toNat_ofNat, Nat.mod_eq_of_lt h]; rfl
@[simp] theorem u64_lit0 : (.int .u64 0 : Value) = u64 0#64 := rfl
@[simp] theorem u64_lit1 : (.int .u64 1 : Value) = u64 1#64 := rfl
@[simp] theorem defd_u64 (x : BitVec 64) : defd (u64 x) = true := rfl
@[simp] theorem plain1_u64 (x : BitVec 64) : plain1 (u64 x) = true := rfl
@[simp] theorem cells_u64 (x : BitVec 64) : (u64 x).cells = #[u64 x] := rfl
@[simp] theorem u64_inj (x y : BitVec 64) : u64 x = u64 y ↔ x = y := by
  simp only [u64_def, Value.int.injEq, true_and, bv_inj]
@[simp] theorem same_u64 (x y : BitVec 64) : sameCell 0 (u64 x) (u64 y) = some (decide (x = y)) := by
  simp only [u64_def, sameCell, if_true]; congr 1; rw [Bool.eq_iff_iff]; simp [bv_inj, BitVec.toNat_inj]
@[simp] theorem ixSlc_u64 (sz : Nat) (v : Value) (x : BitVec 64) : ixSlc sz v (u64 x) = ixSlc sz v (vi (x.toNat : Int)) := by
  simp only [u64_def]; cases v <;> first | rfl | (rename_i a; cases a <;> rfl) | (rename_i a n c; cases a <;> rfl)
@[simp] theorem ixArr_u64 (len sz : Nat) (v : Value) (x : BitVec 64) : ixArr len sz v (u64 x) = ixArr len sz v (vi (x.toNat : Int)) := by
  simp only [u64_def]; cases v <;> first | rfl | (rename_i a; cases a <;> rfl) | (rename_i a n c; cases a <;> rfl)
@[simp] theorem ixStr_u64 (v : Value) (x : BitVec 64) : ixStr v (u64 x) = ixStr v (vi (x.toNat : Int)) := by
  simp only [u64_def]; cases v <;> first | rfl | (rename_i a; cases a <;> rfl) | (rename_i a n c; cases a <;> rfl)
@[simp] theorem u64_add (x y : BitVec 64) : binInt .add (u64 x) (u64 y) = some (u64 (x + y)) := by
  simp only [u64_def]; rw [binInt_add, wrap_ofInt .u64 rfl]; simp only [IntKind.bits, BitVec.ofInt_add, bv_ofInt_nat]
@[simp] theorem u64_sub (x y : BitVec 64) : binInt .sub (u64 x) (u64 y) = some (u64 (x - y)) := by
  simp only [u64_def]; rw [binInt_sub, wrap_ofInt .u64 rfl]; simp only [IntKind.bits, bv_ofInt_sub, bv_ofInt_nat]
@[simp] theorem u64_mul (x y : BitVec 64) : binInt .mul (u64 x) (u64 y) = some (u64 (x * y)) := by
  simp only [u64_def]; rw [binInt_mul, wrap_ofInt .u64 rfl]; simp only [IntKind.bits, BitVec.ofInt_mul, bv_ofInt_nat]
@[simp] theorem u64_and (x y : BitVec 64) : binInt .and (u64 x) (u64 y) = some (u64 (x &&& y)) := by
  simp only [u64_def]; rw [binInt_and]; simp only [IntKind.bits, bv_ofInt_nat]; exact congrArg (fun z => some (Value.int .u64 z)) (wrap_bv .u64 rfl _)
@[simp] theorem u64_or (x y : BitVec 64) : binInt .or (u64 x) (u64 y) = some (u64 (x ||| y)) := by
  simp only [u64_def]; rw [binInt_or]; simp only [IntKind.bits, bv_ofInt_nat]; exact congrArg (fun z => some (Value.int .u64 z)) (wrap_bv .u64 rfl _)
@[simp] theorem u64_xor (x y : BitVec 64) : binInt .xor (u64 x) (u64 y) = some (u64 (x ^^^ y)) := by
  simp only [u64_def]; rw [binInt_xor]; simp only [IntKind.bits, bv_ofInt_nat]; exact congrArg (fun z => some (Value.int .u64 z)) (wrap_bv .u64 rfl _)
@[simp] theorem u64_andNot (x y : BitVec 64) : binInt .andNot (u64 x) (u64 y) = some (u64 (x &&& ~~~y)) := by
  simp only [u64_def]; rw [binInt_andNot]; simp only [IntKind.bits, bv_ofInt_nat]; exact congrArg (fun z => some (Value.int .u64 z)) (wrap_bv .u64 rfl _)
@[simp] theorem u64_shr (x : BitVec 64) (k : IntKind) (n : Nat) : binInt .shr (u64 x) (.int k (n : Int)) = some (u64 (x >>> n)) := by
  have h : ¬ ((n : Int) < 0) := by omega
  simp only [u64_def, binInt, h, if_false, Int.toNat_natCast, IntKind.bits, bv_shr]
@[simp] theorem u64_shl (x : BitVec 64) (k : IntKind) (n : Nat) : binInt .shl (u64 x) (.int k (n : Int)) = some (u64 (x <<< n)) := by
  have h : ¬ ((n : Int) < 0) := by omega
  simp only [u64_def, binInt, h, if_false, Int.toNat_natCast]; rw [wrap_ofInt .u64 rfl]; simp only [IntKind.bits, bv_shl]
@[simp] theorem u64_shr_lit (x : BitVec 64) (k : IntKind) (n : Nat) : binInt .shr (u64 x) (.int k (no_index (OfNat.ofNat n))) = some (u64 (x >>> n)) := u64_shr x k n
@[simp] theorem u64_shr_u8 (x : BitVec 64) (y : BitVec 8) : binInt .shr (u64 x) (u8 y) = some (u64 (x >>> y.toNat)) := u64_shr x .u8 y.toNat
@[simp] theorem u64_shr_u16 (x : BitVec 64) (y : BitVec 16) : binInt .shr (u64 x) (u16 y) = some (u64 (x >>> y.toNat)) := u64_shr x .u16 y.toNat
@[simp] theorem u64_shr_u32 (x : BitVec 64) (y : BitVec 32) : binInt .shr (u64 x) (u32 y) = some (u64 (x >>> y.toNat)) := u64_shr x .u32 y.toNat
@[simp] theorem u64_shr_u64 (x : BitVec 64) (y : BitVec 64) : binInt .shr (u64 x) (u64 y) = some (u64 (x >>> y.toNat)) := u64_shr x .u64 y.toNat
@[simp] theorem u64_shl_lit (x : BitVec 64) (k : IntKind) (n : Nat) : binInt .shl (u64 x) (.int k (no_index (OfNat.ofNat n))) = some (u64 (x <<< n)) := u64_shl x k n
@[simp] theorem u64_shl_u8 (x : BitVec 64) (y : BitVec 8) : binInt .shl (u64 x) (u8 y) = some (u64 (x <<< y.toNat)) := u64_shl x .u8 y.toNat
@[simp] theorem u64_shl_u16 (x : BitVec 64) (y : BitVec 16) : binInt .shl (u64 x) (u16 y) = some (u64 (x <<< y.toNat)) := u64_shl x .u16 y.toNat
@[simp] theorem u64_shl_u32 (x : BitVec 64) (y : BitVec 32) : binInt .shl (u64 x) (u32 y) = some (u64 (x <<< y.toNat)) := u64_shl x .u32 y.toNat
@[simp] theorem u64_shl_u64 (x : BitVec 64) (y : BitVec 64) : binInt .shl (u64 x) (u64 y) = some (u64 (x <<< y.toNat)) := u64_shl x .u64 y.toNat
@[simp] theorem u64_eql (x y : BitVec 64) : binInt .eql (u64 x) (u64 y) = some (.bool (decide (x = y))) := by
  simp only [u64_def]; rw [binInt_eql]; simp only [bv_inj]
@[simp] theorem u64_neq (x y : BitVec 64) : binInt .neq (u64 x) (u64 y) = some (.bool (decide (x ≠ y))) := by
  simp only [u64_def]; rw [binInt_neq]; simp only [bv_inj, ne_eq]
@[simp] theorem u64_lss (x y : BitVec 64) : binInt .lss (u64 x) (u64 y) = some (.bool (decide (x.toNat < y.toNat))) := by
  simp only [u64_def]; rw [binInt_lss]; simp only [Int.ofNat_lt]
@[simp] theorem u64_leq (x y : BitVec 64) : binInt .leq (u64 x) (u64 y) = some (.bool (decide (x.toNat ≤ y.toNat))) := by
  simp only [u64_def]; rw [binInt_leq]; simp only [Int.ofNat_le]
@[simp] theorem u64_gtr (x y : BitVec 64) : binInt .gtr (u64 x) (u64 y) = some (.bool (decide (y.toNat < x.toNat))) := by
  simp only [u64_def]; rw [binInt_gtr]; simp only [Int.ofNat_lt]
@[simp] theorem u64_geq (x y : BitVec 64) : binInt .geq (u64 x) (u64 y) = some (.bool (decide (y.toNat ≤ x.toNat))) := by
  simp only [u64_def]; rw [binInt_geq]; simp only [Int.ofNat_le]
@[simp] theorem u64_quo (x y : BitVec 64) (h : y ≠ 0#64) : binInt .quo (u64 x) (u64 y) = some (u64 (x / y)) := by
  simp only [u64_def]; rw [binInt_quo _ _ _ (fun k => h (BitVec.eq_of_toNat_eq (by have : y.toNat = 0 := (by exact_mod_cast k); simpa using this))), ← Int.ofNat_tdiv, ← BitVec.toNat_udiv]
  exact congrArg (fun z => some (Value.int .u64 z)) (wrap_bv .u64 rfl _)
@[simp] theorem u64_rem (x y : BitVec 64) (h : y ≠ 0#64) : binInt .rem (u64 x) (u64 y) = some (u64 (x % y)) := by
  simp only [u64_def]; rw [binInt_rem _ _ _ (fun k => h (BitVec.eq_of_toNat_eq (by have : y.toNat = 0 := (by exact_mod_cast k); simpa using this))), ← Int.ofNat_tmod, ← BitVec.toNat_umod]
@[simp] theorem u64_to_u8 (x : BitVec 64) : convInt .u8 (u64 x) = some (u8 (x.setWidth 8)) := by
  simp only [u8_def, u16_def, u32_def, u64_def]; rw [convInt_int, wrap_ofInt .u8 rfl]; simp only [IntKind.bits, BitVec.ofInt_natCast, BitVec.ofNat_toNat]
@[simp] theorem u64_to_u16 (x : BitVec 64) : convInt .u16 (u64 x) = some (u16 (x.setWidth 16)) := by
  simp only [u8_def, u16_def, u32_def, u64_def]; rw [convInt_int, wrap_ofInt .u16 rfl]; simp only [IntKind.bits, BitVec.ofInt_natCast, BitVec.ofNat_toNat]
@[simp] theorem u64_to_u32 (x : BitVec 64) : convInt .u32 (u64 x) = some (u32 (x.setWidth 32)) := by
  simp only [u8_def, u16_def, u32_def, u64_def]; rw [convInt_int, wrap_ofInt .u32 rfl]; simp only [IntKind.bits, BitVec.ofInt_natCast, BitVec.ofNat_toNat]
@[simp] theorem u64_to_u64 (x : BitVec 64) : convInt .u64 (u64 x) = some (u64 (x.setWidth 64)) := by
  simp only [u8_def, u16_def, u32_def, u64_def]; rw [convInt_int, wrap_ofInt .u64 rfl]; simp only [IntKind.bits, BitVec.ofInt_natCast, BitVec.ofNat_toNat]
@[simp] theorem i64_to_u64 (n : Int) : convInt .u64 (vi n) = some (u64 (BitVec.ofInt 64 n)) := by
  simp only [u64_def]; rw [convInt_int, wrap_ofInt .u64 rfl]; simp only [IntKind.bits]
end Go.AM
end
section
/- THE ABSTRACT MACHINE: structs, arrays and slices that are built, reckoned over lists; a heap that has grown. -/
namespace Go.AM

/-- A value's cells, as a list. -/
def vcells : Value → List Value
  | .agg a => a.toList
  | v => [v]
@[simp] theorem vcells_agg (a : Array Value) : vcells (.agg a) = a.toList := rfl
@[simp] theorem vcells_int (k : IntKind) (n : Int) : vcells (.int k n) = [.int k n] := rfl
@[simp] theorem vcells_bool (b : Bool) : vcells (.bool b) = [.bool b] := rfl
@[simp] theorem vcells_string (b : ByteArray) : vcells (.string b) = [.string b] := rfl
@[simp] theorem vcells_slice (o : Option Addr) (n c : Nat) : vcells (.slice o n c) = [.slice o n c] := rfl
@[simp] theorem vcells_pointer (o : Option Addr) : vcells (.pointer o) = [.pointer o] := rfl
@[simp] theorem vcells_map (o : Option Nat) : vcells (.map o) = [.map o] := rfl
@[simp] theorem vcells_func (g : Fn) (a b : Array Value) : vcells (.func g a b) = [.func g a b] := rfl
@[simp] theorem vcells_nilFunc : vcells .nilFunc = [.nilFunc] := rfl
@[simp] theorem vcells_iface (t : TypeId) (v : Value) : vcells (.iface t v) = [.iface t v] := rfl
@[simp] theorem vcells_nilIface : vcells .nilIface = [.nilIface] := rfl
@[simp] theorem vcells_u8 (x : BitVec 8) : vcells (u8 x) = [u8 x] := rfl
@[simp] theorem vcells_u16 (x : BitVec 16) : vcells (u16 x) = [u16 x] := rfl
@[simp] theorem vcells_u32 (x : BitVec 32) : vcells (u32 x) = [u32 x] := rfl
@[simp] theorem vcells_u64 (x : BitVec 64) : vcells (u64 x) = [u64 x] := rfl
theorem cells_toList (v : Value) : v.cells.toList = vcells v := by cases v <;> rfl

@[simp] theorem defd_agg (a : Array Value) : defd (.agg a) = true := rfl
@[simp] theorem defd_int (k : IntKind) (n : Int) : defd (.int k n) = true := rfl
@[simp] theorem defd_bool (b : Bool) : defd (.bool b) = true := rfl
@[simp] theorem defd_string (b : ByteArray) : defd (.string b) = true := rfl
@[simp] theorem defd_slice (o : Option Addr) (n c : Nat) : defd (.slice o n c) = true := rfl
@[simp] theorem defd_pointer (o : Option Addr) : defd (.pointer o) = true := rfl
@[simp] theorem defd_map (o : Option Nat) : defd (.map o) = true := rfl
@[simp] theorem defd_func (g : Fn) (a b : Array Value) : defd (.func g a b) = true := rfl
@[simp] theorem defd_nilFunc : defd .nilFunc = true := rfl
@[simp] theorem defd_iface (t : TypeId) (v : Value) : defd (.iface t v) = true := rfl
@[simp] theorem defd_nilIface : defd .nilIface = true := rfl
@[simp] theorem plain1_int (k : IntKind) (n : Int) : plain1 (.int k n) = true := rfl
@[simp] theorem plain1_bool (b : Bool) : plain1 (.bool b) = true := rfl
@[simp] theorem plain1_string (b : ByteArray) : plain1 (.string b) = true := rfl
@[simp] theorem plain1_slice (o : Option Addr) (n c : Nat) : plain1 (.slice o n c) = true := rfl
@[simp] theorem plain1_pointer (o : Option Addr) : plain1 (.pointer o) = true := rfl
@[simp] theorem plain1_map (o : Option Nat) : plain1 (.map o) = true := rfl
@[simp] theorem plain1_func (g : Fn) (a b : Array Value) : plain1 (.func g a b) = true := rfl
@[simp] theorem plain1_nilFunc : plain1 .nilFunc = true := rfl
@[simp] theorem plain1_iface (t : TypeId) (v : Value) : plain1 (.iface t v) = true := rfl
@[simp] theorem plain1_nilIface : plain1 .nilIface = true := rfl

/-- Parts laid over zeros. -/
def fillL (place : Nat → Option (Nat × Nat)) (cells : List Value) : List (Nat × Value) → Option (List Value)
  | [] => some cells
  | (i, v) :: rest =>
    match place i with
    | none => none
    | some (off, size) => if (vcells v).length = size ∧ off + size ≤ cells.length then fillL place (splice cells off (vcells v)) rest else none

theorem zipIdx_fold (vs : List Value) : ∀ (off k : Nat) (cells : Array Value), off + k + vs.length ≤ cells.size →
    (vs.zipIdx k).foldl (fun cs (p : Value × Nat) => cs.setIfInBounds (off + p.2) p.1) cells = (splice cells.toList (off + k) vs).toArray := by
  induction vs with
  | nil => intro off k cells h; simp [splice]
  | cons v vs ih =>
    intro off k cells h
    simp only [List.length_cons] at h
    simp only [List.zipIdx_cons, List.foldl_cons]
    rw [ih off (k + 1) _ (by simp; omega)]
    apply Array.toList_inj.1
    simp only [Array.toList_setIfInBounds, splice]
    apply List.ext_getElem?
    intro i
    have hl : off + k < cells.toList.length := by simp; omega
    simp only [List.getElem?_append, List.length_append, List.length_take, List.length_set, List.length_cons]
    by_cases h1 : i < off + k
    · have e1 : i < min (off + (k + 1)) cells.toList.length := by omega
      have e2 : i < min (off + k) cells.toList.length := by omega
      simp [e1, e2, h1, List.getElem?_take, List.getElem?_set, show ¬ (off + k = i) by omega, show i < off + (k+1) by omega, show i < min (off + (k+1)) cells.toList.length + vs.length by omega, show i < min (off + k) cells.toList.length + (vs.length + 1) by omega]
      have e3 : i < cells.size := by omega
      simp [show i < min (off + (k + 1)) cells.size by omega, show i < min (off + k) cells.size by omega, show i < min (off + (k+1)) cells.size + vs.length by omega, show i < min (off + k) cells.size + (vs.length + 1) by omega]
    · by_cases h2 : i = off + k
      · subst h2
        simp [List.getElem?_take, show off + k < cells.size by omega, show off + k < min (off + (k+1)) cells.size by omega, show ¬ off + k < min (off + k) cells.size by omega, show off + k < min (off + (k+1)) cells.size + vs.length by omega, show off + k < min (off + k) cells.size + (vs.length + 1) by omega, show off + k - min (off + k) cells.size = 0 by omega]
      · have e4 : ¬ i < min (off + (k + 1)) cells.size := by omega
        have e5 : ¬ i < min (off + k) cells.size := by omega
        have m1 : min (off + (k + 1)) cells.size = off + k + 1 := by omega
        have m2 : min (off + k) cells.size = off + k := by omega
        simp only [Array.length_toList, m1, m2]
        by_cases h3 : i < off + k + 1 + vs.length
        · simp [h3, show ¬ i < off + k + 1 by omega, show ¬ i < off + k by omega, show i < off + k + (vs.length + 1) by omega]
          rw [show i - (off + k) = (i - (off + k + 1)) + 1 by omega, List.getElem?_cons_succ]
        · simp [h3, show ¬ i < off + k + (vs.length + 1) by omega]
          have : i ≠ off + k := by omega
          rw [show off + (k + 1) + vs.length + (i - (off + k + 1 + vs.length)) = i by omega, show off + k + (vs.length + 1) + (i - (off + k + (vs.length + 1))) = i by omega]
          simp [List.getElem?_set, Ne.symm this]

theorem fill_fillL (place : Nat → Option (Nat × Nat)) : ∀ (parts : List (Nat × Value)) (cells : Array Value), Instr.fill place cells parts = (fillL place cells.toList parts).map (·.toArray) := by
  intro parts
  induction parts with
  | nil => intro cells; simp [Instr.fill, fillL]
  | cons p rest ih =>
    intro cells
    obtain ⟨i, v⟩ := p
    simp only [Instr.fill, fillL]
    cases place i with
    | none => rfl
    | some q =>
      obtain ⟨off, size⟩ := q
      simp only
      have e : v.cells.size = (vcells v).length := by rw [← cells_toList]; simp
      by_cases h : (vcells v).length = size ∧ off + size ≤ cells.toList.length
      · rw [if_pos h]
        have hc : ((v.cells.size ≠ size : Bool) || decide (off + v.cells.size > cells.size)) = false := by
          have h2 := h.2
          simp only [Array.length_toList] at h2
          simp [e, h.1]; omega
        rw [hc]
        simp only [Bool.false_eq_true, if_false]
        rw [ih]
        have hz : (v.cells.zipIdx.foldl (fun cs (c, j) => cs.setIfInBounds (off + j) c) cells) = (splice cells.toList off (vcells v)).toArray := by
          have := zipIdx_fold (vcells v) off 0 cells (by have h2 := h.2; simp only [Array.length_toList] at h2; omega)
          rw [← cells_toList] at this ⊢
          rw [show off + 0 = off from rfl] at this
          rw [← this]
          rw [← Array.foldl_toList, Array.toList_zipIdx]
        rw [hz]
      · rw [if_neg h]
        have hc : ((v.cells.size ≠ size : Bool) || decide (off + v.cells.size > cells.size)) = true := by
          simp only [Array.length_toList] at h
          simp [e]; omega
        rw [hc]; rfl

theorem repl_eq (len size : Nat) (zero : Array Value) (h : zero.size = size) : repl (len * size) zero = (List.replicate len zero.toList).flatten := by
  apply List.ext_getElem?
  intro i
  simp only [repl, Array.toList_map, Array.toList_range, List.getElem?_map]
  by_cases hz : size = 0
  · have : zero.toList = [] := by apply List.eq_nil_of_length_eq_zero; simp [h, hz]
    simp [hz, this]
  by_cases hi : i < len * size
  · rw [List.getElem?_range hi]
    have hm : i % size < zero.size := by rw [h]; exact Nat.mod_lt _ (by omega)
    have key : ∀ (n j : Nat), j < n * size → (List.replicate n zero.toList).flatten[j]? = some (zero[j % size]!) := by
      intro n
      induction n with
      | zero => intro j hj; simp at hj
      | succ n ih =>
        intro j hj
        simp only [List.replicate_succ, List.flatten_cons]
        by_cases hj2 : j < size
        · rw [List.getElem?_append_left (by simp [h]; exact hj2)]
          rw [Nat.mod_eq_of_lt hj2]
          have : j < zero.size := by omega
          simp [this]
        · rw [List.getElem?_append_right (by simp [h]; omega)]
          simp only [Array.length_toList, h]
          rw [Nat.succ_mul] at hj
          rw [ih (j - size) (by omega)]
          rw [Nat.mod_eq_sub_mod (by omega : j ≥ size)]
    rw [key len i hi]
    simp [h]
  · rw [List.getElem?_eq_none (by simp; omega), List.getElem?_eq_none]
    · rfl
    · simp [h, List.length_flatten, List.map_replicate, List.sum_replicate_nat]; omega

@[simp] theorem buildV_eq (places : List (Nat × Nat)) (zero : List Value) (parts : List (Nat × Value)) :
    buildV places zero.toArray parts = if parts.all (fun p => defd p.2) then (fillL (places[·]?) zero parts).map (fun l => .agg l.toArray) else none := by
  unfold buildV
  rw [fill_fillL]
  split <;> simp [Option.map_map, Function.comp_def]
@[simp] theorem buildA_eq (size : Nat) (zero : List Value) (parts : List (Nat × Value)) :
    buildA size zero.toArray parts = if parts.all (fun p => defd p.2) then (fillL (fun i => some (i * size, size)) zero parts).map (fun l => .agg l.toArray) else none := by
  unfold buildA
  rw [fill_fillL]
  split <;> simp [Option.map_map, Function.comp_def]
@[simp] theorem buildS_eq (len size : Nat) (zero : List Value) (parts : List (Nat × Value)) (h : zero.length = size) :
    buildS len size zero.toArray parts = if parts.all (fun p => defd p.2) then (fillL (fun i => some (i * size, size)) (List.replicate len zero).flatten parts).map (fun l => (.cells l none, fun b => slc b 0 len len)) else none := by
  unfold buildS
  rw [fill_fillL, repl_eq len size _ (by simpa using h)]
  split
  · simp [Option.map_map, Function.comp_def]
    rfl
  · rfl
@[simp] theorem fillL_nil (place : Nat → Option (Nat × Nat)) (cells : List Value) : fillL place cells [] = some cells := rfl
@[simp] theorem fillL_cons (place : Nat → Option (Nat × Nat)) (cells : List Value) (i : Nat) (v : Value) (rest : List (Nat × Value)) :
    fillL place cells ((i, v) :: rest) = match place i with
      | none => none
      | some (off, size) => if (vcells v).length = size ∧ off + size ≤ cells.length then fillL place (splice cells off (vcells v)) rest else none := rfl

/-! ### a heap that has grown -/
/-- What was there is there as it was. -/
def Ext (H H' : AH) : Prop := H.next ≤ H'.next ∧ ∀ b, b < H.next → H'.get b = H.get b
@[simp] theorem Ext.refl (H : AH) : Ext H H := ⟨Nat.le_refl _, fun _ _ => rfl⟩
theorem Ext.trans {H H' H'' : AH} (h : Ext H H') (h' : Ext H' H'') : Ext H H'' := ⟨Nat.le_trans h.1 h'.1, fun b hb => (h'.2 b (Nat.lt_of_lt_of_le hb h.1)).trans (h.2 b hb)⟩
@[simp] theorem Ext.new {H H' : AH} (h : Ext H H') (o : AObj) : Ext H (H'.new o) := ⟨Nat.le_succ_of_le h.1, fun b hb => by rw [AH.get_new_lt _ _ (Nat.lt_of_lt_of_le hb h.1)]; exact h.2 b hb⟩
@[simp] theorem Ext.put {H H' : AH} (h : Ext H H') {b : Nat} (hb : H.next ≤ b) (o : AObj) : Ext H (H'.put b o) := ⟨h.1, fun x hx => by rw [AH.get_put_ne _ _ (by omega)]; exact h.2 x hx⟩
theorem Ext.get {H H' : AH} (h : Ext H H') {b : Nat} (hb : b < H.next) : H'.get b = H.get b := h.2 b hb
theorem Ext.cells {H H' : AH} (h : Ext H H') {b : Nat} {c : List Value} {f : Option Nat} (hb : H.get b = .cells c f) : H'.get b = .cells c f := by
  rw [h.2 b (AH.lt_of_get (by rw [hb]; simp)), hb]
theorem Ext.obj {H H' : AH} (h : Ext H H') {b : Nat} {o : AObj} (ho : o ≠ .dead) (hb : H.get b = o) : H'.get b = o := by
  rw [h.2 b (AH.lt_of_get (by rw [hb]; exact ho)), hb]
theorem AH.lt_cells {H : AH} {b : Nat} {c : List Value} {f : Option Nat} (hb : H.get b = .cells c f) : b < H.next := AH.lt_of_get (by rw [hb]; simp)
end Go.AM
end
section
/- THE ABSTRACT MACHINE: slices read as rows of cells; slices that grow by append. -/
namespace Go.AM

theorem rowF_length (f : Nat → Option Value) : ∀ (n i : Nat) (l : List Value), rowF f i n = some l → l.length = n
  | 0, i, l, h => by simp [rowF] at h; subst h; rfl
  | n + 1, i, l, h => by
    simp only [rowF] at h
    cases hf : f i with
    | none => simp [hf] at h
    | some v =>
      simp only [hf, Option.bind_some] at h
      cases hr : rowF f (i + 1) n with
      | none => simp [hr] at h
      | some k => simp [hr] at h; subst h; simp [rowF_length f n _ _ hr]
theorem rowF_get (f : Nat → Option Value) : ∀ (n i : Nat) (l : List Value), rowF f i n = some l → ∀ j, j < n → f (i + j) = l[j]?
  | 0, i, l, h, j, hj => by omega
  | n + 1, i, l, h, j, hj => by
    simp only [rowF] at h
    cases hf : f i with
    | none => simp [hf] at h
    | some v =>
      simp only [hf, Option.bind_some] at h
      cases hr : rowF f (i + 1) n with
      | none => simp [hr] at h
      | some k =>
        simp [hr] at h; subst h
        cases j with
        | zero => simpa using hf
        | succ j => rw [List.getElem?_cons_succ, ← rowF_get f n (i + 1) k hr j (by omega)]; congr 1; omega
theorem rowF_some (f : Nat → Option Value) : ∀ (n i : Nat) (l : List Value), l.length = n → (∀ j, j < n → f (i + j) = l[j]?) → rowF f i n = some l
  | 0, i, l, h, _ => by have := List.eq_nil_of_length_eq_zero h; subst this; rfl
  | n + 1, i, [], h, _ => by simp at h
  | n + 1, i, v :: l, h, hf => by
    have h0 := hf 0 (by omega)
    simp at h0
    simp only [rowF, h0, Option.bind_some]
    rw [rowF_some f n (i + 1) l (by simpa using h) (fun j hj => by have := hf (j + 1) (by omega); rw [List.getElem?_cons_succ] at this; rw [← this]; congr 1; omega)]
    rfl

theorem row_length {o : AObj} {i n : Nat} {l : List Value} (h : o.row i n = some l) : l.length = n := by
  cases o with
  | cells c f => simp only [row_cells] at h; split at h <;> simp at h; subst h; simp; omega
  | ro f => exact rowF_length f n i l h
  | _ => simp [AObj.row] at h
theorem row_at {o : AObj} {i n : Nat} {l : List Value} (h : o.row i n = some l) {j : Nat} (hj : j < n) : o.cell (i + j) = l[j]? := by
  cases o with
  | cells c f =>
    simp only [row_cells] at h; split at h <;> simp at h; subst h
    simp [AObj.cell, hj]
  | ro f => exact rowF_get f n i l h j hj
  | _ => simp [AObj.row] at h
theorem row_part {o : AObj} {i n : Nat} {l : List Value} (h : o.row i n = some l) {j m : Nat} (hj : j + m ≤ n) : o.row (i + j) m = some ((l.drop j).take m) := by
  cases o with
  | cells c f =>
    simp only [row_cells] at h ⊢; split at h <;> simp at h; subst h
    rw [if_pos (by omega)]
    congr 1
    rw [List.drop_take, List.drop_drop, List.take_take, Nat.min_eq_left (by omega)]
  | ro f =>
    have hl := rowF_length f n i l h
    refine rowF_some f m (i + j) _ (by simp; omega) fun k hk => ?_
    rw [Nat.add_assoc, rowF_get f n i l h (j + k) (by omega)]
    simp [List.getElem?_take, hk]
  | _ => simp [AObj.row] at h
theorem row_notdead {o : AObj} {i n : Nat} {l : List Value} (h : o.row i n = some l) : o ≠ .dead := by
  rintro rfl; simp [AObj.row] at h

theorem flatten_part {α : Type} {sz : Nat} : ∀ (rows : List (List α)), (∀ r ∈ rows, r.length = sz) → ∀ i (h : i < rows.length), ((rows.flatten).drop (i * sz)).take sz = rows[i]
  | [], _, i, h => by simp at h
  | r :: rows, hl, 0, h => by
    have := hl r (by simp)
    simp [← this]
  | r :: rows, hl, i + 1, h => by
    have h1 := hl r (by simp)
    have ih := flatten_part rows (fun x hx => hl x (by simp [hx])) i (by simpa using h)
    simp only [List.flatten_cons, List.getElem_cons_succ]
    rw [← ih, Nat.succ_mul, List.drop_append, List.drop_eq_nil_of_le (by omega), h1]
    simp
theorem flatten_length {α : Type} {sz : Nat} (rows : List (List α)) (hl : ∀ r ∈ rows, r.length = sz) : rows.flatten.length = rows.length * sz := by
  induction rows with
  | nil => simp
  | cons r rows ih => simp [hl r (by simp), ih (fun x hx => hl x (by simp [hx])), Nat.succ_mul, Nat.add_comm]
theorem flatten_drop {α : Type} {sz : Nat} : ∀ (rows : List (List α)), (∀ r ∈ rows, r.length = sz) → ∀ i, (rows.flatten).drop (i * sz) = (rows.drop i).flatten
  | [], _, i => by simp
  | r :: rows, hl, 0 => by simp
  | r :: rows, hl, i + 1 => by
    have h1 := hl r (by simp)
    have ih := flatten_drop rows (fun x hx => hl x (by simp [hx])) i
    simp only [List.flatten_cons, List.drop_succ_cons]
    rw [← ih, Nat.succ_mul, List.drop_append, List.drop_eq_nil_of_le (by omega), h1]
    simp
theorem flatten_take {α : Type} {sz : Nat} : ∀ (rows : List (List α)), (∀ r ∈ rows, r.length = sz) → ∀ i, (rows.flatten).take (i * sz) = (rows.take i).flatten
  | [], _, i => by simp
  | r :: rows, hl, 0 => by simp
  | r :: rows, hl, i + 1 => by
    have h1 := hl r (by simp)
    have ih := flatten_take rows (fun x hx => hl x (by simp [hx])) i
    simp only [List.flatten_cons, List.take_succ_cons]
    rw [← ih, Nat.succ_mul, List.take_append, List.take_of_length_le (by omega), h1]
    simp

/-- What a slice holds, element for element. -/
structure Rows (H : AH) (sz : Nat) (v : Value) (rows : List (List Value)) : Prop where
  len : ∀ r ∈ rows, r.length = sz
  at_ : (rows = [] ∧ ∃ a, v = .slice a 0 0) ∨ ∃ b o c, v = slc b o rows.length c ∧ rows.length ≤ c ∧ fits sz (H.get b) = true ∧ (H.get b).row o (rows.length * sz) = some rows.flatten

section
variable {H H' : AH} {sz : Nat} {v : Value} {rows : List (List Value)}
theorem Rows.mono (h : Rows H sz v rows) (e : Ext H H') : Rows H' sz v rows := by
  refine ⟨h.len, ?_⟩
  rcases h.at_ with h | ⟨b, o, c, h1, h2, h3, h4⟩
  · exact .inl h
  · have := e.get (AH.lt_of_get (row_notdead h4))
    exact .inr ⟨b, o, c, h1, h2, by rw [this]; exact h3, by rw [this]; exact h4⟩
theorem Rows.lenSlc (h : Rows H sz v rows) : AM.lenSlc v = some (vi rows.length) := by
  rcases h.at_ with ⟨rfl, c, rfl⟩ | ⟨b, o, c, rfl, _⟩ <;> rfl
theorem Rows.ix (h : Rows H sz v rows) {i : Nat} (hi : i < rows.length) : ∃ b o, ixSlc sz v (vi i) = some (ptr b o) ∧ (H.get b).row o sz = some rows[i] := by
  rcases h.at_ with ⟨rfl, c, rfl⟩ | ⟨b, o, c, rfl, h2, h3, h4⟩
  · simp at hi
  · refine ⟨b, o + i * sz, ixSlc_slc sz b o _ c i hi, ?_⟩
    have hle : i * sz + sz ≤ rows.length * sz := by rw [← Nat.succ_mul]; exact Nat.mul_le_mul_right _ hi
    rw [row_part h4 hle, flatten_part rows h.len i hi]
/-- An element, loaded whole. -/
theorem Rows.elem (h : Rows H sz v rows) {i : Nat} (hi : i < rows.length) : ∃ b o, ixSlc sz v (vi i) = some (ptr b o) ∧ loadN sz (ptr b o) H = some (.agg rows[i].toArray) := by
  obtain ⟨b, o, h1, h2⟩ := h.ix hi
  exact ⟨b, o, h1, by rw [loadN_ptr, h2]; rfl⟩
theorem Rows.nil (H : AH) (sz : Nat) (a : Option Addr) : Rows H sz (.slice a 0 0) [] := ⟨by simp, .inl ⟨rfl, a, rfl⟩⟩
/-- A part of a slice: the value alone. -/
def sliceV (sz : Nat) (v : Value) (i j : Nat) : Value :=
  match v with
  | .slice none _ c => .slice none (j - i) (c - i)
  | .slice (some a) _ c => .slice (some (if c = i then a else a.add (i * sz))) (j - i) (c - i)
  | v => v
theorem Rows.slice' (h : Rows H sz v rows) {lo hi : Option Value} {i j : Nat} (hlo : lo = some (vi i) ∨ lo = none ∧ i = 0) (hhi : hi = some (vi j) ∨ hi = none ∧ j = rows.length) (hij : i ≤ j) (hj : j ≤ rows.length) :
    slSlc sz v lo hi none H = some (sliceV sz v i j) ∧ Rows H sz (sliceV sz v i j) ((rows.take j).drop i) := by
  have hb : ∀ (n c : Nat), rows.length = n → n ≤ c → (bnd hi n c) = some j ∧ bnd lo 0 j = some i := by
    intro n c hn hc
    constructor
    · rcases hhi with rfl | ⟨rfl, rfl⟩
      · simp only [bnd]; rw [if_pos (by omega)]; simp
      · simp only [bnd, hn]
    · rcases hlo with rfl | ⟨rfl, rfl⟩
      · simp only [bnd]; rw [if_pos (by omega)]; simp
      · simp only [bnd]
  have hlen : ∀ r ∈ (rows.take j).drop i, r.length = sz := fun r hr => h.len r (List.mem_of_mem_take (List.mem_of_mem_drop hr))
  rcases h.at_ with ⟨rfl, c, rfl⟩ | ⟨b, o, c, rfl, h2, h3, h4⟩
  · simp at hj; subst hj
    have : i = 0 := by omega
    subst this
    obtain ⟨e1, e2⟩ := hb 0 0 rfl (by omega)
    have e0 : bnd (none : Option Value) 0 0 = some 0 := rfl
    cases c with
    | none => exact ⟨by simp [slSlc, e0, e1, e2, sliceV], by simpa [sliceV] using Rows.nil _ _ none⟩
    | some a => exact ⟨by simp [slSlc, e0, e1, e2, sliceV], by simpa [sliceV] using Rows.nil _ _ (some a)⟩
  · obtain ⟨e1, e2⟩ := hb rows.length c rfl h2
    have hl : ((rows.take j).drop i).length = j - i := by simp; omega
    simp only [sliceV]
    refine ⟨?_, hlen, .inr ?_⟩
    · have e0 : bnd (none : Option Value) c c = some c := rfl
      simp only [slSlc, Option.isSome_none, Bool.false_and, h3, Bool.or_true, Bool.not_true, Bool.or_self, Bool.false_eq_true, if_false, e0, Option.bind_some, e1, e2]
      rw [if_pos (by omega)]
    · have hrow : ∀ o', o' = o + i * sz → (H.get b).row o' ((j - i) * sz) = some ((rows.take j).drop i).flatten := by
        rintro o' rfl
        have hle : i * sz + (j - i) * sz ≤ rows.length * sz := by rw [← Nat.add_mul]; exact Nat.mul_le_mul_right _ (by omega)
        rw [row_part h4 hle, flatten_drop rows h.len]
        congr 1
        rw [flatten_take (rows.drop i) (fun r hr => h.len r (List.mem_of_mem_drop hr))]
        congr 1
        rw [List.drop_take]
      rw [hl]
      by_cases hci : c = i
      · have hij0 : j - i = 0 := by omega
        refine ⟨b, o, c - i, by rw [if_pos hci], by omega, h3, ?_⟩
        have : ((rows.take j).drop i) = [] := List.eq_nil_of_length_eq_zero (by rw [hl, hij0])
        rw [this, hij0]
        have := row_part h4 (j := 0) (m := 0) (by omega)
        simpa using this
      · refine ⟨b, o + i * sz, c - i, ?_, by omega, h3, hrow _ rfl⟩
        rw [if_neg hci]
        simp only [Addr.add]
        by_cases hz : i * sz = 0
        · simp [hz]
        · simp [hz]
theorem Rows.slice (h : Rows H sz v rows) {lo hi : Option Value} {i j : Nat} (hlo : lo = some (vi i) ∨ lo = none ∧ i = 0) (hhi : hi = some (vi j) ∨ hi = none ∧ j = rows.length) (hij : i ≤ j) (hj : j ≤ rows.length) :
    ∃ v', slSlc sz v lo hi none H = some v' ∧ Rows H sz v' ((rows.take j).drop i) := ⟨_, (h.slice' hlo hhi hij hj).1, (h.slice' hlo hhi hij hj).2⟩
theorem Rows.made {H : AH} {b sz n : Nat} {f : Option Nat} (hg : H.get b = .cells rows.flatten f) (hf : f = none ∨ f = some sz) (hn : rows.length = n) (hl : ∀ r ∈ rows, r.length = sz) : Rows H sz (slc b 0 n n) rows := by
  subst hn
  refine ⟨hl, .inr ⟨b, 0, rows.length, rfl, Nat.le_refl _, ?_, ?_⟩⟩
  · rw [hg]; rcases hf with rfl | rfl <;> simp [fits]
  · rw [hg]; simp only [row_cells]
    rw [if_pos (by rw [flatten_length rows hl]; omega)]
    simp only [List.drop_zero, ← flatten_length rows hl, List.take_length]
end

/-! ### slices of single cells -/
abbrev Vals (H : AH) (v : Value) (l : List Value) : Prop := Rows H 1 v (l.map fun x => [x])
theorem flatten_single (l : List Value) : (l.map fun x => [x]).flatten = l := by
  induction l with
  | nil => rfl
  | cons x l ih => simp [ih]
section
variable {H : AH} {v : Value} {l : List Value}
theorem Vals.lenSlc (h : Vals H v l) : AM.lenSlc v = some (vi l.length) := by simpa using Rows.lenSlc h
theorem Vals.mono {H' : AH} (h : Vals H v l) (e : Ext H H') : Vals H' v l := Rows.mono h e
theorem Vals.elem (h : Vals H v l) {i : Nat} (hi : i < l.length) : ∃ b o, ixSlc 1 v (vi i) = some (ptr b o) ∧ (H.get b).cell o = some l[i] := by
  obtain ⟨b, o, h1, h2⟩ := Rows.ix h (i := i) (by simpa using hi)
  refine ⟨b, o, h1, ?_⟩
  have := row_at h2 (j := 0) (by omega)
  simpa using this
theorem Vals.made {H : AH} {b n : Nat} {f : Option Nat} (hg : H.get b = .cells l f) (hf : f = none ∨ f = some 1) (hn : l.length = n) : Vals H (slc b 0 n n) l :=
  Rows.made (by rw [flatten_single]; exact hg) hf (by simpa using hn) (by simp)
theorem Vals.slice (h : Vals H v l) {lo hi : Option Value} {i j : Nat} (hlo : lo = some (vi i) ∨ lo = none ∧ i = 0) (hhi : hi = some (vi j) ∨ hi = none ∧ j = l.length) (hij : i ≤ j) (hj : j ≤ l.length) :
    ∃ v', slSlc 1 v lo hi none H = some v' ∧ Vals H v' ((l.take j).drop i) := by
  have := Rows.slice h (lo := lo) (hi := hi) (i := i) (j := j) hlo (by simpa using hhi) hij (by simpa using hj)
  simpa [Vals, List.map_drop, List.map_take] using this
end

theorem Vals.slice' {H : AH} {v : Value} {l : List Value} (h : Vals H v l) {lo hi : Option Value} {i j : Nat} (hlo : lo = some (vi i) ∨ lo = none ∧ i = 0) (hhi : hi = some (vi j) ∨ hi = none ∧ j = l.length) (hij : i ≤ j) (hj : j ≤ l.length) :
    slSlc 1 v lo hi none H = some (sliceV 1 v i j) ∧ Vals H (sliceV 1 v i j) ((l.take j).drop i) := by
  have := Rows.slice' h (lo := lo) (hi := hi) (i := i) (j := j) hlo (by simpa using hhi) hij (by simpa using hj)
  simpa [Vals, List.map_drop, List.map_take] using this

/-! ### slices that grow -/
def blk : Value → Option Nat
  | .slice (some a) _ _ => some a.block
  | _ => none
/-- A slice that this call has made: the head of a block that none beside it is known to look into. -/
def Own (H0 H : AH) (sz : Nat) (v : Value) (rows : List (List Value)) : Prop :=
  (∀ r ∈ rows, r.length = sz ∧ r.all plain1 = true) ∧ ((rows = [] ∧ v = nilS) ∨ ∃ b f c cs, H0.next ≤ b ∧ v = slc b 0 rows.length c ∧ H.get b = .cells cs f ∧ rows.length ≤ c ∧ cs.length = c * sz ∧ cs.take (rows.length * sz) = rows.flatten ∧
    (f = none ∨ f = some sz ∧ c = rows.length))
section
variable {H0 H H' : AH} {sz : Nat} {v : Value} {rows : List (List Value)}
theorem Own.nil (H0 H : AH) (sz : Nat) : Own H0 H sz nilS [] := ⟨by simp, .inl ⟨rfl, rfl⟩⟩
/-- A slice made whole. -/
theorem Own.made {b n : Nat} {f : Option Nat} (hb : H0.next ≤ b) (hg : H.get b = .cells rows.flatten f) (hf : f = none ∨ f = some sz) (hn : rows.length = n) (hr : ∀ r ∈ rows, r.length = sz ∧ r.all plain1 = true) : Own H0 H sz (slc b 0 n n) rows := by
  subst hn
  have hfl := flatten_length rows fun r h => (hr r h).1
  exact ⟨hr, .inr ⟨b, f, rows.length, rows.flatten, hb, rfl, hg, Nat.le_refl _, hfl, by rw [← hfl, List.take_length], hf.imp id fun h => ⟨h, rfl⟩⟩⟩
/-- An empty slice with room. -/
theorem Own.room {b c : Nat} {cs : List Value} (hb : H0.next ≤ b) (hg : H.get b = .cells cs none) (hc : cs.length = c * sz) : Own H0 H sz (slc b 0 0 c) [] :=
  ⟨by simp, .inr ⟨b, none, c, cs, hb, rfl, hg, Nat.zero_le _, hc, by simp, .inl rfl⟩⟩
theorem Own.toRows (h : Own H0 H sz v rows) : Rows H sz v rows := by
  rcases h.2 with ⟨rfl, rfl⟩ | ⟨b, f, c, cs, h1, rfl, h3, h4, h5, h6, h7⟩
  · exact Rows.nil _ _ none
  · refine ⟨fun r hr => (h.1 r hr).1, .inr ⟨b, 0, c, rfl, h4, ?_, ?_⟩⟩
    · rw [h3]; rcases h7 with rfl | ⟨rfl, _⟩ <;> simp [fits]
    · have : rows.length * sz ≤ c * sz := Nat.mul_le_mul_right _ h4
      rw [h3, row_cells, if_pos (by omega), List.drop_zero, h6]
theorem Own.keep (h : Own H0 H sz v rows) (e : ∀ b, blk v = some b → b < H.next → H'.get b = H.get b) : Own H0 H' sz v rows := by
  refine ⟨h.1, ?_⟩
  rcases h.2 with h | ⟨b, f, c, cs, h1, rfl, h3, h4⟩
  · exact .inl h
  · exact .inr ⟨b, f, c, cs, h1, rfl, by rw [e b rfl (AH.lt_cells h3)]; exact h3, h4⟩
theorem Own.mono (h : Own H0 H sz v rows) (e : Ext H H') : Own H0 H' sz v rows := h.keep fun b _ hb => e.get hb
theorem Own.blk_ge (h : Own H0 H sz v rows) {b : Nat} (hb : blk v = some b) : H0.next ≤ b := by
  rcases h.2 with ⟨_, rfl⟩ | ⟨b', f, c, cs, h1, rfl, _⟩
  · simp [blk] at hb
  · simp [blk] at hb; omega
theorem Own.blk_lt (h : Own H0 H sz v rows) {b : Nat} (hb : blk v = some b) : b < H.next := by
  rcases h.2 with ⟨_, rfl⟩ | ⟨b', f, c, cs, h1, rfl, h3, _⟩
  · simp [blk] at hb
  · simp [blk] at hb; subst hb; exact AH.lt_cells h3
theorem firstRow_rows (h : Rows H sz v rows) : srcRow sz rows.length v H = some rows.flatten := by
  rcases h.at_ with ⟨rfl, c, rfl⟩ | ⟨b, o, c, rfl, _, _, h4⟩
  · cases c <;> simp [srcRow, firstRow]
  · unfold srcRow
    split
    · rename_i h5 _
      have : rows = [] := List.eq_nil_of_length_eq_zero h5
      simp [this]
    · simp [firstRow, h4]
theorem lenO_rows (h : Rows H sz v rows) : lenO v = some rows.length := by
  rcases h.at_ with ⟨rfl, c, rfl⟩ | ⟨b, o, c, rfl, _⟩ <;> rfl
theorem all_flatten {p : Value → Bool} {rows : List (List Value)} (h : ∀ r ∈ rows, r.all p = true) : rows.flatten.all p = true := by
  simp only [List.all_eq_true, List.mem_flatten] at h ⊢
  rintro x ⟨r, hr, hx⟩
  exact h r hr x hx
/-- What an append does to a slice that this call has made: the new slice; what else of the heap stays. -/
def Grew (H0 H H' : AH) (v v' : Value) : Prop :=
  Ext H0 H' ∧ H.next ≤ H'.next ∧ (∀ b, b < H.next → blk v ≠ some b → H'.get b = H.get b) ∧ (∀ b, blk v' = some b → blk v = some b ∨ H.next ≤ b)
theorem Own.app (h : Own H0 H sz v rows) (h0 : Ext H0 H) {bytes : Nat} {x : Value} {new : List (List Value)} (hx : Rows H sz x new) (hp : ∀ r ∈ new, r.all plain1 = true)
    (hs : sz ≠ 0) (hb : bytes ≠ 0) (h1 : (rows.length + new.length) * bytes ≤ 2 ^ 46) (h2 : rows.length + new.length < 2 ^ 62) :
    ∃ v' H', app sz bytes v x H = some (v', H') ∧ Own H0 H' sz v' (rows ++ new) ∧ Grew H0 H H' v v' := by
  have hrows := h.toRows
  have hall : ∀ r ∈ rows ++ new, r.length = sz ∧ r.all plain1 = true := by
    intro r hr
    rcases List.mem_append.1 hr with hr | hr
    · exact h.1 r hr
    · exact ⟨hx.len r hr, hp r hr⟩
  have hpn : new.flatten.all plain1 = true := all_flatten hp
  have hpo : rows.flatten.all plain1 = true := all_flatten fun r hr => (h.1 r hr).2
  have hfn := flatten_length new hx.len
  have hfo := flatten_length rows fun r hr => (h.1 r hr).1
  have hnew : srcRow sz new.length x H = some new.flatten := firstRow_rows hx
  rcases h.2 with ⟨rfl, rfl⟩ | ⟨b, f, c, cs, g1, rfl, g3, g4, g5, g6, g7⟩
  · by_cases hn : new = []
    · subst hn
      refine ⟨nilS, H, ?_, ⟨by simp, .inl ⟨rfl, rfl⟩⟩, h0, Nat.le_refl _, fun _ _ _ => rfl, fun b hb => .inl hb⟩
      have e := lenO_rows hx
      simp at e hnew
      simp [AM.app, e, hnew]
    · have hpos : 0 < new.length := List.length_pos_iff.2 hn
      refine ⟨slc H.next 0 new.length new.length, H.new (.cells new.flatten (some sz)), ?_, Own.made h0.1 (AH.get_new_self _ _) (.inr rfl) (by simp) (by simpa using hall), h0.new _, Nat.le_succ _, fun b hb _ => AH.get_new_lt _ _ hb, fun b hb => .inr (by simp [blk] at hb; omega)⟩
      simp only [AM.app, lenO_rows hx, hnew, Option.bind_some, hpn, Bool.not_true, Bool.false_eq_true, if_false]
      simp at h1 h2
      rw [if_neg (by omega), if_neg (by simp; omega)]
      simp [firstRow]
  · have hlt := AH.lt_cells g3
    have hmul : (rows.length + new.length) * sz = rows.length * sz + new.length * sz := Nat.add_mul _ _ _
    by_cases hcap : rows.length + new.length ≤ c
    · -- within what is there
      have hle : (rows.length + new.length) * sz ≤ c * sz := Nat.mul_le_mul_right _ hcap
      refine ⟨slc b 0 (rows.length + new.length) c, H.put b (.cells (splice cs (rows.length * sz) new.flatten) f), ?_, ⟨hall, .inr ⟨b, f, c, _, g1, by simp, AH.get_put_self _ _ hlt, by simpa using hcap, ?_, ?_, ?_⟩⟩, h0.put g1 _, Nat.le_refl _, ?_, fun b' hb' => .inl (by simpa [blk] using hb')⟩
      · simp only [AM.app, lenO_rows hx, hnew, Option.bind_some, hpn, Bool.not_true, Bool.false_eq_true, if_false]
        rw [if_pos hcap]
        simp only [Option.isSome_none, Bool.false_eq_true, if_false, g3]
        rw [if_pos (by omega), Nat.zero_add]
      · rw [splice_length (by omega)]; exact g5
      · simp only [List.length_append, List.flatten_append, hmul, splice]
        rw [List.take_append_of_le_length (by rw [List.length_append, List.length_take, hfn]; omega), List.take_of_length_le (by rw [List.length_append, List.length_take, hfn]; omega), g6]
      · rcases g7 with rfl | ⟨rfl, rfl⟩
        · exact .inl rfl
        · have : new.length = 0 := by omega
          exact .inr ⟨rfl, by rw [List.length_append]; omega⟩
      · intro b' _ hb'
        exact AH.get_put_ne _ _ (by intro e; subst e; simp [blk] at hb')
    · have hold : firstRow sz rows.length (slc b 0 rows.length c) H = some rows.flatten := by
        have : rows.length * sz ≤ c * sz := Nat.mul_le_mul_right _ g4
        simp only [firstRow, Option.isSome_none, Bool.false_eq_true, if_false, g3, row_cells]
        rw [if_pos (by omega), List.drop_zero, g6]
      have hfin : ∀ H1 : AH, H1.next = H.next → app sz bytes (slc b 0 rows.length c) x H = some (mkSlc (rows.length + new.length) (rows.length + new.length) H.next, H1.new (.cells (rows.flatten ++ new.flatten) (some sz))) →
          Ext H0 H1 → (∀ b', b' < H.next → b ≠ b' → H1.get b' = H.get b') →
          ∃ v' H', app sz bytes (slc b 0 rows.length c) x H = some (v', H') ∧ Own H0 H' sz v' (rows ++ new) ∧ Grew H0 H H' (slc b 0 rows.length c) v' := by
        intro H1 e1 e2 e3 e4
        refine ⟨_, _, e2, Own.made h0.1 (by rw [← e1, AH.get_new_self, List.flatten_append]) (.inr rfl) (by simp) hall, e3.new _, by rw [AH.next_new, e1]; exact Nat.le_succ _, ?_, fun b' hb' => .inr (by simp [blk] at hb'; omega)⟩
        intro b' h1 h2
        rw [AH.get_new_lt _ _ (by rw [e1]; exact h1)]
        exact e4 b' h1 (by intro e; subst e; simp [blk] at h2)
      have pre : app sz bytes (slc b 0 rows.length c) x H = (match f with
          | none => some (mkSlc (rows.length + new.length) (rows.length + new.length) H.next, H.new (.cells (rows.flatten ++ new.flatten) (some sz)))
          | some e => if e = sz then some (mkSlc (rows.length + new.length) (rows.length + new.length) H.next, (H.put b .dead).new (.cells (rows.flatten ++ new.flatten) (some sz))) else none) := by
        simp only [AM.app, lenO_rows hx, hnew, Option.bind_some, hpn, Bool.not_true, Bool.false_eq_true, if_false]
        rw [if_neg hcap, if_neg (by omega), hold]
        simp only [Option.bind_some, hpo, Bool.not_true, Bool.false_eq_true, if_false, g3]
        cases f <;> rfl
      rcases g7 with rfl | ⟨rfl, _⟩
      · exact hfin H rfl pre h0 fun _ _ _ => rfl
      · refine hfin (H.put b .dead) rfl (by rw [pre]; simp) (h0.put g1 _) fun b' h1 h2 => AH.get_put_ne _ _ (Ne.symm h2)
end
end Go.AM
end
section
/- THE ABSTRACT MACHINE: strings as lists of bytes. -/
namespace Go.AM

def str (l : List UInt8) : Value := .string ⟨l.toArray⟩
theorem str_def (l : List UInt8) : str l = .string ⟨l.toArray⟩ := rfl
@[simp] theorem str_lit (l : List UInt8) : (.string ⟨l.toArray⟩ : Value) = str l := rfl
theorem str_of (s : ByteArray) : (.string s : Value) = str s.data.toList := by simp [str_def]
@[simp] theorem str_inj (a b : List UInt8) : str a = str b ↔ a = b := by
  simp only [str_def, Value.string.injEq, ByteArray.mk.injEq]
  exact ⟨fun h => by simpa using congrArg Array.toList h, fun h => by rw [h]⟩
@[simp] theorem defd_str (l : List UInt8) : defd (str l) = true := rfl
@[simp] theorem plain1_str (l : List UInt8) : plain1 (str l) = true := rfl
@[simp] theorem vcells_str (l : List UInt8) : vcells (str l) = [str l] := rfl
@[simp] theorem cells_str (l : List UInt8) : (str l).cells = #[str l] := rfl
theorem toList_mk (l : List UInt8) : (⟨l.toArray⟩ : ByteArray).toList = l := by rw [ByteArray.toList_eq]
@[simp] theorem size_mk (l : List UInt8) : (⟨l.toArray⟩ : ByteArray).size = l.length := by simp [ByteArray.size]
@[simp] theorem lenStr_s (l : List UInt8) : lenStr (str l) = some (vi l.length) := by simp only [str_def, lenStr, size_mk]
@[simp] theorem binStr_eql (a b : List UInt8) : binStr .eql (str a) (str b) = some (.bool (decide (a = b))) := by
  simp only [str_def, binStr, toList_mk]; congr 2; rw [Bool.eq_iff_iff]; simp
@[simp] theorem binStr_neq (a b : List UInt8) : binStr .neq (str a) (str b) = some (.bool (decide (a ≠ b))) := by
  simp only [str_def, binStr, toList_mk]; congr 2; rw [Bool.eq_iff_iff]; simp
@[simp] theorem binStr_lss (a b : List UInt8) : binStr .lss (str a) (str b) = some (.bool (Op.bytesLess a b)) := by simp only [str_def, binStr, toList_mk]
theorem binStr_add (a b : List UInt8) (h : a.length + b.length < 2 ^ 63) : binStr .add (str a) (str b) = some (str (a ++ b)) := by
  simp only [str_def, binStr, size_mk]
  rw [if_pos h]
  congr 2
@[simp] theorem same_str (x y : List UInt8) : sameCell 1 (str x) (str y) = some (decide (x = y)) := by
  simp only [str_def, sameCell]; congr 1; rw [Bool.eq_iff_iff]
  show (x.toArray == y.toArray) = true ↔ _
  simp
@[simp] theorem same_bool (x y : Bool) : sameCell 2 (.bool x) (.bool y) = some (decide (x = y)) := by
  simp only [sameCell]; congr 1
@[simp] theorem same_i64 (x y : Int) : sameCell 0 (vi x) (vi y) = some (decide (x = y)) := by
  simp only [sameCell, if_true]; congr 1
theorem ixStr_s (l : List UInt8) (i : Nat) (h : i < l.length) : ixStr (str l) (vi i) = some (u8 l[i].toBitVec) := by
  simp only [str_def, ixStr]
  rw [if_pos (by omega)]
  simp only [Int.toNat_natCast]
  rw [getElem?_pos _ _ (by simpa using h)]
  rfl
@[simp] theorem byteOfV_u8 (x : BitVec 8) : byteOfV (u8 x) = some (UInt8.ofBitVec x) := by
  simp only [u8_def, byteOfV, Int.toNat_natCast]
  congr 1
  apply UInt8.toBitVec_inj.1
  simp
theorem mapM_bytes (l : List (BitVec 8)) : (l.map u8).mapM byteOfV = some (l.map UInt8.ofBitVec) := by
  induction l with
  | nil => rfl
  | cons x l ih => simp [List.mapM_cons, ih]
theorem strOf_vals {H : AH} {v : Value} {l : List (BitVec 8)} (h : Vals H v (l.map u8)) : strOf v H = some (str (l.map UInt8.ofBitVec)) := by
  rcases h.at_ with ⟨hn, c, rfl⟩ | ⟨b, o, c, rfl, _, _, h4⟩
  · simp at hn; subst hn
    cases c <;> rfl
  · simp only [List.length_map, Nat.mul_one, flatten_single] at h4
    by_cases hz : l.length = 0
    · have : l = [] := List.eq_nil_of_length_eq_zero hz
      subst this; rfl
    simp only [strOf, Option.isSome_none, Bool.false_eq_true, if_false, List.length_map, hz, h4, Option.bind_some, mapM_bytes, Option.map_some]
    rfl
@[simp] theorem sameCells_nil : sameCells [] [] [] = some true := rfl
@[simp] theorem sameCells_cons (k : Nat) (ks : List Nat) (x y : Value) (xs ys : List Value) : sameCells (k :: ks) (x :: xs) (y :: ys) = (sameCell k x y).bind fun b => (sameCells ks xs ys).map (b && ·) := rfl
@[simp] theorem binAgg_eql (ks : List Nat) (a b : List Value) : binAgg ks .eql (.agg a.toArray) (.agg b.toArray) = (sameCells ks a b).map .bool := by simp [binAgg]
@[simp] theorem binAgg_neq (ks : List Nat) (a b : List Value) : binAgg ks .neq (.agg a.toArray) (.agg b.toArray) = (sameCells ks a b).map fun t => .bool !t := by simp [binAgg]
end Go.AM
end
